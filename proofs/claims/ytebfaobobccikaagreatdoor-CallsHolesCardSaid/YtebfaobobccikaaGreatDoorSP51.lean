/- Steps. -/
import Derived.Test.YtebfaobobccikaaGreatDoorSP50
import Derived.Test.YtebfaobobccikaaGreatDoorSP49
set_option linter.all false
set_option maxRecDepth 99999
set_option maxHeartbeats 0
open Go.SL
open Go.Value renaming int->Z
open Go.Proofs.Tryz
open List renaming getElem?_eq_getElem->B3
open Int renaming tmod_eq_emod_of_nonneg->G3,tdiv_eq_ediv_of_nonneg->J3
namespace Go.Proofs.Cl
open RowKit SL Proofs.Nn Proofs.Ba Proofs.Su Proofs.Fs
variable {w:World} {l:List UInt8} {i:Nat} {T:TypeId} {F:ai}
theorem RQ (n:Int):bits .and .i64 n 16777215=n%16777216:=A7 24 (by decide) n 16777215 rfl
theorem PG {a:Option Addr} {d g:Nat} (h:Su.gV w a d g l) (n:i<d) :
  ∃ b c,a=some ⟨b,c,none⟩/\w.cell? ⟨b,c+i,none⟩=some (Z .u8 ((l.getD i 0).toNat:Int)):=by
 have t:=(Ap h).1;rcases h with ⟨rfl,rfl,rfl,rfl⟩|⟨x,rfl,p,q,r,m⟩
 .omega
 .have e:∀ j,j<d->w.cell? (x.add j)=some (Z .u8 ((l.getD j 0).toNat:Int)):=fun j s=>by
   refine m j _ ?_;rw [List.getElem?_map,B3 (by omega),Option.map_some,List.getD,B3 (by omega)];rfl
  obtain ⟨b,c,o⟩:=x;have k:=e 0 (by omega);have:o=none:=by simpa [Addr.add] using World.cell?_spot k
  subst this;have f:=e i n;rw [Addr.add_lit] at f;exact ⟨b,c,rfl,f⟩
theorem Lw {u:Value} (f:0<l.length) (h:ag w (bs T u l*F)):∃ g c,u = .slice (some ⟨g,0,none⟩) l.length c/\l.length<=c/\c<=9223372036854775807:=by
 rcases ag.dm (show ag w (sl T 1 u l.length (l.map u8)*F) from h) with ⟨_,i,_⟩|⟨g,a,e,rfl,b,d,_,_,_⟩
 .omega
 .exact ⟨g,a,rfl,b,by simpa [maxLen] using d⟩
theorem Mt {g n c i:Nat} (h:ag w (bs T (.slice (some ⟨g,0,none⟩) n c) l*F)) (b:i<l.length):w.cell? ⟨g,0+i,none⟩=some (Z .u8 ((l.getD i 0).toNat:Int)):=by
 obtain ⟨d,f,e,a⟩:=(h.me).at (by omega);simp only [Option.some.injEq,Addr.mk.injEq] at e;obtain ⟨rfl,rfl,-⟩:=e;exact a i _ (by rw [List.getD,B3 b];rfl)
def Ux (t:Pl) (q:Dk t.n) (m k:Nat) (T:Tr) (O:jT) (w:World) (a:Value) (wr:World):Prop:=
 ∃ p:Nat,p<=124000/\a = Z .i64 (p:Int)/\aj w wr/\ag wr (fu t q m T k 20 O*whole w)
def VR (M:Nat) (F:ai) (w:World) (a:Value) (wr:World):Prop:=
 ∃ n:Nat,n<=M/\a = Z .i64 (n:Int)/\aj w wr/\ag wr F
theorem C0 (w:World) (hh:oe w) (z0:Int) (a0:Option Addr) (F u:Nat) (l0:List UInt8) (K:Int) (n0:Su.gV w a0 F u l0) :
  Calls prog 6 #[Z .i64 z0,.slice a0 F u,Z .i64 K] w (Uc w):=by
 refine aH fun c2 HQ=>?_;have i1:=RQ z0;have i2:=RQ K;obtain ⟨o,ho⟩:∃ o:Nat,z0%16777216%120001=(o:Int):=⟨(z0%16777216%120001).toNat,by omega⟩
 have t1:(z0%16777216).tmod 120001=(o:Int):=by rw [G3 (by omega),ho]
 obtain ⟨s,v1⟩:∃ s:Nat,K%16777216%122881=(s:Int):=⟨(K%16777216%122881).toNat,by omega⟩
 have t2:(K%16777216).tmod 122881=(s:Int):=by rw [G3 (by omega),v1]
 have Y1:o<=120000:=by omega
 have X2:s<=122880:=by omega
 have W2:(o:Int)<=120000:=by omega
 have Y2:(s:Int)<=122880:=by omega
 obtain ⟨M1,x2,r2⟩:=Ap n0;obtain ⟨a,O1⟩:∃ m,m=min F 2000:=⟨_,rfl⟩
 have o0:=AM n0 (show a<=F by omega);obtain ⟨l,hl⟩:∃ l,l=l0.take a:=⟨_,rfl⟩
 have q1:l.length=a:=by rw [hl,List.length_take];omega
 rw [<- hl] at o0;have HH:=ae hh;have HR:=ae o0;have d:=ae q1;have R1:a<=2000:=by omega
 have H2:(a:Int)<=2000:=by omega
 have J2:min (F:Int) 2000=(a:Int):=by omega
 have N2:(a:Int)<=(u:Int):=by omega
 have y2:(F:Int)<=(u:Int):=by omega
 have u2:(u:Int)<=9223372036854775807:=by omega
 have hm:=nI w hh;have HC:=ae (show a<=u by omega);clear hh n0 o0 hl q1 O1 ho v1 M1
 go_enter func6,ntmps6
 go_wp2_with fail
 refine hm.mono ?_;rintro e w1 ⟨rfl,h1,d1⟩;have S:=sm w1 (HH.out.qk (h1.to (cW _).symm)) 20 (by decide) (by decide);rw [show ((20:Nat):Int)=20 from rfl] at S;have H1:=ae h1;have D1:=ae d1;clear hm h1 d1 HH
 go_wp2_with fail
 refine S.mono ?_;rintro e w2 ⟨h2,t,q,m,ht,-,rfl,d2,H⟩;have H:ag w2 (fu t q m eU 18 3 []*whole w1):=H;have x:ag w2 (fu t q m eU 18 3 []*whole w):=H.under H1.out;have D2:=ae (D1.out.trans d2);rcases Nat.eq_zero_or_pos a with v|v
 .have H3:=ae x
  subst v;clear S H x ht d2 D1 H1
  go_wp2_with fail
  exact HQ.out _ _ ⟨rfl,H3.out.right,D2.out⟩
 have j2:(a:Int)≠0:=by omega
 have k1:Calls prog 11 #[az t.f,.string ⟨#[47,102]⟩] w2 _:=re (p:=pF) (by decide) (GN lj (by decide)) x;have K1:=ae k1;clear S H x ht d2 D1 H1 k1
 go_wp2_with fail
 refine K1.out.mono ?_;clear K1;rintro e w3 c;obtain ⟨T1,n1,h,rfl,d3,x⟩:=c.ok fun c0 T' k' z=>z.1.trans (GN lj (by decide));obtain ⟨⟨b,j1⟩,rfl⟩:=MR lj h rfl;have D3:=ae (D2.out.trans d3);have k2:Calls prog 16 #[az t.f,.string ⟨#[47,102]⟩] w3 _:=A3 (p:=pF) (by decide) (by decide) x;have k:=ae j1;have K2:=ae k2;clear k2 c h d3 x D2 j1
 go_wp2_with fail
 refine K2.out.mono ?_;clear K2;rintro e w4 c;obtain ⟨rfl,d4,I⟩:=oO (n:=t.n) c (by rw [nJ lj k.out]) (by rw [nJ lj k.out];exact k.out.b);rw [nJ lj k.out] at I;have D4:=ae (D3.out.trans d4);have I:ag w4 (fu t q m T1 16 4 [(0,(b,0))]*whole w):=I;have K5:=ae (Ox (fd:=0) (o:=(o:Int)) (wh:=0) (by decide) rfl k.out.b (by omega) (by omega) I);have N0:=ae (show gJ (fh 1).sz 0 (o:Int) 0=0 by simp [gJ,eG];omega);clear c d4 I D3
 go_wp2_with fail
 refine K5.out.mono ?_;clear K5;rintro e w5 c;obtain ⟨rfl,d5,J⟩:=Rl (a2:=o) c N0.out (by simp [eG]);have D5:=ae (D4.out.trans d5);have K6:=ae (l8 (by decide) J);clear c d5 J D4 N0
 go_wp2_with fail
 refine K6.out.mono ?_;clear K6;rintro e w6 ⟨rfl,d6,h6⟩;have D6:=ae (D5.out.trans d6);have r0:fX 16 o (fh 1) l=0:=SJ (by rw [d.out];exact v) (by rw [d.out];exact R1) Y1 (by decide);have k7:=uN (k:=16) (B:=4) (va:=a0) (vc:=u) (l:=l) (fd:=0) (id:=b) (at':=o) (f:=fh 1) (D:=whole w) (F:=emp) (by decide) r0 (show aP (eu [((0:Int),(b,0))] 0 (b,o)) 0=some (b,o) by unfold eu;rw [jI,if_pos rfl]) k.out.b (by omega) (by rw [d.out];omega) (by rw [d.out];exact HC.out) (fun f2 b2 A=>by rw [d.out];exact (yW HR.out).carry fun g2 Z2 hu=>(A.to (ew _ _)).bJ hu) (h6.to (by rw [gQ]));rw [d.out] at k7;have K7:=ae k7;have R0:=ae r0;clear d6 h6 D5 k7 r0
 go_wp2_with fail
 refine K7.out.mono ?_;clear K7;rintro e w7 c;obtain ⟨T2,k5,h,rfl,d7,Q⟩:=c.ok fun c0 T' k' z=>z.1.trans R0.out;obtain ⟨l1,s0⟩:=RY k.out (by rw [d.out];exact v) h rfl;rw [yK (by rw [d.out];exact v) (by rw [d.out];omega),d.out,show bh (fh 1).pr=1 by decide +kernel] at s0;have D7:=ae (D6.out.trans d7);rw [gQ] at Q;have u0:aP (eu (eu [((0:Int),(b,0))] 0 (b,o)) 0 (b,o+a)) 0=some (b,o+a):=by unfold eu;rw [jI,if_pos rfl]
 generalize eu (eu [((0:Int),(b,0))] 0 (b,o)) 0 (b,o+a)=O7 at Q u0;have K8:=ae (l8 (by decide) Q);have L:=ae l1;have T0:=ae u0;have S0:=ae s0;clear c h d7 Q D6 l1 u0 s0 R0 k
 go_wp2_with fail
 refine K8.out.mono ?_;clear K8;rintro e w8 ⟨rfl,d8,h8⟩;have D8:=ae (D7.out.trans d8);have T:=LZ lj L.out
 have x1:((((fh 1).wr o l).sz:Nat):Int)=(o:Int)+(a:Int):=by
  show (((if l.length=0 then 0 else max 0 (o+l.length):Nat)):Int)=_
  rw [d.out,if_neg (by omega)];omega
 have W:Calls prog 13 #[az t.f,.string ⟨#[47,102]⟩] w8 _:=sI (p:=pF) (by decide) h8;rw [if_pos T.1,T.2,T.1,show ((fh 1).wr o l).kd=1 from rfl,show ((fh 1).wr o l).lk=1 from rfl,x1] at W;unfold Ql at W;have K9:=ae W;clear d8 h8 D7 T x1 W
 go_wp2_with fail
 refine K9.out.mono ?_;clear K9;rintro e w9 ⟨rfl,d9,h9⟩;have D9:=ae ((D8.out.trans d9).alloc (.cells #[Z .i64 1,Z .i64 1,Z .i64 ((o:Int)+(a:Int))] 35 (0,0)));have f0:=h9.alloc (.cells #[Z .i64 1,Z .i64 1,Z .i64 ((o:Int)+(a:Int))] 35 (0,0));have s2:(w9.alloc (.cells #[Z .i64 1,Z .i64 1,Z .i64 ((o:Int)+(a:Int))] 35 (0,0))).cell? ⟨w9.heap.size,2,none⟩=some (Z .i64 ((o:Int)+(a:Int))):=f0.cell 2;have G0:=ae f0.right;obtain ⟨f,p1⟩:∃ e0,(o+a-1)/480=e0:=⟨_,rfl⟩
 obtain ⟨C,r1⟩:∃ e0,o/480=e0:=⟨_,rfl⟩
 have e1:((o:Int)+(a:Int)-1).tdiv 480=(f:Int):=by rw [J3 (by omega)];omega
 have e2:(o:Int).tdiv 480=(C:Int):=by rw [J3 (by omega)];omega
 have HI:=ae (show C<=f/\f<=C+5/\f<=255 by omega);have v2:(f:Int)<=255:=by omega
 have z2:(C:Int)<=(f:Int):=by omega
 obtain ⟨B,hB⟩:∃ B:Nat,f-C+1+(if 16<=f then 1 else 0)=B:=⟨_,rfl⟩
 have L0:=ae (show (16:Int)-(k5:Int)=(B:Int) by
  have J:=S0.out;rw [p1,r1] at J;have:=HI.out;rw [<- hB];split at J <;> split <;> omega)
 have HB:=ae hB;clear d9 h9 D8 f0 hB p1 r1 S0
 go_upto_if 138 with (fail)
 generalize (w9.alloc (.cells #[Z .i64 1,Z .i64 1,Z .i64 ((o:Int)+(a:Int))] 35 (0,0)))=Z1 at *;generalize o1:decide ((16:Int)<=(f:Int))=cb
 go_cut [24] from 139 to 140 (fun u24 wx=>u24 = Z .i64 (B:Int)/\Z1=wx)
 case first=>
  cases cb with
  | true=>
   have g0:16<=f:=by have:=of_decide_eq_true o1;omega
   have h0:(f:Int)-(C:Int)+1+1=(B:Int):=by have hb:=HB.out;have:=HI.out;rw [if_pos g0] at hb;omega
   go_wp2_with fail
   go_meet
   exact ⟨by first|rfl|rw [h0],rfl⟩
  | false=>
   have g0:¬ 16<=f:=by have:=of_decide_eq_false o1;omega
   have h0:(f:Int)-(C:Int)+1=(B:Int):=by have hb:=HB.out;have:=HI.out;rw [if_neg g0] at hb;omega
   go_wp2_with fail
   go_meet
   exact ⟨by first|rfl|rw [h0],rfl⟩
 case rest=>
  obtain ⟨rfl,rfl⟩:=hcut;have q2:=L0.out;have W0:=ae (Gq (fd:=0) (z:=(s:Int)) (by decide) T0.out L.out.b G0.out);clear G0 s2 L0 HB
  go_wp2_with fail
  refine W0.out.mono ?_;clear W0;rintro e b3 c;obtain ⟨T3,k3,h,rfl,a1,f1⟩:=c.ok fun c0 T' k' z=>z.1.trans (show Mb (s:Int)=0 from if_pos (by omega));have i0:=Gy L.out h rfl;have x0:=ae (D9.out.trans a1);have X0:=ae (Gq (fd:=0) (z:=122880) (by decide) T0.out i0.b f1);have V0:=ae i0;clear c h a1 f1 D9 i0
  go_wp2_with fail
  refine X0.out.mono ?_;clear X0;rintro e a2 c;obtain ⟨N,k4,h,rfl,b1,g1⟩:=c.ok fun c0 T' k' z=>z.1.trans (show Mb 122880=0 from if_pos (by decide));have m1:=Gy V0.out h rfl;have y1:=ae (show One t.n N b [102] (wg o l (s:Int).toNat) from m1);have D0:=ae (x0.out.trans b1);have H0:=ae (As (B':=20) (by decide) (show ag a2 (fu t q m N k4 7 O7*whole w) from g1));obtain ⟨p0,U1⟩:∃ p,p=o-100:=⟨_,rfl⟩
  have M2:max ((o:Int)-100) 0=(p0:Int):=by omega
  obtain ⟨E,hE⟩:∃ E,E=min (o+a+600) 122880:=⟨_,rfl⟩
  have L2:min ((o:Int)+(a:Int)+600) 122880=(E:Int):=by omega
  have l2:E<=122880:=by omega
  have O2:p0<=120000:=by omega
  clear c h b1 g1 x0 m1 V0 L U1 hE
  go_wp2_with fail
  go_loopw [27] (fun u27 wr=>Ux t q m k4 N O7 w u27 wr) (fun u27 _=>200000-(intOf u27).toNat)
  case atStart=>exact ⟨p0,by omega,rfl,D0.out,H0.out⟩
  case round=>
   clear H0 D0;obtain ⟨p,hp,rfl,G,A⟩:=hrel;have g:=ae A;have i:=ae G;clear A G
   by_cases E2:p<E
   .have N1:(p:Int)<(E:Int):=by omega
    have R:=LY lj y1.out (a:=p);have V:Calls prog 19 #[az t.f,.string ⟨#[47,102]⟩,Z .i64 (p:Int),Z .i64 1000] wr _:=zA (p:=pF) (a:=(p:Int)) (c:=1000) (by decide) R.1 g.out;rw [R.1,R.2] at V;obtain ⟨m0,k0⟩:=LR (o:=o) (l:=l) (z:=(s:Int)) (a:=p);obtain ⟨X,hX⟩:∃ X,(wg o l (s:Int).toNat).sub p 1000=X:=⟨_,rfl⟩
    obtain ⟨M,hM⟩:∃ M,min 1000 (122880-p)=M:=⟨_,rfl⟩
    rw [hX,hM] at m0 k0;rw [hX] at V;have o2:M<=1000:=by omega
    have P2:p+M<=122880:=by omega
    have n2:0<M:=by omega
    have Y0:=ae V;have z1:=ae k0;have b0:=ae m0;clear V R hX k0 m0 g hM
    go_wp2_with fail
    refine Y0.out.mono ?_;clear Y0;rintro e c3 ⟨c1,⟨v,_⟩|⟨_,y,rfl,P⟩⟩
    .exact absurd rfl v
    have F0:=ae (i.out.trans c1);obtain ⟨E1,uc,rfl,V1,S2⟩:=Lw (by rw [b0.out];omega) P;rw [b0.out] at P V1 ⊢;have m2:(M:Int)<=(uc:Int):=by omega
    have p2:(uc:Int)<=9223372036854775807:=by omega
    have K0:=ae P;clear c1 P i
    go_wp2_with fail
    go_loopw [30] (fun u30 wr=>VR M (bs 5 (.slice (some ⟨E1,0,none⟩) M uc) X*(fu t q m N k4 20 O7*whole w)) w u30 wr) (fun u30 _=>M-(intOf u30).toNat)
    case atStart=>exact ⟨0,Nat.zero_le _,rfl,F0.out,K0.out⟩
    case round=>
     clear K0 F0;obtain ⟨n,hn,rfl,G,A⟩:=hrel;have g:=ae A;have i:=ae G;clear A G
     by_cases s1:n<M
     .have S1:(n:Int)<(M:Int):=by omega
      have U:=z1.out n s1;rw [Int.toNat_natCast] at U;obtain ⟨y,j⟩:∃ y:Nat,(X.getD n 0).toNat=y:=⟨_,rfl⟩
      have cX:=Mt g.out (i:=n) (by rw [b0.out];exact s1);rw [j,Nat.zero_add] at cX;rw [List.getD,U,Option.getD_some] at j;have L1:(o<=p+n/\p+n<o+a/\p+n<s)\/¬ o<=p+n\/(o<=p+n/\¬ p+n<o+a)\/(o<=p+n/\p+n<o+a/\¬ p+n<s):=by omega
      rcases L1 with ⟨r,D,O⟩|r|⟨r,D⟩|⟨r,D,O⟩
      .rw [if_pos ⟨r,by rw [d.out];exact D,O⟩] at j
       obtain ⟨Y,u1⟩:∃ X1,p+n-o=X1:=⟨_,rfl⟩
       rw [u1] at j;obtain ⟨ab,ao,rfl,q0⟩:=PG HR.out (i:=Y) (by omega);rw [j] at q0;have cD:wr.cell? ⟨ab,ao+Y,none⟩=some (Z .u8 (y:Int)):=(g.out.to (ax _ _ _).symm).bJ q0;have e9:(p:Int)+(n:Int)-(o:Int)=(Y:Int):=by omega
       have d0:(o:Int)<=(p:Int)+(n:Int):=by omega
       have Z0:(p:Int)+(n:Int)<(o:Int)+(a:Int):=by omega
       have A1:(p:Int)+(n:Int)<(s:Int):=by omega
       have R2:(Y:Int)<(a:Int):=by omega
       have HN:=ae hn;clear U j q0 u1 r D O hn
       go_wp2_with fail
       refine ⟨⟨n+1,by omega,by simp,i.out,g.out⟩,?_⟩;simp [intOf];omega
      all_goals
       rw [if_neg (by rw [d.out];omega)] at j;have W1:(0:Nat)=y:=j;subst W1;clear U j
      .have d0:¬ (o:Int)<=(p:Int)+(n:Int):=by omega
       clear r
       go_wp2_with fail
       refine ⟨⟨n+1,by omega,by simp,i.out,g.out⟩,?_⟩;simp [intOf];omega
      .have d0:(o:Int)<=(p:Int)+(n:Int):=by omega
       have Z0:¬ (p:Int)+(n:Int)<(o:Int)+(a:Int):=by omega
       clear r D
       go_wp2_with fail
       refine ⟨⟨n+1,by omega,by simp,i.out,g.out⟩,?_⟩;simp [intOf];omega
      .have d0:(o:Int)<=(p:Int)+(n:Int):=by omega
       have Z0:(p:Int)+(n:Int)<(o:Int)+(a:Int):=by omega
       have A1:¬ (p:Int)+(n:Int)<(s:Int):=by omega
       clear r D O
       go_wp2_with fail
       refine ⟨⟨n+1,by omega,by simp,i.out,g.out⟩,?_⟩;simp [intOf];omega
     .obtain rfl:n=M:=by omega
      have S1:¬ (n:Int)<(n:Int):=by omega
      go_wp2_with fail
      refine ⟨⟨p+1000,by omega,by simp,i.out,g.out.right⟩,?_⟩;simp [intOf];omega
   .have N1:¬ (p:Int)<(E:Int):=by omega
    go_wp2_with fail
    exact HQ.out _ _ ⟨rfl,g.out.right,i.out⟩
end Go.Proofs.Cl

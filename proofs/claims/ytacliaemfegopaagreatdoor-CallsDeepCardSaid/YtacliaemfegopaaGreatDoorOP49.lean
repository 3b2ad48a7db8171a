/- Steps. -/
import Derived.Test.YtacliaemfegopaaGreatDoorOP42
import Derived.Test.YtacliaemfegopaaGreatDoorOP48
set_option linter.all false
set_option maxRecDepth 99999
set_option maxHeartbeats 0
open Go.SL
namespace Go.Proofs.Cl
open Go.RowKit Go.SL Go.Proofs.Nn Go.Proofs.Ba Go.Proofs.Su Go.Proofs.Fs
def Sq:Value->Nat
 | .string s=>s.size
 | _=>0
def Ub (t:Pl) (q:Dk t.n) (m b a:Nat) (w:World) (u6 u7:Value) (wr:World):Prop:=
 ∃ (i r:Nat) (T:Tr) (A:Nat->Nat),i<=a+1/\r=min i a/\u6 = .string (str (pR r))/\u7 = .int .i64 (i:Int)/\FV T A r/\aj w wr/\ag wr (ig t q m T (b-2*r) (3+r) []*whole w)
def Pw (t:Pl) (q:Dk t.n) (m b a:Nat) (w:World) (u6:Value) (wr:World):Prop:=
 ∃ (r:Nat) (T:Tr) (A:Nat->Nat),r<=a/\u6 = .string (str (pR r))/\FV T A r/\aj w wr/\ag wr (ig t q m T (b-2*r) (3+a+(a-r)) []*whole w)
theorem DE (w:World) (hh:oL w) (z:Int) :
  Calls Tryz.prog 5 #[.int .i64 z] w (Se w):=by
 refine aH fun G0 HQ=>?_;have a1:=P5 z;obtain ⟨u,hu⟩:∃ u:Nat,z%65536%37=(u:Int):=⟨(z%65536%37).toNat,by omega⟩
 have t1:(z%65536).tmod 37=(u:Int):=by rw [Int.tmod_eq_emod_of_nonneg (by omega),hu]
 have u37:u<37:=by omega
 obtain ⟨N,hN⟩:∃ N,4+u=N:=⟨_,rfl⟩
 have eN:4+(u:Int)=(N:Int):=by omega
 have N4:4<=N:=by omega
 have m0:N<=40:=by omega
 obtain ⟨a,g0⟩:∃ d0,N-2=d0:=⟨_,rfl⟩
 obtain ⟨g,r0⟩:∃ r,a/2=r:=⟨_,rfl⟩
 have e2:(N:Int)-2=(a:Int):=by omega
 have e3:(a:Int).tdiv 2=(g:Int):=by rw [Int.tdiv_eq_ediv_of_nonneg (by omega)];omega
 have D0:(4:Int)<=(N:Int):=by omega
 have F0:(N:Int)<=40:=by omega
 have W0:(a:Int)<=38:=by omega
 have X0:(g:Int)<=19:=by omega
 have d:=ae (show 2*g<=a/\a<2*g+2/\g<=19 by omega);have HH:=ae hh;have hm:=th w hh;have i0:=fun w' hw=>vW w' hw N N4 m0;have f0:=ae i0;clear hh hu hN r0 u37 i0
 go_enter Tryz.func5,Tryz.ntmps5
 go_wp2_with fail
 refine hm.mono ?_;rintro e F ⟨rfl,h1,Q⟩;have h0:=f0.out F (HH.out.pE (h1.to (cW _).symm));have H1:=ae h1;have D1:=ae Q;clear hm h1 Q HH f0
 go_wp2_with fail
 refine h0.mono ?_;rintro e C ⟨H0,t,q,m,hn,-,rfl,R,D⟩;rw [g0] at D;have D:ag C (ig t q m eQ a 3 []*whole F):=D;have H2:=ae (D.under H1.out:ag C (ig t q m eQ a 3 []*whole w));have D2:=ae (D1.out.trans R);have HN:=ae hn;clear h0 D hn R D1 H1 g0
 go_wp2_with fail
 go_loopw [7,8] (fun u7 u8 wr=>Ub t q m a g w u7 u8 wr) (fun _ u8 _=>g+1-(intOf u8).toNat)
 case atStart=>exact ⟨0,0,eQ,_,Nat.zero_le _,(Nat.zero_min _).symm,rfl,rfl,LU,D2.out,H2.out⟩
 case round=>
  clear H2 D2;obtain ⟨c0,r,T,A,hi,l,rfl,rfl,J,I,K⟩:=hrel;have i:=ae K;have h:=ae I;have s:=ae J;clear K I J
  by_cases p0:c0<=g
  .obtain rfl:r=c0:=by omega
   have q0:(r:Int)<=(g:Int):=by omega
   have L:¬ 9223372036854775807<(str (pR r)).size+2:=by show ¬ _<(pR r).length+2;rw [lo];have:=d.out;omega
   have K0:str (pR r)++(⟨#[47,100]⟩:ByteArray)=str (pR (r+1)):=OL _ [47,100];have E:=GS (k:=a-2*r) s.out (by have:=d.out;omega);have n:Calls Tryz.prog 16 #[ay t.f,.string (str (pR (r+1)))] wr _:=E0 (p:=pR (r+1)) (by have:=d.out;omega) i.out;have f:=ae n
   by_cases N0:r<g
   .have o0:(r:Int)<(g:Int):=by omega
    rw [if_pos (by have:=d.out;omega)] at E;have H:=ae E;clear n E i l
    go_wp2_with fail
    refine f.out.mono ?_;clear f;rintro e w3 b;obtain ⟨Y,n1,U,rfl,k,j⟩:=b.ok fun c X k' l=>l.1.trans H.out;obtain ⟨A1,S,rfl⟩:=ME s.out (by have:=d.out;omega) U rfl (by have:=d.out;omega);have p:=ae (h.out.trans k);have o:=ae j;have k0:=ae S;clear b U k j S h
    go_wp2_with fail
    refine ⟨⟨r+1,r+1,Y,A1,by omega,by omega,rfl,by simp,k0.out,p.out,?_⟩,?_⟩
    .have:=o.out
     rw [show a-2*(r+1)=a-2*r-2 by omega];exact this
    .simp [intOf];omega
   .have o0:¬ (r:Int)<(g:Int):=by omega
    rw [if_neg (by have:=d.out;omega)] at E;have H:=ae E;clear n E i l
    go_wp2_with fail
    refine f.out.mono ?_;clear f;rintro e w3 b;obtain ⟨rfl,k,j⟩:=b.no (c0:=7) (by decide) fun c X k' l=>l.1.trans H.out;have p:=ae (h.out.trans k);have o:=ae j;clear b k j h
    go_wp2_with fail
    refine ⟨⟨r+1,r,T,A,by omega,by omega,rfl,by simp,s.out,p.out,o.out⟩,?_⟩;simp [intOf];omega
  .obtain rfl:r=g:=by omega
   have q0:¬ (c0:Int)<=(r:Int):=by omega
   have n:=Bh (by have:=d.out;omega) i.out;obtain ⟨k9,b0⟩:∃ d0,a-2*r=d0:=⟨_,rfl⟩
   have e9:(a:Int)-2*(r:Int)=(k9:Int):=by have:=d.out;omega
   rw [b0] at n;have f:=ae n;have l0:=ae b0;clear n i b0 l hi p0
   go_wp2_with fail
   refine f.out.mono ?_;clear f;rintro e w3 ⟨rfl,k,j⟩;rw [<- l0.out] at j;have p:=ae (h.out.trans k);have o:=ae j;clear k j h
   go_wp2_with fail
   go_loopw [7] (fun u7 wr=>Pw t q m a r w u7 wr) (fun u7 _=>Sq u7)
   case atStart=>exact ⟨r,T,A,Nat.le_refl _,rfl,s.out,p.out,OZ (by omega) o.out⟩
   case round=>
    clear o p s;obtain ⟨e0,T,A,u0,rfl,J,I,K⟩:=hrel;have i:=ae K;have h:=ae I;have s:=ae J;clear K I J;rcases Nat.eq_zero_or_pos e0 with rfl|Z
    .have n:=Bh (by have:=d.out;omega) i.out
     rw [Nat.mul_zero,Nat.sub_zero] at n;have f:=ae n;have V0:¬ 0<(str (pR 0)).size:=by decide
     clear n i
     go_wp2_with fail
     refine f.out.mono ?_;clear f;rintro e w4 ⟨rfl,d4,B⟩;have D4:=ae (h.out.trans d4);have G:=ae B;clear d4 B h
     go_wp2_with fail
     exact HQ.out _ _ ⟨by simp,G.out.right,D4.out⟩
    .obtain ⟨x,rfl⟩:∃ x,e0=x+1:=⟨e0-1,by omega⟩
     have L:(str (pR (x+1))).size=2*(x+1):=(show (str (pR (x+1))).size=(pR (x+1)).length from rfl).trans (lo _);have S0:0<(str (pR (x+1))).size:=by omega
     obtain ⟨y,hy⟩:∃ y,2*x=y:=⟨_,rfl⟩
     have T0:wrap64 (((str (pR (x+1))).size:Int)-2)=(y:Int):=by have:=d.out;unfold wrap64;omega
     have R0:(y:Int)<=((str (pR (x+1))).size:Int):=by omega
     have L0:(str (pR (x+1))).extract 0 y=str (pR x):=by
      rw [B8,pR,List.take_left' (by rw [lo,hy])]
     have hB:=ae (show 3+r+(r-(x+1))<=1000000 by have:=d.out;omega);have V:=ae (fun x0 Z hj=>Ej (j:=x0) s.out Z hj (by have:=d.out;omega));have P:=ae (fun C (s0:ag C (ig t q m T (a-2*(x+1)) (3+r+(r-(x+1))) []*whole w))=>FA (p:=pR (x+1)) hB.out s0);have HX:=ae (show x<r by omega)
     have O:Hid (∀ e F C,aj w F->Md t q m T (a-2*(x+1)) (3+r+(r-(x+1))) [] (sf T (a-2*(x+1)) (pR (x+1))) (whole w) F e C->e = .returned (.int .i64 0)/\Pw t q m a r w (.string (str (pR x))) C):=fun e F C Q b=>by
      obtain ⟨Y,n1,U,rfl,R,D⟩:=b.ok fun c X k' l=>l.1.trans ((V.out (x+1) (by omega) (Nat.le_refl _)).trans (if_pos rfl));obtain ⟨S,rfl⟩:=Gf s.out (by have:=d.out;omega) U rfl;refine ⟨rfl,x,Y,A,by omega,rfl,S,Q.trans R,?_⟩;rw [show a-2*x=a-2*(x+1)+2 by have:=d.out;omega,show 3+r+(r-x)=3+r+(r-(x+1))+1 by omega];exact D
     clear u0 Z hy;rcases Nat.eq_zero_or_pos x with M|M
     .have n0:(str (pR x)).toList.isEmpty=true:=by rw [M,Lib.toList_data];rfl
      have W:=ae L;clear M L
      go_wp2_with fail
      refine (P.out _ i.out).mono ?_;rintro e w4 b;obtain ⟨rfl,B⟩:=O.out _ _ _ h.out b;have G:=ae B;clear b B V P i O
      go_wp2_with fail
      refine ⟨G.out,?_⟩;show (str (pR x)).size<(str (pR (x+1))).size
      rw [W.out];show (pR x).length<_;rw [lo];omega
     .have n0:(str (pR x)).toList.isEmpty=false:=by
       obtain ⟨v,rfl⟩:∃ v,x=v+1:=⟨x-1,by omega⟩
       rw [Lib.toList_data,pR];simp [str]
      have W:=ae L;have H:=ae (V.out x M (by omega));have f:=ae (FA (p:=pR x) hB.out i.out);clear M L
      go_wp2_with fail
      refine f.out.mono ?_;rintro e w3 b;obtain ⟨rfl,k,j⟩:=b.no (c0:=11) (by decide) fun c X k' l=>l.1.trans (H.out.trans (if_neg (by omega)));have p:=ae (h.out.trans k);have o:=ae j;clear b k j f h i
      go_wp2_with fail
      refine (P.out _ o.out).mono ?_;rintro e w4 b;obtain ⟨rfl,B⟩:=O.out _ _ _ p.out b;have G:=ae B;clear b B V P o O
      go_wp2_with fail
      refine ⟨G.out,?_⟩;show (str (pR x)).size<(str (pR (x+1))).size
      rw [W.out];show (pR x).length<_;rw [lo];omega
end Go.Proofs.Cl

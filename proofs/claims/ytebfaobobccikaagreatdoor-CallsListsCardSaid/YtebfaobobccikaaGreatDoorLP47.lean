/- Steps. -/
import Derived.Test.YtebfaobobccikaaGreatDoorLP46
import Derived.Test.YtebfaobobccikaaGreatDoorLP20
set_option linter.all false
set_option maxRecDepth 99999
set_option maxHeartbeats 0
open Go.SL
open Go.Value renaming int->Z
open Go.Obj renaming cells->Y
open Go.Proofs.Tryz renaming prog->Y'
open Option renaming some->X',none->Z'
open List renaming getElem?_eq_getElem->A2
namespace Go.Proofs.Cl
open RowKit SL Proofs.Nn Proofs.Ba Proofs.Su Proofs.Fs
variable {w:World} {a:Option Addr} {cap len:Nat} {l:List UInt8}
theorem KS (h:Su.qQ w a len cap l):l.length=len/\len<=cap/\cap<=9223372036854775807:=by
 rcases h with ⟨rfl,rfl,rfl,rfl⟩|⟨x,rfl,b,c,d,e⟩
 .exact ⟨rfl,by omega,by omega⟩
 .exact ⟨d,b,by simpa [maxLen] using c⟩
theorem O4 (h:Su.qQ w a len cap l) {i:Nat} (k:i<len) :
  ∃ b c,a=X' ⟨b,c,Z'⟩/\w.cell? ⟨b,c+i,Z'⟩=X' (Z .u8 ((l.getD i 0).toNat:Int)):=by
 have r:=(KS h).1;rcases h with ⟨rfl,rfl,rfl,rfl⟩|⟨x,rfl,n,o,p,g⟩
 .omega
 .have d:∀ j,j<len->w.cell? (x.add j)=X' (Z .u8 ((l.getD j 0).toNat:Int)):=fun j q=>by
   refine g j _ ?_;rw [List.getElem?_map,A2 (by omega),Option.map_some,List.getD,A2 (by omega)];rfl
  obtain ⟨b,c,m⟩:=x;have f:=d 0 (by omega);have:m=Z':=by simpa [Addr.add] using World.cell?_spot f
  subst this;have e:=d i k;rw [Addr.add_lit] at e;exact ⟨b,c,rfl,e⟩
theorem MT {F:ai} {v:Nat} {z:Int} (a:v<256) (b:z=(v:Int)) (h:ag w F) :
  (convert 22 9 (.slice (X' ⟨w.heap.size,0,Z'⟩) 1 1)).run Y' (w.alloc (Y #[Z .u8 z] 5 (0,0))).drew = .ok (.string (str (lU v))) (w.alloc (Y #[Z .u8 z] 5 (0,0))).drew:=by
 rw [Bf a b];exact ux _ _ _ (rn (h.alloc (Y (dP (lU v)) 5 (0,0))).drew.heap)
theorem QU {k:Nat}:(⟨#[47,100,47]⟩:ByteArray)++str (lU (97+k))=str (NF k):=Pc [47,100,47] (rA k)
def Tz (t:Pl) (q:Dk t.n) (m a b:Nat) (w:World) (u8:Value) (wr:World):Prop:=
 ∃ (i k:Nat) (T:Tr) (S:Nat->Bool) (L:List aH),i<=40/\u8 = Z .i64 (i:Int)/\kx T a S L/\k+aY L.length+L.length=37/\aj w wr/\ag wr (jz t q m T k (4+i) []*(pt b (Y (zS 26 S) 4 (0,0))*whole w))
def SD (t:Pl) (q:Dk t.n) (m a b i K:Nat) (S:Nat->Bool) (w:World) (u11:Value) (wr:World):Prop:=
 u11 = Z .i64 0/\∃ (k:Nat) (T:Tr) (L:List aH),kx T a (PE S K (!S K)) L/\k+aY L.length+L.length=37/\aj w wr/\ag wr (jz t q m T k (4+(i+1)) []*(pt b (Y (zS 26 S) 4 (0,0))*whole w))
def SF (S:Nat->Bool) (F:ai) (w:World) (u16 u17:Value) (wr:World):Prop:=
 ∃ c:Nat,c<=26/\u17 = Z .i64 (c:Int)/\u16 = Z .i64 ((rB S c).length:Int)/\aj w wr/\ag wr F
theorem Bk (w:World) (hh:pM w) (a0:Option Addr) (x f0:Nat) (l0:List UInt8) (q0:Su.qQ w a0 x f0 l0) :
  Calls Y' 3 #[.slice a0 x f0] w (UJ w):=by
 refine aJ fun l1 HQ=>?_;obtain ⟨f1,O1,K1⟩:=KS q0;have HH:=ae hh;have HB:=ae q0;have R1:(x:Int)<=(f0:Int):=by omega
 have L1:(f0:Int)<=9223372036854775807:=by omega
 have hm:=Av w hh;clear hh q0 f1
 go_enter Tryz.func3,Tryz.ntmps3
 go_wp2_with fail
 refine hm.mono ?_;rintro e w1 ⟨rfl,R,d1⟩;have D0:=Ad w1 (HH.out.pQ (R.to (di _).symm)) 40 (by decide) (by decide);rw [show ((40:Nat):Int)=40 from rfl] at D0;have H1:=ae R;have D1:=ae d1;clear hm R d1 HH
 go_wp2_with fail
 refine D0.mono ?_;rintro e w2 ⟨r1,t,q,m,ht,-,rfl,d2,h2⟩;have h2:ag w2 (jz t q m fV 38 3 []*whole w1):=h2;have S:ag w2 (jz t q m fV 38 3 []*whole w):=h2.under H1.out;have D2:=ae (D1.out.trans d2);have k1:Calls Y' 9 #[az t.f,.string ⟨#[47,100]⟩] w2 _:=Fg (p:=pD) (by decide) P9 S;have r:=ae k1;clear D0 h2 S ht d2 D1 H1 k1
 go_wp2_with fail
 refine r.out.mono ?_;clear r;rintro e C v;obtain ⟨T1,n1,s,rfl,d3,S⟩:=v.ok fun c T' k' hr=>hr.1.trans P9;obtain ⟨⟨e0,N0⟩,rfl⟩:=RU s rfl;have D3:=ae ((D2.out.trans d3).alloc (Y (zS 26 fun _=>false) 4 (0,0)));have H3:=ae ((S.alloc (Y (zS 26 fun _=>false) 4 (0,0))).to (by ac_rfl:_=jz t q m T1 36 4 []*(pt C.heap.size (Y (zS 26 fun _=>false) 4 (0,0))*whole w)));have i1:(Instr.makeSlice 30 (Z .i64 26) (Z .i64 26)).run Y' C = .ok (.slice (X' ⟨C.heap.size,0,Z'⟩) 26 26) (C.alloc (Y (zS 26 fun _=>false) 4 (0,0))):=A9 26 (by decide) C;have g:=ae N0;clear v s d3 S D2 N0
 go_wp2_with fail
 generalize (C.alloc (Y (zS 26 fun _=>false) 4 (0,0)))=w4 at *;generalize C.heap.size=f at *
 go_loopw [8] (fun u8 wr=>Tz t q m e0 f w u8 wr) (fun u8 _=>x-(intOf u8).toNat)
 case atStart=>exact ⟨0,36,T1,_,[],by decide,rfl,g.out,by decide,D3.out,H3.out⟩
 case round=>
  clear H3 D3 i1 g;obtain ⟨i,W0,m1,m0,d0,hi,rfl,hT,hk,ds,hs⟩:=hrel;have M:=ae hs;have DS:=ae ds;have g:=ae hT;have I:=ae hk;clear hs ds hT hk
  by_cases h1:i<x/\i<40
  .obtain ⟨hl,u1⟩:=h1
   have N1:(i:Int)<(x:Int):=by omega
   have v1:(i:Int)<40:=by omega
   obtain ⟨ab,ao,rfl,F⟩:=O4 HB.out hl;obtain ⟨z,hz⟩:∃ z,(l0.getD i 0).toNat=z:=⟨_,rfl⟩
   have e2:z<256:=by rw [<- hz];exact UInt8.toNat_lt _
   rw [hz] at F;have cL:wr.cell? ⟨ab,ao+i,Z'⟩=X' (Z .u8 (z:Int)):=(M.out.to (ay _ _ _).symm).cF F;obtain ⟨K,y⟩:∃ K,z%26=K:=⟨_,rfl⟩
   have E:K<26:=by omega
   have z1:(K:Int)<26:=by omega
   have Z1:(z:Int).tmod 26=(K:Int):=by rw [Int.tmod_eq_emod_of_nonneg (by omega)];omega
   have c2:(z:Int)<256:=by omega
   have U:=M.out.alloc (Y #[Z .u8 (97+(K:Int))] 5 (0,0));have P:=ae (DS.out.alloc (Y #[Z .u8 (97+(K:Int))] 5 (0,0)));have g0:=Ox (v:=97+K) (z:=97+(K:Int)) (by omega) (by omega) M.out;have M1:=QU (k:=K);have Y1:¬ 9223372036854775807<3+(str (lU (97+K))).size:=by show ¬ 9223372036854775807<3+1;decide
   have p:=ae U.right;clear U F hz y M;obtain ⟨k,n⟩:∃ k,m0 K=k:=⟨_,rfl⟩
   have ct:(wr.alloc (Y #[Z .u8 (97+(K:Int))] 5 (0,0))).cell? ⟨f,K,Z'⟩=X' (.bool k):=by rw [p.out.ah.cell K,zD E,n]
   go_upto_if 53 with (fail)
   generalize (wr.alloc (Y #[Z .u8 (97+(K:Int))] 5 (0,0)))=w5 at *
   go_cut [11] from 54 to 59 (fun u11 wx=>SD t q m e0 f i K m0 w u11 wx)
   case first=>
    cases k with
    | true=>
     have V0:=zP g.out E n;have r:=ae (MN (p:=NF K) (by omega) p.out);have a1:=ae V0;clear V0 p g0
     go_wp2_with fail
     refine r.out.mono ?_;clear r;rintro e w6 v;obtain ⟨j,o,s,rfl,O,T⟩:=v.ok fun c T' k' hr=>hr.1.trans a1.out;obtain ⟨N,d,u0,u⟩:=Cj g.out E n s rfl;have D6:=ae (P.out.trans O);have H6:=ae T;have h:=ae d;have L:=ae u;clear v s O T d u0 u
     go_wp2_with fail
     go_meet
     exact ⟨rfl,o,j,N,by rw [n];exact h.out,by have:=I.out;have:=L.out;omega,D6.out,H6.out⟩
    | false=>
     have r0:=Ez (n:=W0) g.out E n (by have:=I.out;have:=g.out.le;rw [show aY d0.length=1+(d0.length+14)/15 by unfold aY;rw [if_neg (by omega),Nat.add_zero]] at *;omega);have r:=ae (CE (p:=NF K) (by omega) r0 p.out);have Y0:=ae r0;have Z0:=ae (show 8<=W0 by have:=I.out;have:=g.out.le;rw [show aY d0.length=1+(d0.length+14)/15 by unfold aY;rw [if_neg (by omega),Nat.add_zero]] at *;omega);clear r0 p g0
     go_wp2_with fail
     refine r.out.mono ?_;clear r;rintro e w6 v;obtain ⟨j,o,s,rfl,O,T⟩:=v.ok fun c T' k' hr=>hr.1.trans Y0.out;obtain ⟨N,d,u0,u⟩:=GJ g.out E n Z0.out s rfl;have D6:=ae (P.out.trans O);have H6:=ae T;have h:=ae d;have L:=ae u;clear v s O T d u0 u
     go_wp2_with fail
     go_meet
     exact ⟨rfl,o,j,N,by rw [n];exact h.out,by have:=I.out;have:=L.out;omega,D6.out,H6.out⟩
   case rest=>
    obtain ⟨rfl,o,j,N,d,u,Q,B⟩:=hcut;have c6:wc.cell? ⟨f,K,Z'⟩=X' (.bool k):=by rw [B.ah.cell K,zD E,n]
    have f6:wc.frozen? ⟨f,K,Z'⟩=false:=B.ah.frozen K;have h7:=B.ah.setCell K (.bool (!k));rw [Pw] at h7;rw [n] at d;obtain ⟨b,e1⟩:∃ b,PE m0 K (!k)=b:=⟨_,rfl⟩
    rw [e1] at h7 d;have D7:=ae (Q.setCell ⟨f,K,Z'⟩ (.bool (!k)));have X:=LC d;have k7:Calls Y' 12 #[az t.f,.string ⟨#[47,100]⟩] _ _:=ya (p:=pD) (by omega) X.1 (by rw [X.2];exact Nat.le_trans d.le (by decide)) (h7.to (aG _ _ _));rw [X.1,X.2] at k7;have K7:=ae k7;have h:=ae d;have L:=ae u;clear Q B h7 X k7 d u p g I P g0 ct
    go_wp2_with fail
    refine K7.out.mono ?_;clear K7;generalize (wc.setCell ⟨f,K,Z'⟩ (.bool (!k)))=w7 at *;rintro e w8 ⟨d8,⟨h0,_⟩|⟨_,X0,o1,l,hW,rfl,h8⟩⟩
    .exact absurd rfl h0
    have x0:=JM h.out l hW;rw [uL h.out l hW] at h8;have D8:=ae (D7.out.trans d8);have i0:=F9 h.out;have k9:Calls Y' 13 #[az t.f,.string ⟨#[47,100]⟩] w8 _:=KI (p:=pD) (by omega) (h8.to (aG _ _ _));obtain ⟨a,V⟩:∃ a,(rB b 26).length=a:=⟨_,rfl⟩
    rw [if_pos i0.1,i0.2,i0.1,<- x0,V,show ((32*a:Nat):Int)=32*(a:Int) by omega] at k9;unfold Tv at k9;have K9:=ae k9;have K0:=ae x0;clear d8 h8 l hW D7 i0 k9 x0
    go_wp2_with fail
    refine K9.out.mono ?_;clear K9;rintro e w9 ⟨rfl,d9,h9⟩
    obtain ⟨ua,H,rfl⟩:∃ e0 c,X0 = .slice e0 (rB b 26).length c:=by
     rcases ag.cW (show ag w9 (sl 9 1 X0 (rB b 26).length (strs (rB b 26))*_) from (h9.to (aG _ _ _))) with ⟨rfl,R,_,_⟩|⟨t1,p1,q1,rfl,_⟩
     .exact ⟨Z',0,by rw [R]⟩
     .exact ⟨_,_,rfl⟩
    have A1:a<=26:=by rw [<- V,K0.out];exact h.out.le
    have B1:(a:Int)<=26:=by omega
    have o0:=h9.alloc (Y #[Z .i64 2,Z .i64 1,Z .i64 (32*(a:Int))] 35 (0,0));have G0:=ae ((D8.out.trans d9).alloc (Y #[Z .i64 2,Z .i64 1,Z .i64 (32*(a:Int))] 35 (0,0)));rw [V] at o0 ⊢;obtain ⟨F0,p0⟩:∃ b1,b1=pt w9.heap.size (Y #[Z .i64 2,Z .i64 1,Z .i64 (32*(a:Int))] 35 (0,0))*(ei (.slice ua a H) (rB b 26)*(jz t q m j o (4+(i+1)) []*(pt f (Y (zS 26 b) 4 (0,0))*whole w))):=⟨_,rfl⟩
    have H0:=ae (o0.to (show _=F0 by rw [p0];ac_rfl));have k0:=ae p0;have c0:=ae V;clear d9 h9 D8 o0 p0 V K0 c6 f6
    go_wp2_with fail
    generalize (w9.alloc (Y #[Z .i64 2,Z .i64 1,Z .i64 (32*(a:Int))] 35 (0,0)))=f2 at *;generalize w9.heap.size=G at *
    go_loopw [16,17] (fun u16 u17 wr=>SF b F0 w u16 u17 wr) (fun _ u17 _=>26-(intOf u17).toNat)
    case atStart=>exact ⟨0,by decide,rfl,rfl,G0.out,H0.out⟩
    case round=>
     clear H0 G0;obtain ⟨c,E1,rfl,rfl,Q,B⟩:=hrel;have D:=ae B;have j0:=ae Q;clear B Q
     by_cases S0:c<26
     .have S1:(c:Int)<26:=by omega
      have cc:wr.cell? ⟨f,c,Z'⟩=X' (.bool (b c)):=by
       rw [(D.out.to (show _=pt f (Y (zS 26 b) 4 (0,0))*(pt G (Y #[Z .i64 2,Z .i64 1,Z .i64 (32*(a:Int))] 35 (0,0))*(ei (.slice ua a H) (rB b 26)*(jz t q m j o (4+(i+1)) []*whole w))) by rw [k0.out];ac_rfl)).cell c,zD S0]
      cases b0:b c with
      | true=>
       rw [b0] at cc;obtain ⟨J,hJ⟩:∃ J,(rB b c).length=J:=⟨_,rfl⟩
       have A:=Qk S0 b0;rw [hJ] at A ⊢
       have c1:J<a:=by
        rw [<- c0.out];rcases Nat.lt_or_ge J (rB b 26).length with n0|n0
        .exact n0
        .rw [List.getElem?_eq_none n0] at A;cases A
       have y1:¬ (a:Int)<=(J:Int):=by omega
       have x1:(J:Int)<(a:Int):=by omega
       have T0:rB b 26≠[]:=fun e=>by rw [e] at A;simp at A
       obtain ⟨lg,lc,he,R0,g1,F⟩:=nL T0 (D.out.to (show _=ei (.slice ua a H) (rB b 26)*(pt G (Y #[Z .i64 2,Z .i64 1,Z .i64 (32*(a:Int))] 35 (0,0))*(jz t q m j o (4+(i+1)) []*(pt f (Y (zS 26 b) 4 (0,0))*whole w))) by rw [k0.out];ac_rfl));simp only [Value.slice.injEq] at he;obtain ⟨rfl,-,rfl⟩:=he;have W:=F J (by rw [List.length_map,c0.out];exact c1);rw [List.getD,List.getElem?_map,A,Nat.zero_add] at W;have W:wr.cell? ⟨lg,J,Z'⟩=X' (.string (str (lU (97+c)))):=W;have U1:(a:Int)<=(H:Int):=by rw [c0.out] at R0;omega
       have V1:(H:Int)<=9223372036854775807:=by omega
       clear F R0 g1 A T0;have g0:=MT (v:=97+c) (z:=97+(c:Int)) (by omega) (by omega) D.out;have U:=D.out.alloc (Y #[Z .u8 (97+(c:Int))] 5 (0,0));have P:=ae (j0.out.alloc (Y #[Z .u8 (97+(c:Int))] 5 (0,0))).drew;have k1:(wr.alloc (Y #[Z .u8 (97+(c:Int))] 5 (0,0))).drew.cell? ⟨lg,J,Z'⟩=X' (.string (str (lU (97+c)))):=bN _ _ _ _ W;have p:=ae U.right.drew;have a2:IntKind.u8.wrap (c:Int)=(c:Int):=by rw [IntKind.wrap_u8];omega
       have b2:IntKind.u8.wrap (97+(c:Int))=97+(c:Int):=by rw [IntKind.wrap_u8];omega
       clear U
       go_wp2_with fail
       refine wp_region_held_drew (S:=fun w'=>w'.cell? ⟨lg,J,Z'⟩=X' (.string (str (lU (97+c))))) (by kernel_rfl) W (fun L0=>?_);refine tk 0 ?_;refine tk 1 ?_;refine tk 2 ?_;refine tk 3 (v:=.bool false) ?_;refine tk 4 ?_;refine tk 5 ?_;refine tk 6 ?_;refine tk 7 ?_;refine tk 8 ?_;refine tk 9 ?_;refine tk 10 ?_;refine tk 11 ?_;refine tr 12 fun K y=>?_
       go_simp
       refine y.out _ _ k1 (fun L0=>?_);clear y K;refine tr 13 fun K y=>?_
       go_simp
       refine y.out _ _ k1 (fun L0=>?_);clear y K;refine tk 14 (v:=.bool false) ?_;refine tk 15 (v:=.bool false) ?_;refine wpAnyH_done (by kernel_rfl) ?_ _
       go_wp2_with fail
       refine ⟨⟨c+1,by omega,by simp,by rw [yO b0,List.length_append,hJ];simp,P.out,p.out⟩,?_⟩;simp [intOf];omega
      | false=>
       rw [b0] at cc
       go_wp2_with fail
       refine ⟨⟨c+1,by omega,by simp,by rw [Mr b0],j0.out,D.out⟩,?_⟩;simp [intOf];omega
     .obtain rfl:c=26:=by omega
      rw [c0.out];have l:=D.out.to (show _=pt G (Y #[Z .i64 2,Z .i64 1,Z .i64 (32*(a:Int))] 35 (0,0))*(ei (.slice ua a H) (rB b 26)*(jz t q m j o (4+(i+1)) []*(pt f (Y (zS 26 b) 4 (0,0))*whole w))) by rw [k0.out]);have s0:wr.cell? ⟨G,0,Z'⟩=X' (Z .i64 2):=l.cell 0;have s1:wr.cell? ⟨G,1,Z'⟩=X' (Z .i64 1):=l.cell 1;have s2:wr.cell? ⟨G,2,Z'⟩=X' (Z .i64 (32*(a:Int))):=l.cell 2;have HP:=ae (l.right.right);clear l
      go_wp2_with fail
      refine ⟨⟨i+1,o,j,b,N,by omega,by simp,h.out,L.out,j0.out,HP.out⟩,?_⟩;simp [intOf];omega
  .have j1:(¬ (i:Int)<(x:Int))\/((i:Int)<(x:Int)/\¬ (i:Int)<40):=by omega
   rcases j1 with ho|⟨W1,X1⟩
   all_goals
    go_wp2_with fail
    exact HQ.out _ _ ⟨rfl,M.out.right.right,DS.out⟩
end Go.Proofs.Cl

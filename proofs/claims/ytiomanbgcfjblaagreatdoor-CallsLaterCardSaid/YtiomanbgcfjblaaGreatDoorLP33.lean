/- Steps. -/
import Derived.Test.YtiomanbgcfjblaaGreatDoorLP32
import Derived.Laws.StructEq
import Derived.Lib.SliceRun
set_option linter.all false
set_option maxRecDepth 99999
set_option maxHeartbeats 0
open Go.SL
open Go.Value renaming int->Z',slice->X,pointer->Y'
open Go.IntKind renaming i64->X'
open Option renaming some->Y,none->Z
open Go.Proofs.Tryz
open List renaming getD->B3,length_map->D9,length_append->D8,length_take->D7,getElem?_set->D4,getElem?_take->D3,getElem?_eq_getElem->E4,getElem?_append_left->E2,getElem?_append_right->G3
open Array renaming getElem?_toList->D2,length_toList->E3
open Nat renaming mul_one->E5
namespace Go.SL
open RowKit
variable {A l:List UInt8} {done f o off:Nat}
def putAt (l:List UInt8) (o:Nat) (d:List UInt8):List UInt8:=l.take o++d++l.drop (o+d.length)
def iK (h:o+A.length<=l.length):(putAt l o A).length=l.length:=by
 simp only [putAt,D8,D7,List.length_drop];omega
def Ej {n o:Nat} {b a xs:List Value} (d:b.take n=xs) (h:o+a.length<=n) (e:n<=b.length) :
  (b.take o++a++b.drop (o+a.length)).take n=xs.take o++a++xs.drop (o+a.length):=by
 subst d;have c:(b.take o++a).length=o+a.length:=by rw [D8,D7];omega
 rw [List.take_append,List.take_of_length_le Om0,c,List.take_take,Nat.min_eq_left Om0,List.drop_take]
def AR (a:Array Value) (o:Nat) (b:List Value) (h:o+b.length<=a.size):fQ a o b=(a.toList.take o++b++a.toList.drop (o+b.length)).toArray:=by
 apply Array.ext_getElem?;intro k;rw [jl _ _ _ _ h];have e:(a.toList.take o++b++a.toList.drop (o+b.length)).toArray[k]?=(a.toList.take o++b++a.toList.drop (o+b.length))[k]?:=Si0
 rw [e];have c:(a.toList.take o).length=o:=by rw [D7,E3];omega
 rcases Nat.lt_or_ge k o with d|d
 .rw [if_neg Om0,List.append_assoc,E2 Om0,D3,if_pos d,D2]
 .rcases Nat.lt_or_ge k (o+b.length) with f|f
  .rw [if_pos ⟨d,f⟩,List.append_assoc,G3 Om0,c,E2 Om0]
  .rw [if_neg Om0,G3 (by rw [D8,c];omega),D8,c,List.getElem?_drop,D2]
   congr 1;omega
def sI {w:World} {T:TypeId} {v:Value} {F:ai} (h:ah w (bs T v l*F)) (u:0<l.length) :
  ∃ g c a,v = X (Y ⟨g,0,Z⟩) l.length c/\l.length<=c/\c<=maxLen/\a.size=c/\w.heap[g]?=Y (.cells a T (0,0))/\(∀ j,j<l.length->w.cell? ⟨g,j,Z⟩=Y (u8 (l.getD j 0))/\w.frozen? ⟨g,j,Z⟩=false) /\
   ∀ o d,o+d.length<=l.length->ah (w.setRow g (a.toList.take o++d.map u8++a.toList.drop (o+(d.map u8).length)).toArray) (bs T v (putAt l o d)*F)/\ah (w.setCells g o (d.map u8)) (bs T v (putAt l o d)*F):=by
 rcases h.cH with ⟨_,x,_⟩|⟨g,f,a,rfl,m,h4,h5,i,b⟩
 .omega
 .rw [E5] at h5 i
  refine ⟨g,f,a,rfl,m,h4,h5,b.heap,fun j k=>⟨?_,b.frozen j⟩,fun o d p=>?_⟩
  .rw [b.cell]
   have e:=congrArg (·[j]?) i;simp only [D3,k,if_true,List.getElem?_map,D2] at e;rw [e,E4 k,B3,E4 k];rfl
  .have s:(a.toList.take o++d.map u8++a.toList.drop (o+(d.map u8).length)).take l.length=(putAt l o d).map u8:=by
    rw [Ej i (by rw [D9];exact p) (by have:=E3 (xs:=a);omega)];simp only [putAt,List.map_append,List.map_take,List.map_drop,D9]
   have t:(a.toList.take o++d.map u8++a.toList.drop (o+(d.map u8).length)).length=f:=Gr0
   have q:∀ W,ah W (pt g (.cells (a.toList.take o++d.map u8++a.toList.drop (o+(d.map u8).length)).toArray T (0,0))*F)->ah W (bs T (X (Y ⟨g,0,Z⟩) l.length f) (putAt l o d)*F):=by
    intro W r;have:=ah.nz (sz:=1) (n:=l.length) (cap:=f) r m h4 (by rw [E5];simpa using t);refine this.to ?_;rw [bs,iK p];congr 2;rw [E5];exact s
   refine ⟨q _ (b.setRow (cs':=_)),q _ ?_⟩;have n:=ah.setCells (d.map u8) o b;rw [AR a o (d.map u8) (by rw [D9,h5];omega)] at n;exact n
section
variable {σ:Type}
def Hd.nK (h:Hd) (z:Int):Hd:={ h with n:={ h.n with sz:=z } }
def Hd.jM (h:Hd) (z:Int):Hd:={ h with n:={ h.n with rw:=z } }
def Hd.Rn {h:Hd} (a:h.fit) (z:Int):(h.jM z).l=h.l.set 20 z:=by
 have e:h.l=(h.id:Int) :: h.n.kd :: h.n.lk :: h.n.sz :: (h.n.dr++(h.n.rw :: h.row)):=by simp [Hd.l,Nd.l]
 have b:(h.jM z).l=(h.id:Int) :: h.n.kd :: h.n.lk :: h.n.sz :: (h.n.dr++(z :: h.row)):=by simp [Hd.l,Nd.l,Hd.jM]
 rw [e,b];simp only [List.set_cons_succ];rw [List.set_append,if_neg (by rw [a.1];decide),a.1]
 rfl
def Hd.qL {h:Hd} (e:h.fit) (f:off<256) (b:Int) (k:Nat):(h.put off b).bA k=if k=off then b else h.bA k:=by
 unfold Hd.put Hd.bA
 by_cases d:off<16
 .rw [if_pos d]
  by_cases a:k<16
  .rw [if_pos a,if_pos a]
   by_cases c:k=off
   .subst c;simp [B3,D4,e.1,d]
   .rw [if_neg c];simp [B3,D4,Ne.symm c]
  .rw [if_neg a,if_neg a,if_neg Om0]
 .rw [if_neg d]
  by_cases a:k<16
  .rw [if_pos a,if_pos a,if_neg Om0]
  .rw [if_neg a,if_neg a]
   by_cases c:k=off
   .subst c;simp [B3,D4,e.2,show k-16<240 by omega]
   .rw [if_neg c];simp [B3,D4,show ¬ off-16=k-16 by omega]
def Hd.sX (h:Hd) (i:Nat) (b:Int):(h.put i b).n.rw=h.n.rw:=by unfold Hd.put;split <;> rfl
def Hd.Pr (h:Hd) (i:Nat) (b:Int):(h.put i b).n.sz=h.n.sz:=by unfold Hd.put;split <;> rfl
def Hd.U5 (h:Hd) (i:Nat) (b:Int):(h.put i b).id=h.id:=by unfold Hd.put;split <;> rfl
end
section
variable {σ:Type}
def iY (m a:Nat):Nat:=min m (480-a%480)
def DO (ask:dO σ) (h:Hd) (off:Nat):Nat->Nat->List UInt8->WM σ (List UInt8)
  | 0,_,A=>WM.pure A
  | f+1,done,A=>fun a=>
    if done<A.length then
      (if h.bA ((off+done)/480)=0 then DO ask h off f (done+iY (A.length-done) (off+done)) A a
       else (WM.bind (cZ ask (h.bA ((off+done)/480))) fun L=>DO ask h off f (done+iY (A.length-done) (off+done)) (putAt A done ((L.drop ((off+done)%480)).take (iY (A.length-done) (off+done))))) a)
    else (.ok A,a)
def MI (ask:dO σ) (off a:Int) (h:Hd):WM σ (List UInt8):=fun b=>
 if 0<=off/\0<=a then (if h.n.sz<=off then (.ok [],b) else DO ask h off.toNat (min a (h.n.sz-off)).toNat 0 (zs (min a (h.n.sz-off)).toNat) b) else (.bad 1,b)
def jN (ask:dO σ) (n:Nat) (node off a:Int):WM σ (List UInt8):=WM.bind (iP ask n node) (MI ask off a)
def Rm {ask:dO σ} {h:Hd} (b:A.length<=done) (a:fB σ):DO ask h off f done A a=(.ok A,a):=by
 cases f with
 | zero=>rfl
 | succ f=>exact if_neg Om0
def Tq {ask:dO σ} {h:Hd} (c:done<A.length) (b:h.bA ((off+done)/480)=0) (a:fB σ) :
  DO ask h off (f+1) done A a=DO ask h off f (done+iY (A.length-done) (off+done)) A a:=(if_pos c).trans (if_pos b)
def Wh {ask:dO σ} {h:Hd} (e:done<A.length) (d:h.bA ((off+done)/480)≠0) {b a:fB σ} {c:Int} (g:cZ ask (h.bA ((off+done)/480)) b=(.bad c,a)) :
  DO ask h off (f+1) done A b=(.bad c,a):=(if_pos e).trans ((if_neg d).trans (WM.bN g))
def V7 {ask:dO σ} {h:Hd} (d:done<A.length) (c:h.bA ((off+done)/480)≠0) {b a:fB σ} (e:cZ ask (h.bA ((off+done)/480)) b=(.ok l,a)) :
  DO ask h off (f+1) done A b=DO ask h off f (done+iY (A.length-done) (off+done)) (putAt A done ((l.drop ((off+done)%480)).take (iY (A.length-done) (off+done)))) a:=(if_pos d).trans ((if_neg c).trans (WM.bp e))
end
end Go.SL
namespace Go.Proofs.Fs
open RowKit SL Proofs.Ba
section
variable {σ α:Type}
def De:(prog.info? 5).map (·.size)=Y 1:=Kr0
def Wn (x:Wk σ) (d:Nat) (b:Hd) (off m g:Nat) (S:Hp) (F:ai) (w:World) (T:Rs (List UInt8) × fB σ) (e:Value) (wr:World):Prop:=
 ∃ (done f:Nat) (A:List UInt8) (c:fB σ) (a:Hp),done<=m/\A.length=m/\m-done<=f/\e = Z' X' (done:Int)/\DO x.c.ask b off f done A c=T/\Ext S a/\ak w wr /\
  ah wr (bs 5 (X (Y ⟨g,0,Z⟩) m m) A*(aN x a c*(al a*(aZ d b*F))))
def Fp {c:Cx σ} (hc:c.Ok) {n:Nat} (hn:n<=3840) (node off f:Int) (z p u:Nat) :
  GL c n 181 #[Y' (Y ⟨z,0,Z⟩),Y' (Y ⟨p,0,Z⟩),Y' (Y ⟨u,0,Z⟩)] iv (bM z node*(bM p off*bM u f)) (jN c.ask n node off f):=by
 intro x w k0 st g0 r1 t1 b0;subst r1 t1;have cn:w.cell? ⟨z,0,Z⟩=Y (Z' X' node):=(b0.to (by ac_rfl:_=bM z node*((bM p off*bM u f)*(aN x k0 st*(al k0*g0))))).cell 0;show Calls prog 181 #[Y' (Y ⟨x.k,0,Z⟩),Y' (Y ⟨z,0,Z⟩),Y' (Y ⟨p,0,Z⟩),Y' (Y ⟨u,0,Z⟩)] w _
 refine aK fun w1 D=>?_;have j:=oP x hc w k0 st node _ b0;obtain ⟨⟨r,h⟩,U⟩:∃ L0,iP x.c.ask x.n node st=L0:=⟨_,rfl⟩
 rw [U] at j;clear b0;obtain ⟨G,hG⟩:∃ G,G=bM z node*(bM p off*bM u f)*g0:=⟨_,rfl⟩
 rw [<- hG] at j D;have HG:=ae hG
 cases r with
 | bad cN=>
  have C:=ae (show jN x.c.ask x.n node off f st=(.bad cN,h) from WM.bN U);clear U hG
  go_enter func181,ntmps181
  go_wp2_with fail
  (with_reducible refine j.mono ?_)
  rintro e i ⟨b,Q,H,rfl,h2⟩
  go_wp2_with fail
  exact ⟨rfl,D.out _ _ (by rw [C.out];exact ⟨b,Q,H,rfl,h2⟩)⟩
 | ok a=>
  have K0:=Nd.rF (KP U).ok;obtain ⟨s0,s1⟩:0<=a.n.sz/\a.n.sz<=122880:=⟨K0.2.2.2.1,K0.2.2.2.2.1⟩
  obtain ⟨T,R⟩:∃ T,MI x.c.ask off f a h=T:=⟨_,rfl⟩
  have C:=ae (show jN x.c.ask x.n node off f st=T from (WM.bp U).trans R);have N:=ae R;clear U hG K0 R
  have sO:∀ W P,ah W (P*G)->W.cell? ⟨p,0,Z⟩=Y (Z' X' off):=fun W P hW=>by
   rw [HG.out] at hW;exact (hW.to (by ac_rfl:_=bM p off*(bM z node*(bM u f*(g0*P))))).cell 0
  have sC:∀ W P,ah W (P*G)->W.cell? ⟨u,0,Z⟩=Y (Z' X' f):=fun W P hW=>by
   rw [HG.out] at hW;exact (hW.to (by ac_rfl:_=bM u f*(bM z node*(bM p off*(g0*P))))).cell 0
  have SO:=ae sO;have SC:=ae sC;clear sO sC
  go_enter func181,ntmps181
  go_wp2_with fail
  (with_reducible refine j.mono ?_)
  rintro e i ⟨b,v,Q,H,rfl,h2⟩;obtain ⟨d,rfl,h3⟩:=ah.uj h2;have h4:ah i (aN x b h*(al b*(aZ d a*G))):=h3.to (by ac_rfl);have co:=SO.out i (aN x b h*(al b*(aZ d a))) (h4.to (by ac_rfl));have cc:=SC.out i (aN x b h*(al b*(aZ d a))) (h4.to (by ac_rfl));have c3:=(iB h3 (j:=3) (by decide)).1;rw [show a.l.getD 3 0=a.n.sz from rfl] at c3;have M:=ae h4;clear h2 h3 j cn h4
  by_cases hz:0<=off/\0<=f
  .obtain ⟨z0,z1⟩:=hz
   by_cases m0:a.n.sz<=off
   .have d0:T=(.ok [],h):=by rw [<- N.out];exact (if_pos ⟨z0,z1⟩).trans (if_pos m0)
    have E:=ae d0;clear d0 N
    go_wp2_with fail
    (with_reducible refine (iT i).mono ?_)
    rintro e K ⟨rfl,rfl⟩
    go_wp2_with fail
    go_region_held3 (fun y=>y.cell? ⟨p,0,Z⟩=Y (Z' X' off)/\y.cell? ⟨d,3,Z⟩=Y (Z' X' a.n.sz)) (first|exact ⟨co,c3⟩|go_keep) (fail)
    all_goals
     clear co cc c3
     go_wp2_with fail
     refine D.out _ _ ?_;rw [C.out,E.out];have h9:ah i.drew (iv [] (X Z 0 0)*(aN x b h*(al b*(aZ d a*G)))):=(M.out.drew.dR 5 1)
     exact ⟨b,_,Q,H.drew,rfl,(h9.to (by ac_rfl:_=aZ d a*(iv [] (X Z 0 0)*(aN x b h*(al b*G))))).right⟩
   .have H0:off<a.n.sz:=by omega
    obtain ⟨m,hm⟩:∃ m,(min f (a.n.sz-off)).toNat=m:=⟨_,rfl⟩
    obtain ⟨o,ho⟩:∃ o:Nat,off=(o:Int):=⟨off.toNat,by omega⟩
    have d0:DO x.c.ask a o m 0 (zs m) h=T:=by
     rw [<- N.out];refine Eq.symm ((if_pos ⟨z0,z1⟩).trans ((if_neg m0).trans ?_));rw [hm,ho,Int.toNat_natCast]
    have o1:min f (a.n.sz-off)=(m:Int):=by omega
    have L1:(o:Int)+m<=122880:=by omega
    have E:=ae d0;have d1:∀ w,(Instr.makeSlice 23 (Z' X' (m:Int)) (Z' X' (m:Int))).run prog w = .ok (X (Y ⟨w.heap.size,0,Z⟩) m m) (w.alloc (.cells (dP (zs m)) 5 (0,0))):=fm m (by omega);have hB:=ov m (by omega) (M.out.drew.drew);have n1:¬ (a.n.sz<=off):=m0;subst ho;clear d0 N hm m0;obtain ⟨ZB,Y0⟩:∃ j1,j1=dP (zs m):=⟨_,rfl⟩
    rw [<- Y0] at d1 hB;clear Y0
    go_wp2_with fail
    (with_reducible refine (iT i).mono ?_)
    rintro e K ⟨rfl,rfl⟩
    go_wp2_with fail
    go_region_held3 (fun y=>y.cell? ⟨p,0,Z⟩=Y (Z' X' (o:Int))/\y.cell? ⟨d,3,Z⟩=Y (Z' X' a.n.sz)) (first|exact ⟨co,c3⟩|go_keep) (fail)
    rename_i c0;have b1:decide (a.n.sz<=(o:Int))=false:=decide_eq_false (by omega);have H5:=ae M.out.drew;have D5:=ae H.drew;have x0:=SO.out i.drew (aN x b h*(al b*(aZ d a))) (H5.out.to (by ac_rfl));have u0:=SC.out i.drew (aN x b h*(al b*(aZ d a))) (H5.out.to (by ac_rfl));have r0:i.drew.cell? ⟨d,3,Z⟩=Y (Z' X' a.n.sz):=c0.2;clear c0 co cc c3 M H;generalize i.drew=K at *;rw [b1];clear b1
    go_wp2_with fail
    have q1:(if IntKind.i64.wrap (a.n.sz-(o:Int))<f then IntKind.i64.wrap (a.n.sz-(o:Int)) else f)=(m:Int):=by
     have e:IntKind.i64.wrap (a.n.sz-(o:Int))=a.n.sz-(o:Int):=by rw [IntKind.wrap_i64];omega
     rw [e];split <;> omega
    refine wp_region_held_drew (S:=(fun y=>y.cell? ⟨p,0,Z⟩=Y (Z' X' (o:Int))/\y.cell? ⟨u,0,Z⟩=Y (Z' X' f)/\y.cell? ⟨d,3,Z⟩=Y (Z' X' a.n.sz))) (by kernel_rfl) ?_ (fun c0=>?_)
    ·(first|exact ⟨x0,u0,r0⟩|go_keep)
    refine tk 0 ?_;refine tk 1 ?_;refine tk 2 ?_;refine tk 3 ?_;refine tk 4 ?_;refine tk 5 ?_;refine tk 6 ?_;refine tk 7 ?_;refine wpAnyH_take (i:=8) (v:=Z' X' (m:Int)) rfl (by kernel_rfl) (by kernel_rfl) (by kernel_rfl) (fun _ _ _ b0=>b0) (Or.inl ⟨by kernel_rfl,?_⟩) (by assumption) ?_
    .intro w m1;(try dsimp only at m1);go_simp
    try simp only [List.getElem_toArray,List.getElem_cons_succ,List.getElem_cons_zero,Act.put,List.setIfInBounds_toArray,List.set_cons_zero,List.set_cons_succ]
    refine tr 9 fun i1 hK=>?_
    go_simp
    refine hK.out _ _ ?_ (fun c0=>?_)
    ·(first|exact ⟨x0,u0,r0⟩|go_keep)
    clear hK i1;refine tk 10 ?_;refine wpAnyH_done (by kernel_rfl) ?_ _;rename_i l1;rw [show IntKind.i64.wrap (a.n.sz-(o:Int))=a.n.sz-(o:Int) from by rw [IntKind.wrap_i64];omega];have D6:ak w (K.alloc (.cells ZB 5 (0,0))).drew:=D5.out.drew.alloc (.cells ZB 5 (0,0));have T0:ah (K.alloc (.cells ZB 5 (0,0))).drew (bs 5 (X (Y ⟨K.heap.size,0,Z⟩) m m) (zs m)*(aN x b h*(al b*(aZ d a*G)))):=hB;clear c0 l1 hB x0 u0 r0 d1 q1 H5 D5;generalize (K.alloc (.cells ZB 5 (0,0))).drew=w5 at *;generalize K.heap.size=g at *;have R0:=ae T0;have K1:(m:Int)<=122880:=by omega
    have N1:(o:Int)<=122880:=by omega
    have H1:0<=(m:Int):=by omega
    clear T0 SC o1 n1 H0 z1
    go_wp2_with fail
    go_loopw [8] (fun N0 wr=>Wn x d a o m g k0 G w T N0 wr) (fun N0 _=>m-(intOf N0).toNat)
    case atStart=>exact ⟨0,m,zs m,h,b,Nat.zero_le _,aX m,Nat.le_refl _,rfl,E.out,Q,D6,R0.out⟩
    case round=>
     obtain ⟨done,F0,A,s,k,y1,S0,hf,rfl,W0,V0,dk,e0⟩:=hrel;have i0:=ae W0;have h0:=ae V0;have B:=ae S0;clear R0 E W0 V0 S0 D6
     by_cases H0:done<m
     .have E1:(done:Int)<(m:Int):=by omega
      obtain ⟨f',rfl⟩:∃ f',F0=f'+1:=⟨F0-1,by omega⟩
      have J:done<A.length:=by rw [B.out];exact H0
      have co:=SO.out wr (bs 5 (X (Y ⟨g,0,Z⟩) m m) A*(aN x k s*(al k*(aZ d a)))) (e0.to (by ac_rfl));obtain ⟨l,j⟩:∃ l,iY (A.length-done) (o+done)=l:=⟨_,rfl⟩
      have n0:l=min (m-done) (480-(o+done)%480):=by rw [<- j,B.out];rfl
      obtain ⟨q,hq⟩:∃ q,(o+done)/480=q:=⟨_,rfl⟩
      obtain ⟨r,hr⟩:∃ r,(o+done)%480=r:=⟨_,rfl⟩
      have p1:q<256:=by omega
      have R1:r<480:=by omega
      rw [hr] at n0;have A1:1<=l:=by omega
      have c1:done+l<=m:=by omega
      have D1:r+l<=480:=by omega
      have O1:((o:Int)+(done:Int)).tdiv 480=(q:Int):=by rw [Int.tdiv_eq_ediv_of_nonneg (by omega)];omega
      have S1:((o:Int)+(done:Int)).tmod 480=(r:Int):=by rw [Int.tmod_eq_emod_of_nonneg (by omega)];omega
      have M1:(if (480:Int)-(r:Int)<((m-done:Nat):Int) then (480:Int)-(r:Int) else ((m-done:Nat):Int))=(l:Int):=by split <;> omega
      have T1:(m:Int)-(done:Int)=((m-done:Nat):Int):=by omega
      have V:=B1 wr d a _ (e0.to (by ac_rfl:_=aZ d a*(bs 5 (X (Y ⟨g,0,Z⟩) m m) A*(aN x k s*(al k*G))))) q p1;unfold Uy at V
      by_cases I:a.bA q=0
      .have t:=ae ((Tq J (by rw [hq];exact I) s).symm.trans i0.out)
       rw [j] at t;rw [I] at V;clear I n0 hq hr j
       go_wp2_with fail
       (with_reducible refine V.mono ?_)
       rintro e w6 ⟨rfl,rfl⟩
       go_wp2_with fail
       go_roundw
       case rel=>exact ⟨done+l,f',A,s,k,c1,B.out,by omega,by go_num,t.out,h0.out,dk,e0⟩
       case measure=>simp [intOf];omega
      .have h1:(a.bA q != 0)=true:=by simpa using I
       have p0:=oX x hc wr k s (a.bA q) _ (e0.to (by ac_rfl:_=aN x k s*(al k*(aZ d a*(bs 5 (X (Y ⟨g,0,Z⟩) m m) A*G)))));obtain ⟨⟨r2,q0⟩,f0⟩:∃ L0,cZ x.c.ask (a.bA q) s=L0:=⟨_,rfl⟩
       rw [f0] at p0;have o0:cZ x.c.ask (a.bA ((o+done)/480)) s=(r2,q0):=by rw [hq];exact f0
       have l0:a.bA ((o+done)/480)≠0:=by rw [hq];exact I
       cases r2 with
       | bad cN=>
        have t:=ae ((Wh J l0 o0).symm.trans i0.out);clear I l0 f0 o0 n0 hq hr j;generalize a.bA q=v1 at *
        go_wp2_with fail
        (with_reducible refine V.mono ?_)
        rintro e w6 ⟨rfl,rfl⟩
        go_wp2_with fail
        (with_reducible refine p0.mono ?_)
        rintro e w4 ⟨F,G0,d4,rfl,O⟩
        go_wp2_with fail
        exact ⟨rfl,D.out _ _ (by rw [C.out,<- t.out];exact ⟨F,h0.out.trans G0,dk.trans d4,rfl,(O.to (by ac_rfl:_=(aZ d a*bs 5 (X (Y ⟨g,0,Z⟩) m m) A)*(aN x F q0*(al F*G)))).right⟩)⟩
       | ok L=>
        have HL:=ae (j3 f0);have t:=ae ((V7 J l0 o0).symm.trans i0.out);rw [j,hr] at t;clear I l0 f0 o0 n0 hq hr j;generalize a.bA q=v1 at *
        go_wp2_with fail
        (with_reducible refine V.mono ?_)
        rintro e w6 ⟨rfl,rfl⟩
        go_wp2_with fail
        (with_reducible refine p0.mono ?_)
        rintro e w4 ⟨F,v4,G0,d4,rfl,O⟩;unfold iv at O;obtain ⟨ga,ca,x1,rfl,a1,a2,a3,a4,a5,a6⟩:=sI O (by rw [HL.out];decide);obtain ⟨g',c',D0,e,k1,k2,k3,k4,k5,k6⟩:=sI (O.to (by ac_rfl:_=bs 5 (X (Y ⟨g,0,Z⟩) m m) A*(bs 5 (X (Y ⟨ga,0,Z⟩) L.length ca) L*(aN x F q0*(al F*(aZ d a*G)))))) (Nat.lt_of_le_of_lt (Nat.zero_le _) J);simp only [Value.slice.injEq,Option.some.injEq,Addr.mk.injEq] at e;obtain ⟨⟨rfl,-,-⟩,-,rfl⟩:=e;have S:((L.drop r).take l).length=l:=by rw [D7,List.length_drop,HL.out];omega
        have h7:=(k6 done ((L.drop r).take l) (by rw [S,B.out];omega)).1
        have Z0:=fun ty=>run_copy_row (P:=prog) w4 23 23 ty 5 g done l (m-done) ⟨ga,r,Z⟩ (480-r) (ca-r) D0 5 (((L.drop r).take l).map u8) underlying23 De k4
         (by rw [D9,S];exact (Nat.min_eq_right (by omega)).symm)
         (fun e1 v hv=>by
          have hj:e1<l:=by rw [<- S];simpa using (List.getElem?_eq_some_iff.1 hv).1
          rw [Addr.add_lit,(a5 (r+e1) (by rw [HL.out];omega)).1,<- hv,List.getElem?_map,D3,if_pos hj,List.getElem?_drop];rw [B3,E4 (by rw [HL.out];omega)];rfl)
         (by rw [D9,S,k3];omega) (s5 _)
        generalize (D0.toList.take done++((L.drop r).take l).map u8++D0.toList.drop (done+(((L.drop r).take l).map u8).length)).toArray=RW at *;have f1:=ae Z0;have g1:=ae S;have h8:=ae h7.aj.right;rw [HL.out] at a1 ⊢;clear p0 V O h7 Z0 S a2 a3 a4 a5 a6 k1 k2 k4 k5 k6
        go_wp2_with (refine fI (f1.out _) _ _ rfl rfl rfl rfl rfl ?_)
        go_roundw
        case rel=>exact ⟨done+l,f',putAt A done ((L.drop r).take l),q0,F,c1,by rw [iK (by rw [g1.out,B.out];omega)];exact B.out,by omega,by go_num,t.out,h0.out.trans G0,(dk.trans d4).setRow _ _,h8.out⟩
        case measure=>simp [intOf];omega
     .have J:A.length<=done:=by rw [B.out];omega
      have t:=ae ((Rm (ask:=x.c.ask) (h:=a) (off:=o) (f:=F0) J s).symm.trans i0.out);clear J
      go_wp2_with fail
      refine D.out _ _ ?_;rw [C.out,<- t.out]
      exact ⟨k,_,h0.out,dk,rfl,by
       show ah wr (bs 5 _ A*_)
       exact (e0.to (by ac_rfl:_=aZ d a*(bs 5 (X (Y ⟨g,0,Z⟩) m m) A*(aN x k s*(al k*G))))).right⟩
  .have R:T=(.bad 1,h):=by rw [<- N.out];exact if_neg hz
   have E:=ae R;clear R N
   by_cases V1:0<=off
   .have u1:decide (0<=f)=false:=decide_eq_false (by omega)
    clear hz
    go_wp2_with fail
    (with_reducible refine (jv i).mono ?_)
    rintro e w4 ⟨rfl,rfl⟩
    go_wp2_with fail
    exact ⟨rfl,D.out _ _ (by rw [C.out,E.out];exact ⟨b,Q,H,rfl,(M.out.to (by ac_rfl:_=aZ d a*(aN x b h*(al b*G)))).right⟩)⟩
   .have u1:off<0:=by omega
    clear hz
    go_wp2_with fail
    (with_reducible refine (jv i).mono ?_)
    rintro e w4 ⟨rfl,rfl⟩
    go_wp2_with fail
    exact ⟨rfl,D.out _ _ (by rw [C.out,E.out];exact ⟨b,Q,H,rfl,(M.out.to (by ac_rfl:_=aZ d a*(aN x b h*(al b*G)))).right⟩)⟩
end
end Go.Proofs.Fs

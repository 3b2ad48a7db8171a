/- Steps. -/
import Derived.Test.YtacliaemfegopaaGreatDoorKP26
import Derived.Test.YtacliaemfegopaaGreatDoorKP14
set_option linter.all false
set_option maxRecDepth 99999
set_option maxHeartbeats 0
open Go.SL
open Go.Value renaming int->Z,slice->U,pointer->R,string->Y
open Go.Obj renaming cells->W
open Go renaming World->Q
open Go.Proofs.Tryz renaming prog->S
open Option renaming some->X,none->V
open Go.Proofs.Tryz
open List renaming length_append->A1,length_singleton->D1,range->E1,getD->H1,nil_append->K1,getElem?_append_left->L1,getElem?_eq_getElem->M1,getElem?_eq_none->N1
namespace Go.SL
open Go.RowKit
theorem M8 {e:aN} (h:e.ok=true):bM 32 ((dg e.nd 2++dg e.nm.length 1)++e.nm)=e.enc:=by
 have a:=oI.1 (aN.kX.1 h).2.2;unfold bM aN.enc;rw [List.take_append,List.take_of_length_le (by simp only [A1,aU];omega)];simp only [List.append_assoc];congr 3;unfold zs;rw [List.take_replicate];congr 1;simp only [A1,aU];omega
end Go.SL
namespace Go.Proofs.Fs
open Go.RowKit Go.SL Go.Proofs.Ba
def Qp (e:aN) (w0:Q) (F:ai) (v u:Value) (wr:Q):Prop:=
 ∃ k:Nat,k<=1/\u = Z .i64 (k:Int)/\aj w0 wr/\ag wr (bs 5 v (if k=0 then [] else e.enc)*F)
def RO (l:List UInt8) (F:ai) (w:Q) (e:Ending) (a:Q):Prop:=∃ v,e = .returned (.tuple #[v,Z .i64 0])/\ag a (bs 5 v l*F)/\aj w a
theorem zh (w:Q) (g:Nat) (j:Nat × Nat) (e:aN) (O:e.ok=true) (F:ai) (k0:ag w (pt g (W #[Z .i64 (e.nd:Int),Y (str e.nm)] 99 j)*F)) :
  Calls S 189 #[U (X ⟨g,0,V⟩) 1 1] w (RO (bM 480 e.enc) (pt g (W #[Z .i64 (e.nd:Int),Y (str e.nm)] 99 j)*F) w):=by
 refine aJ fun V0 HQ=>?_;obtain ⟨o1,o2,o3⟩:=aN.kX.1 O;have S0:=oI.1 o3;have u0:ag w (bs 5 (U V 0 0) []*(pt g (W #[Z .i64 (e.nd:Int),Y (str e.nm)] 99 j)*F)):=k0.eC _ _;have e0:=ae u0;have C:=ae O;have q1:(e.nd:Int)<=3839:=by omega
 have q0:(0:Int)<=(e.nd:Int):=by omega
 obtain ⟨m,hm⟩:∃ m,e.nm.length=m:=⟨_,rfl⟩
 have Y0:m<=28:=by omega
 have Z0:(m:Int)<=28:=by omega
 have N:=ae hm;have N0:=gV e.nm;rw [hm] at N0;clear k0 u0 O o3 S0 hm
 go_enter func189,ntmps189
 go_wp2_with fail
 go_loopw [4,13] (fun v b0 wr=>Qp e w (pt g (W #[Z .i64 (e.nd:Int),Y (str e.nm)] 99 j)*F) v b0 wr) (fun _ b0 _=>1-(intOf b0).toNat)
 case atStart=>exact ⟨0,by decide,rfl,aj.refl w,e0.out⟩
 case round=>
  obtain ⟨k,hk,rfl,s0,a⟩:=hrel;clear e0
  by_cases L0:k=0
  .subst L0
   rw [if_pos rfl] at a;have c0:wr.cell? ⟨g,0,V⟩=X (Z .i64 (e.nd:Int)):=a.ah.cell 0;have c1:wr.cell? ⟨g,1,V⟩=X (Y (str e.nm)):=a.ah.cell 1;have hA:=a.alloc (W #[Z .i64 (e.nd:Int),Y (str e.nm)] 99 (0,0));have dA:=ae (s0.alloc (W #[Z .i64 (e.nd:Int),Y (str e.nm)] 99 (0,0)));have hr:=sZ (wr.alloc (W #[Z .i64 (e.nd:Int),Y (str e.nm)] 99 (0,0))) e;rw [C.out] at hr;have Hr:=ae hr;have HA:=ae hA;have R0:=aC a;obtain ⟨q,s,rfl⟩:=R0;clear a hA hr
   go_wp2_with fail
   refine Hr.out.mono ?_;generalize wr.alloc (W #[Z .i64 (e.nd:Int),Y (str e.nm)] 99 (0,0))=w1 at *;generalize wr.heap.size=i at *;rintro r w2 ⟨rfl,h2,d2⟩;have I:=h2.dU HA.out;have D3:=ae (dA.out.trans d2);have t0:w2.cell? ⟨i,0,V⟩=X (Z .i64 (e.nd:Int)):=I.cell 0;have t1:w2.cell? ⟨i,1,V⟩=X (Y (str e.nm)):=I.cell 1;have p:=eO w2 (U V 0 0) [] 2 (e.nd:Int) ⟨rfl,.inl ⟨rfl,rfl⟩⟩ (by decide) (by decide) (by omega) (by omega);rw [K1] at p;have Hp:=ae p;have H3:=ae I;clear p I h2 Hr HA c0 c1 d2 dA
   go_wp2_with fail
   refine Hp.out.mono ?_;rintro r w4 ⟨v4,rfl,h4,d4⟩;have l:=h4.under H3.out;have D5:=ae (D3.out.trans d4);have t0:w4.cell? ⟨i,0,V⟩=X (Z .i64 (e.nd:Int)):=l.ah.cell 0;have t1:w4.cell? ⟨i,1,V⟩=X (Y (str e.nm)):=l.ah.cell 1;have p:=eO w4 v4 (dg e.nd 2) 1 (m:Int) l.nH (by rw [aU];omega) (by decide) (by omega) (by omega);have f0:=ae p;have H5:=ae l;obtain ⟨T0,U0,rfl⟩:=aC l;clear p h4 l Hp H3 D3 d4
   go_wp2_with fail
   refine f0.out.mono ?_;rintro r w6 ⟨v6,rfl,h6,d6⟩;have o:=h6.under H5.out;obtain ⟨h,K⟩:∃ h,dg (e.nd:Int) 2++dg (m:Int) 1=h:=⟨_,rfl⟩
   have B:h.length=3:=by rw [<- K,A1,aU,aU]
   rw [K] at o;have d0:=ae K;have D7:=D5.out.trans d6;have t0:w6.cell? ⟨i,0,V⟩=X (Z .i64 (e.nd:Int)):=o.aq.cell 0;have t1:w6.cell? ⟨i,1,V⟩=X (Y (str e.nm)):=o.aq.cell 1;obtain ⟨i0,hi,hz,r0,n0⟩:=info_parts gj;obtain ⟨v7,M,d,J,d8⟩:=ag.LF (P:=S) (t:=37) (u:=9) (ty:=37) underlying37 underlying9 hi hz r0 n0 o e.nm (by rw [N.out,B];omega);have D8:=ae (D7.trans d8);obtain ⟨b1,d1,rfl⟩:=aC o;have c:=nD M v7 _ J.nH 32 (by decide);have p0:bM 32 (h++e.nm)=e.enc:=by rw [<- d0.out,<- N.out];exact M8 C.out
   rw [p0] at c;obtain ⟨x0,D0,rfl⟩:=aC J;have o0:(h++e.nm).length=3+m:=by rw [A1,B,N.out]
   rw [o0] at c d;rw [B] at d;have z:Calls S 165 #[U x0 (3+m) D0,Z .i64 32] M (yj e.enc M):=c
   have m0:ag M (bs 5 (U q 0 s) []*(pt g (W #[Z .i64 (e.nd:Int),Y (str e.nm)] 99 j)*F)):=by
    exact (J.to (by ac_rfl:_=(bs 5 (U x0 (h++e.nm).length D0) (h++e.nm)*(bs 5 (U T0 (dg (e.nd:Int) 2).length U0) (dg (e.nd:Int) 2)*pt i (W #[Z .i64 (e.nd:Int),Y (str e.nm)] 99 (0,0))))*(bs 5 (U q 0 s) []*(pt g (W #[Z .i64 (e.nd:Int),Y (str e.nm)] 99 j)*F)))).right
   have t:=ae z;have g0:=ae d;have H8:=ae m0;rw [B];clear hi hz r0 n0 c z d J m0 o h6 H5 f0 D5 D7 d6 d8 p0 o0 B K
   go_wp2_with (at_builtin;refine oo g0.out _ _ rfl rfl rfl rfl rfl ?_)
   refine t.out.mono ?_;rintro r w9 ⟨v9,rfl,u,E⟩;have y:=aN.dS C.out;have G:=u.under H8.out;obtain ⟨e1,f1,rfl⟩:=aC G;have P:=y;obtain ⟨a1,g1,d,H,h0,W0,X0,rfl⟩:=gP (l:=[]) (m:=e.enc) (v:=U q 0 s) (G.ah) G.nH (by decide) (by omega);rw [K1] at H;simp only [List.length_nil,Nat.zero_add,P] at d H;have K0:=ae d;have F0:=ae ((D8.out.trans E).trans h0);have l0:=H.ig;have H0:=ae l0;rw [P];clear g0 d H l0 G u H8 t D8 E h0 y P d0
   go_wp2_with (at_builtin;refine wpList_append_run K0.out _ _ rfl rfl rfl rfl rfl ?_)
   go_roundw
   case rel=>exact ⟨1,Nat.le_refl _,by go_num,F0.out,by rw [if_neg (by decide)];exact H0.out⟩
   case measure=>simp [intOf]
  .obtain rfl:k=1:=by omega
   rw [if_neg (by decide)] at a;have y:=aN.dS C.out;obtain ⟨q,s,rfl⟩:=aC a;have c:=nD wr (U q e.enc.length s) e.enc a.nH 480 (by decide);rw [y] at c ⊢;have z:Calls S 165 #[U q 32 s,Z .i64 480] wr (yj (bM 480 e.enc) wr):=c;have t:=ae z;have HS:=ae a.right;clear c z a y
   go_wp2_with fail
   refine t.out.mono ?_;rintro r w9 ⟨v9,rfl,u,E⟩;have G0:=ae (u.under HS.out);clear u t
   go_wp2_with fail
   exact HQ.out _ _ ⟨v9,by simp,G0.out,s0.trans E⟩
end Go.Proofs.Fs
namespace Go.SL
open Go.RowKit
def gT (lk:Int) (L:List aN):AF:=⟨2,lk,32*L.length,fun p=>(dM L).getD p 0,fun i=>decide (15*i<L.length)⟩
theorem Jt:iM 2=gT 1 []:=by
 unfold iM gT;congr 1
abbrev AU (L:List aN):Prop:=∀ e ∈ L,e.ok=true
theorem Av {L:List aN} {e:aN} (h:AU L) (c:e.ok=true):AU (L++[e]):=fun x d=>by
 rcases List.mem_append.1 d with a|a
 .exact h x a
 .rw [List.mem_singleton.1 a];exact c
theorem jh {lk:Int} {L:List aN} (h:AU L) (a:L.length<=3840):EL (gT lk L) L:=⟨rfl,rfl,h,fun p _=>rfl,a⟩
theorem q9:∀ {L:List aN} (_:AU L) (p:Nat),(dM L).getD p 0=((L[p/32]?).map fun e=>e.enc.getD (p%32) 0).getD 0
 | [],_,p=>by simp [dM]
 | e :: L,h,p=>by
  have g:=aN.dS (h e List.mem_cons_self);have d:dM (e :: L)=e.enc++dM L:=rfl;rw [d]
  by_cases l:p<32
  .have a:p/32=0:=by omega
   have c:p%32=p:=by omega
   rw [a,c,List.getElem?_cons_zero,Option.map_some,Option.getD_some,H1,L1 (by omega)];rfl
  .have j:=q9 (L:=L) (fun x i=>h x (List.mem_cons_of_mem _ i)) (p-32)
   have a:p/32=(p-32)/32+1:=by omega
   have c:p%32=(p-32)%32:=by omega
   rw [a,c,List.getElem?_cons_succ,<- j,H1,List.getElem?_append_right (by omega),g];rfl
theorem GK {f:AF} {lk:Int} {L:List aN} (g:f.kd=2) (h:f.lk=lk) (j:f.sz=32*L.length) (l:∀ p,f.p9 p=(dM L).getD p 0) (m:∀ i,f.pr i=decide (15*i<L.length)):f=gT lk L:=by
 obtain ⟨a,b,c,d,e⟩:=f;dsimp only at g h j l m;subst g h j;unfold gT;congr 1
 .funext p;exact l p
 .funext p;exact m p
theorem uh {lk:Int} {L:List aN} {e:aN} (h:AU L) (c:e.ok=true):(gT lk L).wr (32*L.length) e.enc=gT lk (L++[e]):=by
 have a:=aN.dS c;refine GK rfl rfl ?_ (fun p=>?_) fun i=>?_
 .show (if e.enc.length=0 then 32*L.length else max (32*L.length) (32*L.length+e.enc.length))=_
  rw [if_neg (by omega),a,A1,D1];omega
 .show (if 32*L.length<=p/\p<32*L.length+e.enc.length then e.enc.getD (p-32*L.length) 0 else (dM L).getD p 0)=_
  rw [q9 (Av h c),q9 h,a]
  split
  .rename_i l
   have d:p/32=L.length:=by omega
   have g:p%32=p-32*L.length:=by omega
   rw [d,g];simp
  .rename_i l
   by_cases j:p/32<L.length
   .rw [L1 j]
   .rw [N1 (by omega),N1 (by rw [A1,D1];omega)]
 .show (decide (15*i<L.length) || cI (32*L.length) e.enc.length i)=decide (15*i<(L++[e]).length)
  rw [a,A1,D1,Bool.eq_iff_iff,Bool.or_eq_true,cH,decide_eq_true_iff,decide_eq_true_iff];omega
theorem lH (f:Nat):∀ m,(E1 m).countP (fun i=>decide (i<f))=min f m
 | 0=>by simp
 | m+1=>by
  rw [List.range_succ,List.countP_append,lH f m];simp only [List.countP_cons,List.countP_nil,Nat.zero_add]
  by_cases h:m<f
  .rw [if_pos (decide_eq_true h)];omega
  .rw [if_neg (by simpa using h)];omega
def cD (l:Nat):Nat:=1+(l+14)/15+if 240<l then 1 else 0
theorem mS {lk:Int} {L:List aN} (l:L.length<=3840):cm (gT lk L).pr=cD L.length:=by
 unfold cm cD
 have d:jo (gT lk L).pr=(L.length+14)/15:=by
  have:jo (gT lk L).pr=jo fun i=>decide (i<(L.length+14)/15):=ow fun i _=>by
   show decide (15*i<L.length)=_
   rw [Bool.eq_iff_iff,decide_eq_true_iff,decide_eq_true_iff];omega
  rw [this];unfold jo;rw [lH];omega
 rw [d];congr 1
 by_cases h:240<L.length
 .rw [if_pos h,if_pos (fY.2 ⟨16,by omega,by omega,decide_eq_true (by omega)⟩)]
 .rw [if_neg h,if_neg]
  intro a;obtain ⟨i,g,j,c⟩:=fY.1 a;have:15*i<L.length:=of_decide_eq_true c;omega
theorem Pv {w:Q} {p:Option Addr} {g n m:Nat} {l:List UInt8} (t:l.length=m) (z:m<=n) (h:Rd w (U p n g) (bM n l)):Rd w (U p m g) l:=by
 obtain ⟨y,q⟩:=h;rcases q with ⟨d,i⟩|⟨a,c,d,i⟩
 .rw [bS] at i
  simp only [Value.slice.injEq] at d;obtain ⟨rfl,rfl,rfl⟩:=d;have v:l.length=0:=by omega
  obtain rfl:m=0:=by omega
  exact ⟨by simp,.inl ⟨rfl,v⟩⟩
 .simp only [Value.slice.injEq] at d
  obtain ⟨rfl,-,rfl⟩:=d;refine ⟨by simp,.inr ⟨a,g,by rw [t],fun j u o=>i j u ?_⟩⟩
  have s:j<l.length:=by
   have:=List.getElem?_eq_some_iff.1 o;obtain ⟨r,_⟩:=this
   rwa [List.length_map] at r
  rw [List.getElem?_map] at o ⊢;rw [<- o];unfold bM;rw [List.getElem?_take,if_pos (by omega),L1 s]
end Go.SL
namespace Go.Proofs.Fs
open Go.RowKit Go.SL Go.Proofs.Ba
section
variable {n:Nat} {x x':Fx n} {b k id:Nat} {A:Nat->Option AF} {f:AF} {lk:Int} {L:List aN} {w:Q} {F:ai}
theorem yW (e:aN) (y:e.ok=true) (m:Nat) (i0:m<=3840) {r:Nat->Option AF} {s:Nat} {c:Int} (h:ag w (eA x b A k*F))
  (l:∀ (t:Q) (q:Option Addr) (d:Nat) (D G:ai),(∀ g P,ag g (D*P)->Rd g (U q e.enc.length d) e.enc)->e.enc.length<=d->ag t (eA x b A k*(D*G)) ->
   Calls S 42 #[gq b n,Z .i64 (id:Int),Z .i64 ((32*m:Nat):Int),U q e.enc.length d] t (YE x' b r s c (D*G) t)) :
  Calls S 136 #[gq b n,Z .i64 (id:Int),Z .i64 (m:Int),.agg #[Z .i64 (e.nd:Int),Y (str e.nm)]] w (YE x' b r s c F w):=by
 refine aJ fun f0 HQ=>?_;have z:=aN.dS y;rw [z] at l;have J:((32*m:Nat):Int)=(m:Int)*32:=by omega
 rw [J] at l;have u:=((h.alloc (dm b n)).alloc (W #[Z .i64 (e.nd:Int),Y (str e.nm)] 99 (0,0))).alloc (W #[Z .i64 (e.nd:Int),Y (str e.nm)] 99 (0,0));have dA:=ae ((((aj.refl w).alloc (dm b n)).alloc (W #[Z .i64 (e.nd:Int),Y (str e.nm)] 99 (0,0))).alloc (W #[Z .i64 (e.nd:Int),Y (str e.nm)] 99 (0,0)));simp only [World.size_alloc] at u;have b0:=zh _ _ _ e y _ u;have E:=ae b0;have H:=ae l;have HL:=ae z;have HE:=ae y;clear h l z J b0 u;unfold gq
 go_enter func136,ntmps136
 go_wp2_with fail
 refine E.out.mono ?_;generalize ((w.alloc (dm b n)).alloc (W #[Z .i64 (e.nd:Int),Y (str e.nm)] 99 (0,0))).alloc (W #[Z .i64 (e.nd:Int),Y (str e.nm)] 99 (0,0))=t at *;generalize w.heap.size+1+1=M at *;generalize w.heap.size+1=K at *;generalize w.heap.size=i at *;rintro e0 B ⟨v,rfl,o,d2⟩;clear E;have s0:B.cell? ⟨i,0,V⟩=X (R (X ⟨b,0,V⟩)):=o.aD.cell 0;have s1:B.cell? ⟨i,1,V⟩=X (Z .i64 (n:Int)):=o.aD.cell 1;have O:∀ g P,ag g (bs 5 v (bM 480 e.enc)*P)->Rd g v (bM 480 e.enc):=fun g P h=>h.nH
 obtain ⟨q,d,rfl⟩:∃ a c,v = U a 480 c:=by
  obtain ⟨a,c,e⟩:=aC o;rw [bS] at e;exact ⟨a,c,e⟩
 have N:480<=d/\(d:Int)<=9223372036854775807:=by
  rcases o.de with ⟨j,p,_⟩|⟨h0,c,g0,j,p,h5,h6,h7⟩
  .rw [bS] at p;omega
  .simp only [Value.slice.injEq] at j
   obtain ⟨-,-,rfl⟩:=j;rw [bS] at p;unfold maxLen at h5;omega
 obtain ⟨N,l0⟩:=N;have k0:(32:Int)<=(d:Int):=by omega
 have l:=H.out B.drew q d (bs 5 (U q 480 d) (bM 480 e.enc)) (pt M (W #[Z .i64 (e.nd:Int),Y (str e.nm)] 99 (0,0))*(pt K (W #[Z .i64 (e.nd:Int),Y (str e.nm)] 99 (0,0))*(pt i (dm b n)*F)))
  (fun g P h=>Pv HL.out (by decide) (O g P h)) (by omega) (o.drew.to (by ac_rfl))
 rw [<- (show IntKind.i64.wrap ((m:Int)*32)=(m:Int)*32 by rw [IntKind.wrap_i64];omega)] at l;have I:=ae l;clear l H o O
 go_wp2_with fail
 go_region_held3 (fun w'=>w'.cell? ⟨i,0,V⟩=X (R (X ⟨b,0,V⟩))/\w'.cell? ⟨i,1,V⟩=X (Z .i64 (n:Int)))
  (first|exact ⟨s0,s1⟩|exact d0|go_keep)
  (first|(go_at_call 42;refine I.out.mono ?_;rintro e0 C ⟨rfl,d3,j⟩;have d0:C.cell? ⟨i,0,V⟩=X (R (X ⟨b,0,V⟩))/\C.cell? ⟨i,1,V⟩=X (Z .i64 (n:Int)):=⟨j.aI.cell 0,j.aI.cell 1⟩))
 rename_i c0;clear c0;have p:ag C (eA x' b r s*F):=(j.to (by ac_rfl:_=(bs 5 (U q 480 d) (bM 480 e.enc)*(pt M (W #[Z .i64 (e.nd:Int),Y (str e.nm)] 99 (0,0))*(pt K (W #[Z .i64 (e.nd:Int),Y (str e.nm)] 99 (0,0))*pt i (dm b n))))*(eA x' b r s*F))).right;have H4:=ae p;clear j p I
 go_wp2_with fail
 exact HQ.out _ _ ⟨rfl,(dA.out.trans d2).drew.trans d3,H4.out⟩
end
end Go.Proofs.Fs
namespace Go.SL
open Go.RowKit
theorem BK {L:List aN} {nm:List UInt8} {i:Nat} (h:jW L nm=X i):i<L.length:=by
 unfold jW at h;rw [List.findIdx?_eq_some_iff_getElem] at h;exact h.1
theorem vz {L:List aN} {nm:List UInt8} {i:Nat} (h:jW L nm=X i):tq L nm=(i:Int):=by unfold tq;rw [h]
theorem qH {L:List aN} {nm:List UInt8} (h:jW L nm=V):tq L nm=-1:=by unfold tq;rw [h]
end Go.SL
namespace Go.Proofs.Fs
open Go.RowKit Go.SL Go.Proofs.Ba
section
variable {n:Nat} {x x':Fx n} {b k id:Nat} {A:Nat->Option AF} {f:AF} {lk:Int} {L:List aN} {w:Q} {F:ai} {nm:List UInt8}
theorem Gl {e:aN} (a:e.ok=true) (g:AU L) (r:L.length<3840) (m:A id=X (gT lk L)) (o:cD (L.length+1)<=k+cD L.length) (h:ag w (eA x b A k*F)) :
  Calls S 136 #[gq b n,Z .i64 (id:Int),Z .i64 (L.length:Int),.agg #[Z .i64 (e.nd:Int),Y (str e.nm)]] w (YE (x.more 5) b (eU A id (X (gT lk (L++[e])))) (k+cD L.length-cD (L.length+1)) 0 F w):=by
 have q:=aN.dS a;have d:=mS (lk:=lk) (L:=L) (by omega);have c:=mS (lk:=lk) (L:=L++[e]) (by rw [A1,D1];omega);rw [A1,D1] at c;refine yW e a L.length (by omega) h fun t s p D G j l i=>?_;have:=DI m (32*L.length) j l (by omega) (by omega) (by rw [uh g a,d,c];exact o) i;rw [uh g a,d,c,show e.enc.length/480+5=5 by omega] at this;exact this
theorem M4 {e:aN} (a:e.ok=true) (o:AU L) (r:L.length<3840) (l:A id=X (gT lk L)) (m:k+cD L.length<cD (L.length+1)) (h:ag w (eA x b A k*F)) :
  Calls S 136 #[gq b n,Z .i64 (id:Int),Z .i64 (L.length:Int),.agg #[Z .i64 (e.nd:Int),Y (str e.nm)]] w (YE x b A k 7 F w):=by
 have q:=aN.dS a;have d:=mS (lk:=lk) (L:=L) (by omega);have c:=mS (lk:=lk) (L:=L++[e]) (by rw [A1,D1];omega);rw [A1,D1] at c;refine yW e a L.length (by omega) h fun t s p D G i j g=>?_;exact Gv l (32*L.length) i j (by omega) (by omega) (by rw [uh o a,d,c];exact m) g
theorem Kf (h:ag w (eA x b A k*F)) (q:A id=X (gT lk L)) (v:AU L) (o:L.length<=3840) {i:Nat} (s:jW L nm=X i) (M:i<L.length) :
  Calls S 97 #[gq b n,Z .i64 (id:Int),Y (str nm)] w (YI x b A k ((L[i]).nd) 0 F w):=by
 refine aJ fun b0 G=>?_;have l:=h.alloc (dm b n);have J:=ae ((aj.refl w).alloc (dm b n));have z:=ae (jg l.ah q (jh v o));have y:=vz s;obtain ⟨m,t⟩:∃ m,L.length=m:=⟨_,rfl⟩
 have c0:(w.alloc (dm b n)).cell? ⟨w.heap.size,0,V⟩=X (R (X ⟨b,0,V⟩)):=l.cell 0;have E:=ae y;have p:=ae t;have f0:(m:Int)<=3840:=by omega
 have e0:(i:Int)<(m:Int):=by omega
 have C:=ae o;clear h l q v y t o s;unfold gq
 go_enter func97,ntmps97
 go_wp2_with fail
 refine z.out.mono ?_;generalize w.alloc (dm b n)=w1 at *;generalize w.heap.size=K at *;rintro r w2 ⟨u,rfl,H,j⟩;have c:=dN w2 u L nm _ C.out j;unfold qV at c;rw [E.out] at c;have d:=ae c;obtain ⟨ua,P,rfl⟩:=aC j;rw [p.out] at d ⊢;clear z c j
 go_wp2_with fail
 refine d.out.mono ?_;rintro r w3 ⟨rfl,a,I⟩;rw [<- p.out] at a;obtain ⟨g,d0,e,e1,e2,N,O⟩:=sw a M;simp only [Value.slice.injEq] at e;obtain ⟨rfl,-,rfl⟩:=e;have B:=ae a;clear a d N O
 go_wp2_with fail
 exact G.out _ _ ⟨by simp,(J.out.trans H).trans I,(B.out.to (by ac_rfl:_=(sl 99 2 (U (X ⟨g,0,V⟩) L.length P) L.length (bu L)*pt K (dm b n))*(eA x b A k*F))).right⟩
theorem MN (h:ag w (eA x b A k*F)) (l:A id=X (gT lk L)) (q:AU L) (i:L.length<=3840) (o:jW L nm=V) :
  Calls S 97 #[gq b n,Z .i64 (id:Int),Y (str nm)] w (YI x b A k 0 5 F w):=by
 refine aJ fun N C=>?_;have g:=h.alloc (dm b n);have H:=ae ((aj.refl w).alloc (dm b n));have t:=ae (jg g.ah l (jh q i));have s:=qH o;obtain ⟨m,p⟩:∃ m,L.length=m:=⟨_,rfl⟩
 have O:(w.alloc (dm b n)).cell? ⟨w.heap.size,0,V⟩=X (R (X ⟨b,0,V⟩)):=g.cell 0;have B:=ae s;have z:=ae p;have P:(m:Int)<=3840:=by omega
 have y:=ae i;clear h g l q s p i o;unfold gq
 go_enter func97,ntmps97
 go_wp2_with fail
 refine t.out.mono ?_;generalize w.alloc (dm b n)=w1 at *;generalize w.heap.size=I at *;rintro r M ⟨u,rfl,E,d⟩;have a:=dN M u L nm _ y.out d;unfold qV at a;rw [B.out] at a;have c:=ae a;obtain ⟨J,K,rfl⟩:=aC d;rw [z.out] at c ⊢;clear t a d
 go_wp2_with fail
 refine c.out.mono ?_;rintro r w3 ⟨rfl,j,G⟩;have v:=ae j;clear j c
 go_wp2_with fail
 exact C.out _ _ ⟨by simp,(H.out.trans E).trans G,(v.out.to (by ac_rfl:_=(sl 99 2 (U J m K) m (bu L)*pt I (dm b n))*(eA x b A k*F))).right⟩
theorem FY {a:Nat} (M:1<=a) (N:a<=3839) (h:ag w (eA x b A k*F)) (s:A id=X (gT lk L)) (y:AU L) (l:L.length<=3840) (t:cE nm=true) {i:Nat} (o:jW L nm=X i) :
  Calls S 98 #[gq b n,Z .i64 (id:Int),Y (str nm),Z .i64 (a:Int)] w (YE x b A k 6 F w):=by
 refine aJ fun b0 G=>?_;have j:=h.alloc (dm b n);have J:=ae ((aj.refl w).alloc (dm b n));have z:=ae (jg j.ah s (jh y l));obtain ⟨m,v⟩:∃ m,L.length=m:=⟨_,rfl⟩
 have c0:(w.alloc (dm b n)).cell? ⟨w.heap.size,0,V⟩=X (R (X ⟨b,0,V⟩)):=j.cell 0;have E:=ae v;have O:=ae (vz o);have e0:(m:Int)<=3840:=by omega
 have d0:(i:Int)<(m:Int):=by have:=BK o;omega
 have C:=ae l;have p:=ae fun w=>pG w nm;rw [t] at p;have g1:¬ ((a:Int)<1):=by omega
 have g2:¬ ((3839:Int)<(a:Int)):=by omega
 clear h j s y v l t o M N;unfold gq
 go_enter func98,ntmps98
 go_wp2_with fail
 refine z.out.mono ?_;generalize w.alloc (dm b n)=w1 at *;generalize w.heap.size=K at *;rintro r w2 ⟨u,rfl,H,g⟩;have c:=dN w2 u L nm _ C.out g;unfold qV at c;rw [O.out] at c;have d:=ae c;obtain ⟨P,uc,rfl⟩:=aC g;rw [E.out] at d ⊢;clear z g c
 go_wp2_with fail
 refine (p.out _).mono ?_;rintro r w3 ⟨rfl,rfl⟩
 go_wp2_with fail
 refine d.out.mono ?_;rintro r w3 ⟨rfl,q,I⟩;have B:=ae q;clear q d
 go_wp2_with fail
 exact G.out _ _ ⟨by simp,(J.out.trans H).trans I,(B.out.to (by ac_rfl:_=(sl 99 2 (U P m uc) m (bu L)*pt K (dm b n))*(eA x b A k*F))).right⟩
theorem CP {a:Nat} {o:Nat->Option AF} {v:Nat} {c:Int} (d0:1<=a) (e0:a<=3839) (h:ag w (eA x b A k*F)) (C:A id=X (gT lk L)) (I:AU L) (H:L.length<3840) (E:cE nm=true) (J:jW L nm=V)
  (u:∀ j G,ag j (eA x b A k*G)->Calls S 136 #[gq b n,Z .i64 (id:Int),Z .i64 (L.length:Int),.agg #[Z .i64 (a:Int),Y (str nm)]] j (YE x' b o v c G j)) :
  Calls S 98 #[gq b n,Z .i64 (id:Int),Y (str nm),Z .i64 (a:Int)] w (YE x' b o v c F w):=by
 refine aJ fun h0 HQ=>?_;have s:=h.alloc (dm b n);have dA:=ae ((aj.refl w).alloc (dm b n));have K:=ae (jg s.ah C (jh I (by omega)));obtain ⟨m,t⟩:∃ m,L.length=m:=⟨_,rfl⟩
 have c0:(w.alloc (dm b n)).cell? ⟨w.heap.size,0,V⟩=X (R (X ⟨b,0,V⟩)):=s.cell 0;rw [t] at u;have b0:=ae u;have HM:=ae t;have f0:=ae (qH J);have i0:(m:Int)<3840:=by omega
 have P:Hid (L.length<=3840):=Nat.le_of_lt H;have z:=ae fun w=>pG w nm;rw [E] at z;have g1:¬ ((a:Int)<1):=by omega
 have g2:¬ ((3839:Int)<(a:Int)):=by omega
 clear h s C I t H E J d0 e0 u;unfold gq
 go_enter func98,ntmps98
 go_wp2_with fail
 refine K.out.mono ?_;generalize w.alloc (dm b n)=j at *;generalize w.heap.size=d at *;rintro r w2 ⟨g0,rfl,d2,q⟩;have i:=dN w2 g0 L nm _ P.out q;unfold qV at i;rw [f0.out] at i;have p:=ae i;obtain ⟨M,N,rfl⟩:=aC q;rw [HM.out] at p ⊢;clear K q i
 go_wp2_with fail
 refine (z.out _).mono ?_;rintro r l ⟨rfl,rfl⟩
 go_wp2_with fail
 refine p.out.mono ?_;rintro r l ⟨rfl,g,d3⟩;have c0:l.cell? ⟨d,0,V⟩=X (R (X ⟨b,0,V⟩)):=g.aq.cell 0;have c1:l.cell? ⟨d,1,V⟩=X (Z .i64 (n:Int)):=g.aq.cell 1;have y:=ae g;clear g p
 go_wp2_with fail
 refine (b0.out l _ (y.out.to (by ac_rfl:_=eA x b A k*((sl 99 2 (U M m N) m (bu L)*pt d (dm b n))*F)))).mono ?_;rintro r w4 ⟨rfl,d4,B⟩;have O:=ae (B.to (by ac_rfl:_=(sl 99 2 (U M m N) m (bu L)*pt d (dm b n))*(eA x' b o v*F))).right;clear B y
 go_wp2_with fail
 exact HQ.out _ _ ⟨by simp,((dA.out.trans d2).trans d3).trans d4,O.out⟩
theorem si {a:Nat} (c:1<=a) (d:a<=3839) (h:ag w (eA x b A k*F)) (g:A id=X (gT lk L)) (l:AU L) (j:L.length<3840) (i:cE nm=true) (p:jW L nm=V) (o:cD (L.length+1)<=k+cD L.length) :
  Calls S 98 #[gq b n,Z .i64 (id:Int),Y (str nm),Z .i64 (a:Int)] w (YE (x.more 5) b (eU A id (X (gT lk (L++[⟨a,nm⟩])))) (k+cD L.length-cD (L.length+1)) 0 F w):=
 CP c d h g l j i p fun q G m=>Gl (e:=⟨a,nm⟩) (aN.kX.2 ⟨c,d,re i⟩) l j g o m
theorem PH {a:Nat} (c:1<=a) (d:a<=3839) (h:ag w (eA x b A k*F)) (g:A id=X (gT lk L)) (l:AU L) (j:L.length<3840) (i:cE nm=true) (p:jW L nm=V) (o:k+cD L.length<cD (L.length+1)) :
  Calls S 98 #[gq b n,Z .i64 (id:Int),Y (str nm),Z .i64 (a:Int)] w (YE x b A k 7 F w):=
 CP c d h g l j i p fun q G m=>M4 (e:=⟨a,nm⟩) (aN.kX.2 ⟨c,d,re i⟩) l j g o m
end
end Go.Proofs.Fs
namespace Go.SL
open Go.RowKit
inductive uO where
 | file (f:AF)
 | dir (L:List aN)
def uO.af:uO->AF
 | .file f=>f
 | .dir L=>gT 1 L
abbrev Tr:=Nat->Option uO
def gJ (T:Tr):Nat->Option AF:=fun id=>(T id).map uO.af
theorem wS (T:Tr) (id:Nat) (x:uO):eU (gJ T) id (X x.af)=gJ (eU T id (X x)):=by
 funext b;unfold gJ eU;split <;> rfl
theorem mC {T:Tr} {id:Nat} {f:AF} (h:T id=X (.file f)):gJ T id=X f:=by unfold gJ;rw [h];rfl
theorem lu {T:Tr} {id:Nat} {L:List aN} (h:T id=X (.dir L)):gJ T id=X (gT 1 L):=by unfold gJ;rw [h];rfl
def fG:Tr:=fun id=>if id=1 then X (.dir []) else V
structure qz (L:List aN):Prop where
 ok:AU L
 len:L.length<=3840
 nd:(L.map aN.nm).Nodup
 nm:∀ e ∈ L,cE e.nm=true
def eP:Option uO->List aN
 | some (.dir L)=>L
 | _=>[]
def cT (ps:List (List UInt8)):List UInt8:=ps.getD (ps.length-1) []
def refs (n:Nat) (T:Tr) (id:Nat):Nat:=((E1 n).map fun d=>(eP (T d)).countP fun e=>e.nd == id).sum
def J9 (id:Nat):Option uO->Int
 | some (.file f)=>f.lk
 | some (.dir _)=>if id=1 then 0 else 1
 | none=>0
structure Tidy (n:Nat) (T:Tr):Prop where
 root:∃ L,T 1=some (.dir L)
 rf:∀ id L,T id=some (.dir L)->qz L
 files:∀ id f,T id=some (.file f)->f.kd=1
 ref:∀ id,(refs n T id:Int)=J9 id (T id)
 out:∀ id,n<=id->T id=none
def eI (x:Option uO) (nm:List UInt8):Int × Nat:=match x with
 | some (.dir L)=>(match jW L nm with|some i=>(0,(L.getD i aN.no).nd)|none=>(5,0))
 | some (.file _)=>(8,0)
 | none=>(4,0)
def aT (T:Tr):Nat->List (List UInt8)->Int × Nat
 | id,[]=>(0,id)
 | id,nm :: ps=>if (eI (T id) nm).1=0 then aT T (eI (T id) nm).2 ps else ((eI (T id) nm).1,0)
theorem FI (T:Tr) (id:Nat):aT T id []=(0,id):=rfl
theorem nB {T:Tr} {id:Nat} {nm:List UInt8} {ps:List (List UInt8)} (h:(eI (T id) nm).1=0):aT T id (nm :: ps)=aT T (eI (T id) nm).2 ps:=if_pos h
theorem zc {T:Tr} {id:Nat} {nm:List UInt8} {ps:List (List UInt8)} (h:¬ (eI (T id) nm).1=0):aT T id (nm :: ps)=((eI (T id) nm).1,0):=if_neg h
theorem kH {L:List aN} {nm:List UInt8} {i:Nat} (h:jW L nm=X i):eI (X (.dir L)) nm=(0,(L.getD i aN.no).nd):=by unfold eI;simp only [h]
theorem ov {L:List aN} {nm:List UInt8} (h:jW L nm=V):eI (X (.dir L)) nm=(5,0):=by unfold eI;simp only [h]
theorem Oz {l:List Nat} {a:Nat} (h:a ∈ l):a<=l.sum:=by
 induction l with
 | nil=>cases h
 | cons b l c=>
  rw [List.sum_cons];rcases List.mem_cons.1 h with rfl|h
  .omega
  .have:=c h;omega
theorem JW {n:Nat} {T:Tr} {d:Nat} {L:List aN} {e:aN} (c:d<n) (a:T d=X (.dir L)) (g:e ∈ L):0<refs n T e.nd:=by
 have h:0<(eP (T d)).countP fun x=>x.nd == e.nd:=by rw [a];exact List.countP_pos_iff.2 ⟨e,g,by simp⟩
 have i:((eP (T d)).countP fun x=>x.nd == e.nd)<=refs n T e.nd:=Oz (List.mem_map.2 ⟨d,List.mem_range.2 c,rfl⟩);omega
section
variable {n:Nat} {T:Tr}
theorem Tidy.lt (h:Tidy n T) {id:Nat} {x:uO} (c:T id=X x):id<n:=by
 rcases Nat.lt_or_ge id n with a|a
 .exact a
 .rw [h.out id a] at c;cases c
theorem Tidy.has (h:Tidy n T) {d:Nat} {L:List aN} {e:aN} (c:T d=X (.dir L)) (g:e ∈ L):∃ x,T e.nd=X x:=by
 have j:=JW (h.lt c) c g;have a:=h.ref e.nd
 cases i:T e.nd with
 | some x=>exact ⟨x,rfl⟩
 | none=>rw [i] at a;simp only [J9] at a;omega
theorem Tidy.find (h:Tidy n T) {id:Nat} {x:uO} (g:T id=X x) {nm:List UInt8} (a:(eI (T id) nm).1=0):∃ y,T (eI (T id) nm).2=X y:=by
 rw [g] at a ⊢
 cases x with
 | file f=>exact absurd a (show ¬ (8:Int)=0 by decide)
 | dir L=>
  cases c:jW L nm with
  | none=>rw [ov c] at a;exact absurd a (by decide)
  | some i=>
   rw [kH c];have d:=BK c;exact h.has g (e:=L.getD i aN.no) (by rw [H1,M1 d];exact List.getElem_mem d)
theorem Tidy.walk (h:Tidy n T):∀ (d:List (List UInt8)) {id:Nat} {x:uO},T id=X x->(aT T id d).1=0->∃ y,T (aT T id d).2=X y
 | [],id,x,g,_=>⟨x,g⟩
 | nm :: d,id,x,g,a=>by
  by_cases c:(eI (T id) nm).1=0
  .rw [nB c] at a ⊢
   obtain ⟨y,i⟩:=h.find g c;exact h.walk d i a
  .rw [zc c] at a;exact absurd a c
theorem CM {f g:Nat->Nat} {d:Nat} (h:∀ i,i≠d->g i=f i):∀ m,d<m->((E1 m).map g).sum+f d=((E1 m).map f).sum+g d
 | m+1,c=>by
  rw [List.range_succ,List.map_append,List.map_append,List.sum_append,List.sum_append];simp only [List.map_cons,List.map_nil,List.sum_cons,List.sum_nil,Nat.add_zero]
  by_cases e:d=m
  .subst e
   have:(E1 d).map g=(E1 d).map f:=List.map_congr_left fun i a=>h i (by have:=List.mem_range.1 a;omega);rw [this];omega
  .have:=CM h m (by omega)
   rw [h m (by omega)];omega
theorem oH {d:Nat} (a:d<n) (x:Option uO) (id:Nat):refs n (eU T d x) id+(eP (T d)).countP (fun e=>e.nd == id)=refs n T id+(eP x).countP fun e=>e.nd == id:=by
 have:=CM (f:=fun j=>(eP (T j)).countP fun e=>e.nd == id) (g:=fun j=>(eP (eU T d x j)).countP fun e=>e.nd == id) (d:=d) (fun i c=>by rw [aS _ _ c]) n a;simp only [bJ] at this;exact this
end
end Go.SL
namespace Go.Proofs.Fs
open Go.RowKit Go.SL Go.Proofs.Ba
attribute [local go_sem] Oper.semAt_some
section
variable {n:Nat} {x:Fx n} {b k id:Nat} {A:Nat->Option AF} {f:AF} {lk:Int} {L:List aN} {w:Q} {F:ai} {nm:List UInt8}
def RF (x:Fx n) (b:Nat) (A:Nat->Option AF) (k:Nat) (c:Int) (F:ai) (w:Q) (e:Ending) (a:Q):Prop:=
 e = .returned (.tuple #[U V 0 0,Z .i64 c])/\aj w a/\ag a (eA x b A k*F)
theorem EM (h:ag w (eA x b A k*F)) (z:A id=X f) (B:f.kd=1) :
  Calls S 99 #[gq b n,Z .i64 (id:Int)] w (RF x b A k 8 F w):=by
 have i:=(((h.alloc (dm b n)).alloc (W #[U V 0 0] 95 (0,0))).alloc (W #[Z .i64 0] 28 (0,0)))
 have t:=(((aj.refl w).alloc (dm b n)).alloc (W #[U V 0 0] 95 (0,0))).alloc (W #[Z .i64 0] 28 (0,0));simp only [World.size_alloc] at i;have K:=ae B;have J:=ae z;clear h B z;unfold gq;refine (callsIn_wide (n:=9)).1 ?_;refine callsIn_of_wp_marks func99 rfl trivial ?_ rfl;simp only [ntmps99,List.size_toArray,List.length_cons,List.length_nil,Nat.reduceAdd,Nat.reduceSub,Array.replicate_succ,Array.replicate_zero,List.push_toArray,List.append_toArray,K1,List.cons_append];have q:=i.aq.cell 0;have r:=i.aq.cell 1;simp at q r;refine wpIn_wide.2 ?_
 go_wp2_with fail
 generalize (((w.alloc (dm b n)).alloc (W #[U V 0 0] 95 (0,0))).alloc (W #[Z .i64 0] 28 (0,0)))=w1 at *;generalize w.heap.size+1+1=g at *;generalize w.heap.size+1=d at *;generalize w.heap.size=p at *;have v:=i.to (by ac_rfl:_=eA x b A k*(pt p (dm b n)*(pt d (W #[U V 0 0] 95 (0,0))*(pt g (W #[Z .i64 0] 28 (0,0))*F))));refine (Co v J.out).mono ?_;rintro e c ⟨y,rfl,C,E,c0,d0,s,u⟩;have o:(ints y.l).size=20:=by rw [dz,Nd.cells C]
 have l:=u.alloc (W #[Z .i64 0,Z .i64 0,Z .i64 0,Z .i64 0,Z .i64 0,Z .i64 0,Z .i64 0,Z .i64 0,Z .i64 0,Z .i64 0,Z .i64 0,Z .i64 0,Z .i64 0,Z .i64 0,Z .i64 0,Z .i64 0,Z .i64 0,Z .i64 0,Z .i64 0,Z .i64 0] 73 (0,0));have P:=ae l.heap;have m:=l.setRow (cs':=ints y.l);have G:=ae (((t.trans s).alloc (W #[Z .i64 0,Z .i64 0,Z .i64 0,Z .i64 0,Z .i64 0,Z .i64 0,Z .i64 0,Z .i64 0,Z .i64 0,Z .i64 0,Z .i64 0,Z .i64 0,Z .i64 0,Z .i64 0,Z .i64 0,Z .i64 0,Z .i64 0,Z .i64 0,Z .i64 0,Z .i64 0] 73 (0,0))).setRow c.heap.size (ints y.l));have O:Hid ((ints y.l).all (·.oneCell')=true):=by simp [RowKit.Hid,ints,Value.oneCell']
 have N:Hid ((prog.info? 73).map (·.size)=X (ints y.l).size):=by show _=_;rw [o];exact bf
 have M:=ae o;have n0:((c.alloc (W #[Z .i64 0,Z .i64 0,Z .i64 0,Z .i64 0,Z .i64 0,Z .i64 0,Z .i64 0,Z .i64 0,Z .i64 0,Z .i64 0,Z .i64 0,Z .i64 0,Z .i64 0,Z .i64 0,Z .i64 0,Z .i64 0,Z .i64 0,Z .i64 0,Z .i64 0,Z .i64 0] 73 (0,0))).setRow c.heap.size (ints y.l)).cell? ⟨c.heap.size,0,V⟩=X (Z .i64 1):=by rw [<- K.out,<- E];exact m.cell 0
 have a:=m.to (by ac_rfl:_=pt d (W #[U V 0 0] 95 (0,0))*(pt g (W #[Z .i64 0] 28 (0,0))*((eA x b A k*F)*(pt c.heap.size (W (ints y.l) 73 (0,0))*pt p (dm b n)))));have z0:=a.cell 0;have z1:=a.ah.cell 0;have f0:=a.frozen 0;have f1:=a.ah.frozen 0;have b0:¬ (d=g):=ag.ne a;have e0:¬ (g=d):=fun h=>b0 h.symm;have I:=ae ((a.setCell 0 (U V 0 0)).ah.setCell 0 (Z .i64 8));have H:=ae ((G.out.setCell ⟨d,0,V⟩ (U V 0 0)).setCell ⟨g,0,V⟩ (Z .i64 8));simp at z0 z1;clear i v u l m a o C E c0 d0 s t q r
 go_wp2_with (refine wpList_store_row (by exact rfl) 73 (.tmp 6) (.tmp 15) (by exact rfl) c.heap.size (ints y.l) (by exact rfl) (by exact rfl) 73 _ (by with_reducible exact P.out) N.out (by rw [M.out];rfl) O.out ?_)
 have j:=I.out.ah;simp only [List.setIfInBounds_toArray,List.set_cons_zero] at j;refine ⟨_,nO rfl rfl j,rfl,H.out,?_⟩;exact (j.to (by ac_rfl:_=(pt d (W #[U V 0 0] 95 (0,0))*(pt g (W #[Z .i64 8] 28 (0,0))*(pt c.heap.size (W (ints y.l) 73 (0,0))*pt p (dm b n))))*(eA x b A k*F))).right
theorem EN (h:ag w (eA x b A k*F)) (d:A id=X f) (g:f.kd=1) :
  Calls S 97 #[gq b n,Z .i64 (id:Int),Y (str nm)] w (YI x b A k 0 8 F w):=by
 refine aJ fun q l=>?_;have a:=h.alloc (dm b n);have o:=ae ((aj.refl w).alloc (dm b n));have i:=ae (EM a.ah d g);have s:(w.alloc (dm b n)).cell? ⟨w.heap.size,0,V⟩=X (R (X ⟨b,0,V⟩)):=a.cell 0;clear h a d g;unfold gq
 go_enter func97,ntmps97
 go_wp2_with fail
 refine i.out.mono ?_;generalize w.alloc (dm b n)=t at *;generalize w.heap.size=p at *;rintro r u ⟨rfl,m,c⟩;have j:=ae (c.to (by ac_rfl:_=pt p (dm b n)*(eA x b A k*F))).right;clear i c
 go_wp2_with fail
 exact l.out _ _ ⟨by simp,o.out.trans m,j.out⟩
end
def _root_.Go.SL.Bi (w:Q) (v:Value) (l:List (List UInt8)):Prop:=
 (∃ x c,v = U x 0 c/\l=[])\/∃ g o c,v = U (X ⟨g,o,V⟩) l.length c/\l.length<=c/\c<=maxLen/\∀ k,k<l.length->w.cell? ⟨g,o+k,V⟩=X (Y (str (l.getD k [])))
section
variable {n:Nat} {x:Fx n} {b k id:Nat} {T:Tr} {w:Q} {D F:ai} {nm:List UInt8}
theorem vt (j:Tidy n T) {y:uO} (a:T id=X y) (h:ag w (eA x b (gJ T) k*F)) :
  Calls S 97 #[gq b n,Z .i64 (id:Int),Y (str nm)] w (YI x b (gJ T) k ((eI (T id) nm).2:Nat) (eI (T id) nm).1 F w):=by
 cases y with
 | file f=>rw [a];exact EN h (mC a) (j.files _ _ a)
 | dir L=>
  have d:=j.rf _ _ a;rw [a]
  cases c:jW L nm with
  | none=>rw [ov c];exact MN h (lu a) d.ok d.len c
  | some i=>
   rw [kH c];have g:=BK c;have:=Kf h (lu a) d.ok d.len c g;rw [show L.getD i aN.no=L[i] by rw [H1,M1 g];rfl];exact this
def Q6 (n:Nat) (T:Tr) (ps:List (List UInt8)) (P:ai) (w0:Q) (u v:Value) (wr:Q):Prop:=
 ∃ (j id:Nat) (y:uO),j<=ps.length/\u = Z .i64 (j:Int)/\v = Z .i64 (id:Int)/\T id=X y/\aT T 1 ps=aT T id (ps.drop j)/\aj w0 wr/\ag wr P
theorem drop_cons {ps:List (List UInt8)} {j:Nat} (h:j<ps.length):ps.drop j=ps.getD j [] :: ps.drop (j+1):=by
 rw [List.drop_eq_getElem_cons h,H1,M1 h];rfl
theorem DT (y:Tidy n T) {v:Value} {ps:List (List UInt8)} (hl:ps.length<=1000) (s:∀ d0 s0,ag d0 (D*s0)->Bi d0 v ps) (f0:ag w (eA x b (gJ T) k*(D*F))) :
  Calls S 76 #[gq b n,v] w (YI x b (gJ T) k ((aT T 1 ps).2:Nat) (aT T 1 ps).1 (D*F) w):=by
 refine aJ fun H0 G=>?_;have r:=(f0.alloc (dm b n)).to (by ac_rfl:_=D*(eA x b (gJ T) k*(pt w.heap.size (dm b n)*F)));have dA:=(aj.refl w).alloc (dm b n);obtain ⟨L0,m0⟩:=y.root
 obtain ⟨va,vc,rfl⟩:∃ a c,v = U a ps.length c:=by
  rcases s _ _ r with ⟨a,c,rfl,rfl⟩|⟨e0,q0,c,rfl,-⟩
  .exact ⟨a,c,rfl⟩
  .exact ⟨_,_,rfl⟩
 have E:=ae r;have B:=ae dA;have HD:=ae s;have J:=ae y;have H:=ae m0;obtain ⟨m,t⟩:∃ m,ps.length=m:=⟨_,rfl⟩
 have d:=ae t;have R0:(m:Int)<=1000:=by omega
 rw [t];clear f0 r dA s y m0 t hl;unfold gq
 go_enter func76,ntmps76
 go_wp2_with fail
 go_loopw [6,13] (fun G0 v wr=>Q6 n T ps (D*(eA x b (gJ T) k*(pt w.heap.size (dm b n)*F))) w v G0 wr) (fun _ v _=>m-(intOf v).toNat)
 case atStart=>exact ⟨0,1,_,Nat.zero_le _,rfl,rfl,H.out,rfl,B.out,E.out⟩
 case round=>
  obtain ⟨j,id,S0,hj,rfl,rfl,l,i,p,h⟩:=hrel;rw [d.out] at hj;have I:=ae h;have K:=ae i;have N:=ae l;have c0:wr.cell? ⟨w.heap.size,0,V⟩=X (R (X ⟨b,0,V⟩)):=h.aq.cell 0;have c1:wr.cell? ⟨w.heap.size,1,V⟩=X (Z .i64 (n:Int)):=h.aq.cell 1;clear E B H
  by_cases x0:j<m
  .have N0:(j:Int)<(m:Int):=by omega
   obtain ⟨nm,u⟩:∃ nm,ps.getD j []=nm:=⟨_,rfl⟩
   rcases HD.out _ _ h with ⟨a,c,e,e2⟩|⟨e0,q0,c,e,u0,g0,h0⟩
   .rw [e2] at d;exact absurd x0 (by have:=d.out;simp at this;omega)
   simp only [Value.slice.injEq] at e;obtain ⟨rfl,-,rfl⟩:=e;have K0:wr.cell? ⟨e0,q0+j,V⟩=X (Y (str nm)):=by rw [<- u];exact h0 j (by have:=d.out;omega)
   have k1:(m:Int)<=(vc:Int):=by have:=d.out;omega
   have k2:(vc:Int)<=9223372036854775807:=by unfold maxLen at g0;omega
   have i0:ps.drop j=nm :: ps.drop (j+1):=by rw [<- u];exact drop_cons (by have:=d.out;omega)
   have n0:aT T 1 ps=aT T id (nm :: ps.drop (j+1)):=by rw [<- i0];exact i
   have hf:=vt (nm:=nm) J.out l (h.to (by ac_rfl:_=eA x b (gJ T) k*(D*(pt w.heap.size (dm b n)*F))));have p0:=fun g=>(nB (T:=T) (id:=id) (nm:=nm) (ps:=ps.drop (j+1)) g)
   have l0:=fun g=>(zc (T:=T) (id:=id) (nm:=nm) (ps:=ps.drop (j+1)) g)
   have k0:=fun g=>J.out.find l (nm:=nm) g;have q:=ae hf;have b0:=ae p0;have P:=ae l0;have O:=ae k0;have M:=ae n0;have o:=ae p;generalize hq:eI (T id) nm=F0 at *;obtain ⟨c',D0⟩:=F0;dsimp only at q b0 P O;clear h i l hf p0 l0 k0 h0 u0 g0 i0 n0 u I K N p hq
   go_wp2_with fail
   refine q.out.mono ?_;rintro e w2 ⟨rfl,d2,h2⟩;have C:=ae h2;have z:=ae (o.out.trans d2);clear h2 d2 q o
   by_cases g:c'=0
   .subst g
    obtain ⟨y',o0⟩:=O.out rfl;have Hy:=ae o0;clear o0
    go_wp2_with fail
    go_roundw
    case rel=>exact ⟨j+1,D0,y',by rw [d.out];omega,by go_num,rfl,Hy.out,M.out.trans (b0.out trivial),z.out,C.out.to (by ac_rfl)⟩
    case measure=>simp [intOf];omega
   .go_wp2_with fail
    have e:=M.out.trans (P.out g);refine G.out _ _ ⟨by rw [e];rfl,z.out,?_⟩;exact (C.out.to (by ac_rfl:_=pt w.heap.size (dm b n)*(eA x b (gJ T) k*(D*F)))).right
  .obtain rfl:j=m:=by omega
   have e:aT T 1 ps=(0,id):=by rw [i,<- d.out,List.drop_length];rfl
   have r0:=ae e;have o:=ae p;clear h i l e p K N
   go_wp2_with fail
   refine G.out _ _ ⟨by rw [r0.out];rfl,o.out,?_⟩;exact (I.out.to (by ac_rfl:_=pt w.heap.size (dm b n)*(eA x b (gJ T) k*(D*F)))).right
end
end Go.Proofs.Fs

/- Steps. -/
import Derived.Test.YtacliaemfegopaaGreatDoorOP26
import Derived.Test.YtacliaemfegopaaGreatDoorOP14
set_option linter.all false
set_option maxRecDepth 99999
set_option maxHeartbeats 0
open Go.SL
open Go.Value renaming int->Z,slice->S,pointer->U,string->V
open Go.Obj renaming cells->W
open Go renaming World->Q
open Go.Proofs.Tryz renaming prog->R
open Option renaming some->Y,none->X
open Bool renaming true->Z'
open Go.Proofs.Tryz
open List renaming length_append->A1,getD->D1,length_singleton->E1,length_set->H1,range->K1,getElem?_eq_getElem->L1,nil_append->N1,getElem?_append_left->O1,getElem?_eq_none->R1
open Bool renaming eq_iff_iff->M1
namespace Go.SL
open Go.RowKit
theorem OQ {e:aQ} (h:e.ok=Z'):bT 32 ((du e.nd 2++du e.nm.length 1)++e.nm)=e.enc:=by
 have a:=qV.1 (aQ.lS.1 h).2.2;unfold bT aQ.enc;rw [List.take_append,List.take_of_length_le (by simp only [A1,bk];omega)];simp only [List.append_assoc];congr 3;unfold zs;rw [List.take_replicate];congr 1;simp only [A1,bk];omega
end Go.SL
namespace Go.Proofs.Fs
open Go.RowKit Go.SL Go.Proofs.Ba
def TA (e:aQ) (w0:Q) (F:ai) (v u:Value) (wr:Q):Prop:=
 ∃ k:Nat,k<=1/\u = Z .i64 (k:Int)/\aj w0 wr/\ag wr (bs 5 v (if k=0 then [] else e.enc)*F)
def Ur (l:List UInt8) (F:ai) (w:Q) (e:Ending) (a:Q):Prop:=∃ v,e = .returned (.tuple #[v,Z .i64 0])/\ag a (bs 5 v l*F)/\aj w a
theorem BG (w:Q) (g:Nat) (j:Nat × Nat) (e:aQ) (O:e.ok=Z') (F:ai) (k0:ag w (pt g (W #[Z .i64 (e.nd:Int),V (str e.nm)] 99 j)*F)) :
  Calls R 189 #[S (Y ⟨g,0,X⟩) 1 1] w (Ur (bT 480 e.enc) (pt g (W #[Z .i64 (e.nd:Int),V (str e.nm)] 99 j)*F) w):=by
 refine aH fun W0 HQ=>?_;obtain ⟨o1,o2,o3⟩:=aQ.lS.1 O;have S0:=qV.1 o3;have u0:ag w (bs 5 (S X 0 0) []*(pt g (W #[Z .i64 (e.nd:Int),V (str e.nm)] 99 j)*F)):=k0.eV _ _;have e0:=ae u0;have C:=ae O;have q1:(e.nd:Int)<=3839:=by omega
 have q0:(0:Int)<=(e.nd:Int):=by omega
 obtain ⟨m,hm⟩:∃ m,e.nm.length=m:=⟨_,rfl⟩
 have Z0:m<=28:=by omega
 have a1:(m:Int)<=28:=by omega
 have N:=ae hm;have N0:=il e.nm;rw [hm] at N0;clear k0 u0 O o3 S0 hm
 go_enter func189,ntmps189
 go_wp2_with fail
 go_loopw [4,13] (fun v b0 wr=>TA e w (pt g (W #[Z .i64 (e.nd:Int),V (str e.nm)] 99 j)*F) v b0 wr) (fun _ b0 _=>1-(intOf b0).toNat)
 case atStart=>exact ⟨0,by decide,rfl,aj.refl w,e0.out⟩
 case round=>
  obtain ⟨k,hk,rfl,s0,a⟩:=hrel;clear e0
  by_cases L0:k=0
  .subst L0
   rw [if_pos rfl] at a;have c0:wr.cell? ⟨g,0,X⟩=Y (Z .i64 (e.nd:Int)):=a.ah.cell 0;have c1:wr.cell? ⟨g,1,X⟩=Y (V (str e.nm)):=a.ah.cell 1;have hA:=a.alloc (W #[Z .i64 (e.nd:Int),V (str e.nm)] 99 (0,0));have dA:=ae (s0.alloc (W #[Z .i64 (e.nd:Int),V (str e.nm)] 99 (0,0)));have hr:=uw (wr.alloc (W #[Z .i64 (e.nd:Int),V (str e.nm)] 99 (0,0))) e;rw [C.out] at hr;have Hr:=ae hr;have HA:=ae hA;have R0:=aD a;obtain ⟨q,s,rfl⟩:=R0;clear a hA hr
   go_wp2_with fail
   refine Hr.out.mono ?_;generalize wr.alloc (W #[Z .i64 (e.nd:Int),V (str e.nm)] 99 (0,0))=w1 at *;generalize wr.heap.size=i at *;rintro r w2 ⟨rfl,h2,d2⟩;have I:=h2.dN HA.out;have D3:=ae (dA.out.trans d2);have t0:w2.cell? ⟨i,0,X⟩=Y (Z .i64 (e.nd:Int)):=I.cell 0;have t1:w2.cell? ⟨i,1,X⟩=Y (V (str e.nm)):=I.cell 1;have p:=fo w2 (S X 0 0) [] 2 (e.nd:Int) ⟨rfl,.inl ⟨rfl,rfl⟩⟩ (by decide) (by decide) (by omega) (by omega);rw [N1] at p;have Hp:=ae p;have H3:=ae I;clear p I h2 Hr HA c0 c1 d2 dA
   go_wp2_with fail
   refine Hp.out.mono ?_;rintro r w4 ⟨v4,rfl,h4,d4⟩;have l:=h4.under H3.out;have D5:=ae (D3.out.trans d4);have t0:w4.cell? ⟨i,0,X⟩=Y (Z .i64 (e.nd:Int)):=l.ah.cell 0;have t1:w4.cell? ⟨i,1,X⟩=Y (V (str e.nm)):=l.ah.cell 1;have p:=fo w4 v4 (du e.nd 2) 1 (m:Int) l.mZ (by rw [bk];omega) (by decide) (by omega) (by omega);have f0:=ae p;have H5:=ae l;obtain ⟨T0,V0,rfl⟩:=aD l;clear p h4 l Hp H3 D3 d4
   go_wp2_with fail
   refine f0.out.mono ?_;rintro r w6 ⟨v6,rfl,h6,d6⟩;have o:=h6.under H5.out;obtain ⟨h,K⟩:∃ h,du (e.nd:Int) 2++du (m:Int) 1=h:=⟨_,rfl⟩
   have B:h.length=3:=by rw [<- K,A1,bk,bk]
   rw [K] at o;have d0:=ae K;have D7:=D5.out.trans d6;have t0:w6.cell? ⟨i,0,X⟩=Y (Z .i64 (e.nd:Int)):=o.au.cell 0;have t1:w6.cell? ⟨i,1,X⟩=Y (V (str e.nm)):=o.au.cell 1;obtain ⟨i0,hi,hz,r0,n0⟩:=info_parts gH;obtain ⟨v7,M,d,J,d8⟩:=ag.Ph (P:=R) (t:=37) (u:=9) (ty:=37) underlying37 underlying9 hi hz r0 n0 o e.nm (by rw [N.out,B];omega);have D8:=ae (D7.trans d8);obtain ⟨d1,e1,rfl⟩:=aD o;have c:=nX M v7 _ J.mZ 32 (by decide);have p0:bT 32 (h++e.nm)=e.enc:=by rw [<- d0.out,<- N.out];exact OQ C.out
   rw [p0] at c;obtain ⟨x0,D0,rfl⟩:=aD J;have o0:(h++e.nm).length=3+m:=by rw [A1,B,N.out]
   rw [o0] at c d;rw [B] at d;have z:Calls R 165 #[S x0 (3+m) D0,Z .i64 32] M (zx e.enc M):=c
   have m0:ag M (bs 5 (S q 0 s) []*(pt g (W #[Z .i64 (e.nd:Int),V (str e.nm)] 99 j)*F)):=by
    exact (J.to (by ac_rfl:_=(bs 5 (S x0 (h++e.nm).length D0) (h++e.nm)*(bs 5 (S T0 (du (e.nd:Int) 2).length V0) (du (e.nd:Int) 2)*pt i (W #[Z .i64 (e.nd:Int),V (str e.nm)] 99 (0,0))))*(bs 5 (S q 0 s) []*(pt g (W #[Z .i64 (e.nd:Int),V (str e.nm)] 99 j)*F)))).right
   have t:=ae z;have g0:=ae d;have H8:=ae m0;rw [B];clear hi hz r0 n0 c z d J m0 o h6 H5 f0 D5 D7 d6 d8 p0 o0 B K
   go_wp2_with (at_builtin;refine pH g0.out _ _ rfl rfl rfl rfl rfl ?_)
   refine t.out.mono ?_;rintro r w9 ⟨v9,rfl,u,E⟩;have y:=aQ.dx C.out;have G:=u.under H8.out;obtain ⟨f1,g1,rfl⟩:=aD G;have P:=y;obtain ⟨b1,h1,d,H,h0,X0,Y0,rfl⟩:=iz (l:=[]) (m:=e.enc) (v:=S q 0 s) (G.ah) G.mZ (by decide) (by omega);rw [N1] at H;simp only [List.length_nil,Nat.zero_add,P] at d H;have K0:=ae d;have F0:=ae ((D8.out.trans E).trans h0);have l0:=H.iq;have H0:=ae l0;rw [P];clear g0 d H l0 G u H8 t D8 E h0 y P d0
   go_wp2_with (at_builtin;refine wpList_append_run K0.out _ _ rfl rfl rfl rfl rfl ?_)
   go_roundw
   case rel=>exact ⟨1,Nat.le_refl _,by go_num,F0.out,by rw [if_neg (by decide)];exact H0.out⟩
   case measure=>simp [intOf]
  .obtain rfl:k=1:=by omega
   rw [if_neg (by decide)] at a;have y:=aQ.dx C.out;obtain ⟨q,s,rfl⟩:=aD a;have c:=nX wr (S q e.enc.length s) e.enc a.mZ 480 (by decide);rw [y] at c ⊢;have z:Calls R 165 #[S q 32 s,Z .i64 480] wr (zx (bT 480 e.enc) wr):=c;have t:=ae z;have HS:=ae a.right;clear c z a y
   go_wp2_with fail
   refine t.out.mono ?_;rintro r w9 ⟨v9,rfl,u,E⟩;have G0:=ae (u.under HS.out);clear u t
   go_wp2_with fail
   exact HQ.out _ _ ⟨v9,by simp,G0.out,s0.trans E⟩
end Go.Proofs.Fs
namespace Go.SL
open Go.RowKit
def dR (lk:Int) (L:List aQ):AF:=⟨2,lk,32*L.length,fun p=>(dV L).getD p 0,fun i=>decide (15*i<L.length)⟩
theorem LJ:kr 2=dR 1 []:=by
 unfold kr dR;congr 1
abbrev rT (L:List aQ):Prop:=∀ e ∈ L,e.ok=Z'
theorem yD {L:List aQ} {e:aQ} (h:rT L) (c:e.ok=Z') (i:Nat):rT (L.set i e):=fun x d=>by
 rcases List.mem_or_eq_of_mem_set d with a|rfl
 .exact h x a
 .exact c
theorem A3 {L:List aQ} {e:aQ} (h:rT L) (c:e.ok=Z'):rT (L++[e]):=fun x d=>by
 rcases List.mem_append.1 d with a|a
 .exact h x a
 .rw [List.mem_singleton.1 a];exact c
theorem AJ {L:List aQ} (h:rT L) (m:Nat):rT (L.take m):=fun x a=>h x (List.mem_of_mem_take a)
theorem iK {lk:Int} {L:List aQ} (h:rT L) (a:L.length<=3840):IN (dR lk L) L:=⟨rfl,rfl,h,fun p _=>rfl,a⟩
theorem iR:∀ {L:List aQ} (_:rT L) (p:Nat),(dV L).getD p 0=((L[p/32]?).map fun e=>e.enc.getD (p%32) 0).getD 0
 | [],_,p=>by simp [dV]
 | e :: L,h,p=>by
  have g:=aQ.dx (h e List.mem_cons_self);have d:dV (e :: L)=e.enc++dV L:=rfl;rw [d]
  by_cases l:p<32
  .have a:p/32=0:=by omega
   have c:p%32=p:=by omega
   rw [a,c,List.getElem?_cons_zero,Option.map_some,Option.getD_some,D1,O1 (by omega)];rfl
  .have j:=iR (L:=L) (fun x i=>h x (List.mem_cons_of_mem _ i)) (p-32)
   have a:p/32=(p-32)/32+1:=by omega
   have c:p%32=(p-32)%32:=by omega
   rw [a,c,List.getElem?_cons_succ,<- j,D1,List.getElem?_append_right (by omega),g];rfl
theorem vf {f:AF} {lk:Int} {L:List aQ} (g:f.kd=2) (h:f.lk=lk) (j:f.sz=32*L.length) (l:∀ p,f.tF p=(dV L).getD p 0) (m:∀ i,f.pr i=decide (15*i<L.length)):f=dR lk L:=by
 obtain ⟨a,b,c,d,e⟩:=f;dsimp only at g h j l m;subst g h j;unfold dR;congr 1
 .funext p;exact l p
 .funext p;exact m p
theorem uB {lk:Int} {L:List aQ} {e:aQ} (h:rT L) (c:e.ok=Z'):(dR lk L).wr (32*L.length) e.enc=dR lk (L++[e]):=by
 have a:=aQ.dx c;refine vf rfl rfl ?_ (fun p=>?_) fun i=>?_
 .show (if e.enc.length=0 then 32*L.length else max (32*L.length) (32*L.length+e.enc.length))=_
  rw [if_neg (by omega),a,A1,E1];omega
 .show (if 32*L.length<=p/\p<32*L.length+e.enc.length then e.enc.getD (p-32*L.length) 0 else (dV L).getD p 0)=_
  rw [iR (A3 h c),iR h,a]
  split
  .rename_i l
   have d:p/32=L.length:=by omega
   have g:p%32=p-32*L.length:=by omega
   rw [d,g];simp
  .rename_i l
   by_cases j:p/32<L.length
   .rw [O1 j]
   .rw [R1 (by omega),R1 (by rw [A1,E1];omega)]
 .show (decide (15*i<L.length) || cR (32*L.length) e.enc.length i)=decide (15*i<(L++[e]).length)
  rw [a,A1,E1,M1,Bool.or_eq_true,cF,decide_eq_true_iff,decide_eq_true_iff];omega
theorem B1 {lk:Int} {L:List aQ} {e:aQ} (h:rT L) (c:e.ok=Z') {i:Nat} (l:i<L.length):(dR lk L).wr (32*i) e.enc=dR lk (L.set i e):=by
 have a:=aQ.dx c;refine vf rfl rfl ?_ (fun p=>?_) fun j=>?_
 .show (if e.enc.length=0 then 32*L.length else max (32*L.length) (32*i+e.enc.length))=_
  rw [if_neg (by omega),a,H1];omega
 .show (if 32*i<=p/\p<32*i+e.enc.length then e.enc.getD (p-32*i) 0 else (dV L).getD p 0)=_
  rw [iR (yD h c i),iR h,a]
  split
  .rename_i m
   have d:p/32=i:=by omega
   have g:p%32=p-32*i:=by omega
   rw [d,g,List.getElem?_set_self l];rfl
  .rename_i m
   rw [List.getElem?_set_ne (by omega)]
 .show (decide (15*j<L.length) || cR (32*i) e.enc.length j)=decide (15*j<(L.set i e).length)
  rw [a,H1,M1,Bool.or_eq_true,cF,decide_eq_true_iff];omega
theorem AK {lk:Int} {L:List aQ} (h:rT L) {m:Nat} (c:m<=L.length):(dR lk L).cut (32*m)=dR lk (L.take m):=by
 have a:(L.take m).length=m:=by rw [List.length_take];omega
 refine vf rfl rfl ?_ (fun p=>?_) fun j=>?_
 .show 32*m=_;rw [a]
 .show (if p<32*m then (dV L).getD p 0 else 0)=_
  rw [iR (AJ h m),iR h,List.getElem?_take]
  split
  .rw [if_pos (by omega)]
  .rw [if_neg (by omega)];rfl
 .show (decide (15*j<L.length) && decide (480*j<32*m))=decide (15*j<(L.take m).length)
  rw [a,M1,Bool.and_eq_true,decide_eq_true_iff,decide_eq_true_iff,decide_eq_true_iff];omega
theorem my (f:Nat):∀ m,(K1 m).countP (fun i=>decide (i<f))=min f m
 | 0=>by simp
 | m+1=>by
  rw [List.range_succ,List.countP_append,my f m];simp only [List.countP_cons,List.countP_nil,Nat.zero_add]
  by_cases h:m<f
  .rw [if_pos (decide_eq_true h)];omega
  .rw [if_neg (by simpa using h)];omega
def aU (l:Nat):Nat:=1+(l+14)/15+if 240<l then 1 else 0
theorem eS {lk:Int} {L:List aQ} (l:L.length<=3840):bE (dR lk L).pr=aU L.length:=by
 unfold bE aU
 have d:jY (dR lk L).pr=(L.length+14)/15:=by
  have:jY (dR lk L).pr=jY fun i=>decide (i<(L.length+14)/15):=pO fun i _=>by
   show decide (15*i<L.length)=_
   rw [M1,decide_eq_true_iff,decide_eq_true_iff];omega
  rw [this];unfold jY;rw [my];omega
 rw [d];congr 1
 by_cases h:240<L.length
 .rw [if_pos h,if_pos (gx.2 ⟨16,by omega,by omega,decide_eq_true (by omega)⟩)]
 .rw [if_neg h,if_neg]
  intro a;obtain ⟨i,g,j,c⟩:=gx.1 a;have:15*i<L.length:=of_decide_eq_true c;omega
theorem Q9 {w:Q} {p:Option Addr} {g n m:Nat} {l:List UInt8} (t:l.length=m) (z:m<=n) (h:Rd w (S p n g) (bT n l)):Rd w (S p m g) l:=by
 obtain ⟨y,q⟩:=h;rcases q with ⟨d,i⟩|⟨a,c,d,i⟩
 .rw [bZ] at i
  simp only [Value.slice.injEq] at d;obtain ⟨rfl,rfl,rfl⟩:=d;have v:l.length=0:=by omega
  obtain rfl:m=0:=by omega
  exact ⟨by simp,.inl ⟨rfl,v⟩⟩
 .simp only [Value.slice.injEq] at d
  obtain ⟨rfl,-,rfl⟩:=d;refine ⟨by simp,.inr ⟨a,g,by rw [t],fun j u o=>i j u ?_⟩⟩
  have s:j<l.length:=by
   have:=List.getElem?_eq_some_iff.1 o;obtain ⟨r,_⟩:=this
   rwa [List.length_map] at r
  rw [List.getElem?_map] at o ⊢;rw [<- o];unfold bT;rw [List.getElem?_take,if_pos (by omega),O1 s]
end Go.SL
namespace Go.Proofs.Fs
open Go.RowKit Go.SL Go.Proofs.Ba
section
variable {n:Nat} {x x':Fx n} {b k id:Nat} {A:Nat->Option AF} {f:AF} {lk:Int} {L:List aQ} {w:Q} {F:ai}
theorem vO (e:aQ) (y:e.ok=Z') (m:Nat) (i0:m<=3840) {r:Nat->Option AF} {s:Nat} {c:Int} (h:ag w (dF x b A k*F))
  (l:∀ (t:Q) (q:Option Addr) (d:Nat) (D G:ai),(∀ g P,ag g (D*P)->Rd g (S q e.enc.length d) e.enc)->e.enc.length<=d->ag t (dF x b A k*(D*G)) ->
   Calls R 42 #[fJ b n,Z .i64 (id:Int),Z .i64 ((32*m:Nat):Int),S q e.enc.length d] t (YE x' b r s c (D*G) t)) :
  Calls R 136 #[fJ b n,Z .i64 (id:Int),Z .i64 (m:Int),.agg #[Z .i64 (e.nd:Int),V (str e.nm)]] w (YE x' b r s c F w):=by
 refine aH fun f0 HQ=>?_;have z:=aQ.dx y;rw [z] at l;have J:((32*m:Nat):Int)=(m:Int)*32:=by omega
 rw [J] at l;have u:=((h.alloc (cH b n)).alloc (W #[Z .i64 (e.nd:Int),V (str e.nm)] 99 (0,0))).alloc (W #[Z .i64 (e.nd:Int),V (str e.nm)] 99 (0,0));have dA:=ae ((((aj.refl w).alloc (cH b n)).alloc (W #[Z .i64 (e.nd:Int),V (str e.nm)] 99 (0,0))).alloc (W #[Z .i64 (e.nd:Int),V (str e.nm)] 99 (0,0)));simp only [World.size_alloc] at u;have b0:=BG _ _ _ e y _ u;have E:=ae b0;have H:=ae l;have HL:=ae z;have HE:=ae y;clear h l z J b0 u;unfold fJ
 go_enter func136,ntmps136
 go_wp2_with fail
 refine E.out.mono ?_;generalize ((w.alloc (cH b n)).alloc (W #[Z .i64 (e.nd:Int),V (str e.nm)] 99 (0,0))).alloc (W #[Z .i64 (e.nd:Int),V (str e.nm)] 99 (0,0))=t at *;generalize w.heap.size+1+1=M at *;generalize w.heap.size+1=K at *;generalize w.heap.size=i at *;rintro e0 B ⟨v,rfl,o,d2⟩;clear E;have s0:B.cell? ⟨i,0,X⟩=Y (U (Y ⟨b,0,X⟩)):=o.aC.cell 0;have s1:B.cell? ⟨i,1,X⟩=Y (Z .i64 (n:Int)):=o.aC.cell 1;have O:∀ g P,ag g (bs 5 v (bT 480 e.enc)*P)->Rd g v (bT 480 e.enc):=fun g P h=>h.mZ
 obtain ⟨q,d,rfl⟩:∃ a c,v = S a 480 c:=by
  obtain ⟨a,c,e⟩:=aD o;rw [bZ] at e;exact ⟨a,c,e⟩
 have N:480<=d/\(d:Int)<=9223372036854775807:=by
  rcases o.de with ⟨j,p,_⟩|⟨h0,c,g0,j,p,h5,h6,h7⟩
  .rw [bZ] at p;omega
  .simp only [Value.slice.injEq] at j
   obtain ⟨-,-,rfl⟩:=j;rw [bZ] at p;unfold maxLen at h5;omega
 obtain ⟨N,l0⟩:=N;have k0:(32:Int)<=(d:Int):=by omega
 have l:=H.out B.drew q d (bs 5 (S q 480 d) (bT 480 e.enc)) (pt M (W #[Z .i64 (e.nd:Int),V (str e.nm)] 99 (0,0))*(pt K (W #[Z .i64 (e.nd:Int),V (str e.nm)] 99 (0,0))*(pt i (cH b n)*F)))
  (fun g P h=>Q9 HL.out (by decide) (O g P h)) (by omega) (o.drew.to (by ac_rfl))
 rw [<- (show IntKind.i64.wrap ((m:Int)*32)=(m:Int)*32 by rw [IntKind.wrap_i64];omega)] at l;have I:=ae l;clear l H o O
 go_wp2_with fail
 go_region_held3 (fun w'=>w'.cell? ⟨i,0,X⟩=Y (U (Y ⟨b,0,X⟩))/\w'.cell? ⟨i,1,X⟩=Y (Z .i64 (n:Int)))
  (first|exact ⟨s0,s1⟩|exact d0|go_keep)
  (first|(go_at_call 42;refine I.out.mono ?_;rintro e0 C ⟨rfl,d3,j⟩;have d0:C.cell? ⟨i,0,X⟩=Y (U (Y ⟨b,0,X⟩))/\C.cell? ⟨i,1,X⟩=Y (Z .i64 (n:Int)):=⟨j.aK.cell 0,j.aK.cell 1⟩))
 rename_i c0;clear c0;have p:ag C (dF x' b r s*F):=(j.to (by ac_rfl:_=(bs 5 (S q 480 d) (bT 480 e.enc)*(pt M (W #[Z .i64 (e.nd:Int),V (str e.nm)] 99 (0,0))*(pt K (W #[Z .i64 (e.nd:Int),V (str e.nm)] 99 (0,0))*pt i (cH b n))))*(dF x' b r s*F))).right;have H4:=ae p;clear j p I
 go_wp2_with fail
 exact HQ.out _ _ ⟨rfl,(dA.out.trans d2).drew.trans d3,H4.out⟩
end
end Go.Proofs.Fs
namespace Go.SL
open Go.RowKit
theorem vB {L:List aQ} {nm:List UInt8} {i:Nat} (h:iX L nm=Y i):i<L.length:=by
 unfold iX at h;rw [List.findIdx?_eq_some_iff_getElem] at h;exact h.1
theorem ss {L:List aQ} {nm:List UInt8} {i:Nat} (h:iX L nm=Y i):uL L nm=(i:Int):=by unfold uL;rw [h]
theorem sa {L:List aQ} {nm:List UInt8} (h:iX L nm=X):uL L nm=-1:=by unfold uL;rw [h]
end Go.SL
namespace Go.Proofs.Fs
open Go.RowKit Go.SL Go.Proofs.Ba
section
variable {n:Nat} {x x':Fx n} {b k id:Nat} {A:Nat->Option AF} {f:AF} {lk:Int} {L:List aQ} {w:Q} {F:ai} {nm:List UInt8}
theorem Ki {e:aQ} (a:e.ok=Z') (g:rT L) (r:L.length<3840) (m:A id=Y (dR lk L)) (o:aU (L.length+1)<=k+aU L.length) (h:ag w (dF x b A k*F)) :
  Calls R 136 #[fJ b n,Z .i64 (id:Int),Z .i64 (L.length:Int),.agg #[Z .i64 (e.nd:Int),V (str e.nm)]] w (YE (x.more 5) b (dp A id (Y (dR lk (L++[e])))) (k+aU L.length-aU (L.length+1)) 0 F w):=by
 have q:=aQ.dx a;have d:=eS (lk:=lk) (L:=L) (by omega);have c:=eS (lk:=lk) (L:=L++[e]) (by rw [A1,E1];omega);rw [A1,E1] at c;refine vO e a L.length (by omega) h fun t s p D G j l i=>?_;have:=y5 m (32*L.length) j l (by omega) (by omega) (by rw [uB g a,d,c];exact o) i;rw [uB g a,d,c,show e.enc.length/480+5=5 by omega] at this;exact this
theorem Oh {e:aQ} (a:e.ok=Z') (o:rT L) (r:L.length<3840) (l:A id=Y (dR lk L)) (m:k+aU L.length<aU (L.length+1)) (h:ag w (dF x b A k*F)) :
  Calls R 136 #[fJ b n,Z .i64 (id:Int),Z .i64 (L.length:Int),.agg #[Z .i64 (e.nd:Int),V (str e.nm)]] w (YE x b A k 7 F w):=by
 have q:=aQ.dx a;have d:=eS (lk:=lk) (L:=L) (by omega);have c:=eS (lk:=lk) (L:=L++[e]) (by rw [A1,E1];omega);rw [A1,E1] at c;refine vO e a L.length (by omega) h fun t s p D G i j g=>?_;exact MW l (32*L.length) i j (by omega) (by omega) (by rw [uB o a,d,c];exact m) g
theorem KF {e:aQ} (a:e.ok=Z') (j:rT L) (s:L.length<=3840) (p:A id=Y (dR lk L)) {i:Nat} (g:i<L.length) (h:ag w (dF x b A k*F)) :
  Calls R 136 #[fJ b n,Z .i64 (id:Int),Z .i64 (i:Int),.agg #[Z .i64 (e.nd:Int),V (str e.nm)]] w (YE (x.more 5) b (dp A id (Y (dR lk (L.set i e)))) k 0 F w):=by
 have r:=aQ.dx a;have d:=eS (lk:=lk) (L:=L) (by omega);have c:=eS (lk:=lk) (L:=L.set i e) (by rw [H1];omega);rw [H1] at c;refine vO e a i (by omega) h fun u t q D G m o l=>?_;have:=y5 p (32*i) m o (by omega) (by omega) (by rw [B1 j a g,d,c];omega) l;rw [B1 j a g,d,c,Nat.add_sub_cancel,show e.enc.length/480+5=5 by omega] at this;exact this
theorem Jj (h:ag w (dF x b A k*F)) (q:A id=Y (dR lk L)) (v:rT L) (o:L.length<=3840) {i:Nat} (s:iX L nm=Y i) (M:i<L.length) :
  Calls R 97 #[fJ b n,Z .i64 (id:Int),V (str nm)] w (YI x b A k ((L[i]).nd) 0 F w):=by
 refine aH fun b0 G=>?_;have l:=h.alloc (cH b n);have J:=ae ((aj.refl w).alloc (cH b n));have z:=ae (iN l.ah q (iK v o));have y:=ss s;obtain ⟨m,t⟩:∃ m,L.length=m:=⟨_,rfl⟩
 have c0:(w.alloc (cH b n)).cell? ⟨w.heap.size,0,X⟩=Y (U (Y ⟨b,0,X⟩)):=l.cell 0;have E:=ae y;have p:=ae t;have f0:(m:Int)<=3840:=by omega
 have e0:(i:Int)<(m:Int):=by omega
 have C:=ae o;clear h l q v y t o s;unfold fJ
 go_enter func97,ntmps97
 go_wp2_with fail
 refine z.out.mono ?_;generalize w.alloc (cH b n)=w1 at *;generalize w.heap.size=K at *;rintro r w2 ⟨u,rfl,H,j⟩;have c:=dO w2 u L nm _ C.out j;unfold pL at c;rw [E.out] at c;have d:=ae c;obtain ⟨ua,P,rfl⟩:=aD j;rw [p.out] at d ⊢;clear z c j
 go_wp2_with fail
 refine d.out.mono ?_;rintro r w3 ⟨rfl,a,I⟩;rw [<- p.out] at a;obtain ⟨g,d0,e,e1,e2,N,O⟩:=oq a M;simp only [Value.slice.injEq] at e;obtain ⟨rfl,-,rfl⟩:=e;have B:=ae a;clear a d N O
 go_wp2_with fail
 exact G.out _ _ ⟨by simp,(J.out.trans H).trans I,(B.out.to (by ac_rfl:_=(sl 99 2 (S (Y ⟨g,0,X⟩) L.length P) L.length (bu L)*pt K (cH b n))*(dF x b A k*F))).right⟩
theorem NF (h:ag w (dF x b A k*F)) (l:A id=Y (dR lk L)) (q:rT L) (i:L.length<=3840) (o:iX L nm=X) :
  Calls R 97 #[fJ b n,Z .i64 (id:Int),V (str nm)] w (YI x b A k 0 5 F w):=by
 refine aH fun N C=>?_;have g:=h.alloc (cH b n);have H:=ae ((aj.refl w).alloc (cH b n));have t:=ae (iN g.ah l (iK q i));have s:=sa o;obtain ⟨m,p⟩:∃ m,L.length=m:=⟨_,rfl⟩
 have O:(w.alloc (cH b n)).cell? ⟨w.heap.size,0,X⟩=Y (U (Y ⟨b,0,X⟩)):=g.cell 0;have B:=ae s;have z:=ae p;have P:(m:Int)<=3840:=by omega
 have y:=ae i;clear h g l q s p i o;unfold fJ
 go_enter func97,ntmps97
 go_wp2_with fail
 refine t.out.mono ?_;generalize w.alloc (cH b n)=w1 at *;generalize w.heap.size=I at *;rintro r M ⟨u,rfl,E,d⟩;have a:=dO M u L nm _ y.out d;unfold pL at a;rw [B.out] at a;have c:=ae a;obtain ⟨J,K,rfl⟩:=aD d;rw [z.out] at c ⊢;clear t a d
 go_wp2_with fail
 refine c.out.mono ?_;rintro r w3 ⟨rfl,j,G⟩;have v:=ae j;clear j c
 go_wp2_with fail
 exact C.out _ _ ⟨by simp,(H.out.trans E).trans G,(v.out.to (by ac_rfl:_=(sl 99 2 (S J m K) m (bu L)*pt I (cH b n))*(dF x b A k*F))).right⟩
theorem G9 {a:Nat} (M:1<=a) (N:a<=3839) (h:ag w (dF x b A k*F)) (s:A id=Y (dR lk L)) (y:rT L) (l:L.length<=3840) (t:cL nm=Z') {i:Nat} (o:iX L nm=Y i) :
  Calls R 98 #[fJ b n,Z .i64 (id:Int),V (str nm),Z .i64 (a:Int)] w (YE x b A k 6 F w):=by
 refine aH fun b0 G=>?_;have j:=h.alloc (cH b n);have J:=ae ((aj.refl w).alloc (cH b n));have z:=ae (iN j.ah s (iK y l));obtain ⟨m,v⟩:∃ m,L.length=m:=⟨_,rfl⟩
 have c0:(w.alloc (cH b n)).cell? ⟨w.heap.size,0,X⟩=Y (U (Y ⟨b,0,X⟩)):=j.cell 0;have E:=ae v;have O:=ae (ss o);have e0:(m:Int)<=3840:=by omega
 have d0:(i:Int)<(m:Int):=by have:=vB o;omega
 have C:=ae l;have p:=ae fun w=>qh w nm;rw [t] at p;have g1:¬ ((a:Int)<1):=by omega
 have g2:¬ ((3839:Int)<(a:Int)):=by omega
 clear h j s y v l t o M N;unfold fJ
 go_enter func98,ntmps98
 go_wp2_with fail
 refine z.out.mono ?_;generalize w.alloc (cH b n)=w1 at *;generalize w.heap.size=K at *;rintro r w2 ⟨u,rfl,H,g⟩;have c:=dO w2 u L nm _ C.out g;unfold pL at c;rw [O.out] at c;have d:=ae c;obtain ⟨P,uc,rfl⟩:=aD g;rw [E.out] at d ⊢;clear z g c
 go_wp2_with fail
 refine (p.out _).mono ?_;rintro r w3 ⟨rfl,rfl⟩
 go_wp2_with fail
 refine d.out.mono ?_;rintro r w3 ⟨rfl,q,I⟩;have B:=ae q;clear q d
 go_wp2_with fail
 exact G.out _ _ ⟨by simp,(J.out.trans H).trans I,(B.out.to (by ac_rfl:_=(sl 99 2 (S P m uc) m (bu L)*pt K (cH b n))*(dF x b A k*F))).right⟩
theorem Fu {a:Nat} {o:Nat->Option AF} {v:Nat} {c:Int} (d0:1<=a) (e0:a<=3839) (h:ag w (dF x b A k*F)) (C:A id=Y (dR lk L)) (I:rT L) (H:L.length<3840) (E:cL nm=Z') (J:iX L nm=X)
  (u:∀ j G,ag j (dF x b A k*G)->Calls R 136 #[fJ b n,Z .i64 (id:Int),Z .i64 (L.length:Int),.agg #[Z .i64 (a:Int),V (str nm)]] j (YE x' b o v c G j)) :
  Calls R 98 #[fJ b n,Z .i64 (id:Int),V (str nm),Z .i64 (a:Int)] w (YE x' b o v c F w):=by
 refine aH fun h0 HQ=>?_;have s:=h.alloc (cH b n);have dA:=ae ((aj.refl w).alloc (cH b n));have K:=ae (iN s.ah C (iK I (by omega)));obtain ⟨m,t⟩:∃ m,L.length=m:=⟨_,rfl⟩
 have c0:(w.alloc (cH b n)).cell? ⟨w.heap.size,0,X⟩=Y (U (Y ⟨b,0,X⟩)):=s.cell 0;rw [t] at u;have b0:=ae u;have HM:=ae t;have f0:=ae (sa J);have i0:(m:Int)<3840:=by omega
 have P:Hid (L.length<=3840):=Nat.le_of_lt H;have z:=ae fun w=>qh w nm;rw [E] at z;have g1:¬ ((a:Int)<1):=by omega
 have g2:¬ ((3839:Int)<(a:Int)):=by omega
 clear h s C I t H E J d0 e0 u;unfold fJ
 go_enter func98,ntmps98
 go_wp2_with fail
 refine K.out.mono ?_;generalize w.alloc (cH b n)=j at *;generalize w.heap.size=d at *;rintro r w2 ⟨g0,rfl,d2,q⟩;have i:=dO w2 g0 L nm _ P.out q;unfold pL at i;rw [f0.out] at i;have p:=ae i;obtain ⟨M,N,rfl⟩:=aD q;rw [HM.out] at p ⊢;clear K q i
 go_wp2_with fail
 refine (z.out _).mono ?_;rintro r l ⟨rfl,rfl⟩
 go_wp2_with fail
 refine p.out.mono ?_;rintro r l ⟨rfl,g,d3⟩;have c0:l.cell? ⟨d,0,X⟩=Y (U (Y ⟨b,0,X⟩)):=g.au.cell 0;have c1:l.cell? ⟨d,1,X⟩=Y (Z .i64 (n:Int)):=g.au.cell 1;have y:=ae g;clear g p
 go_wp2_with fail
 refine (b0.out l _ (y.out.to (by ac_rfl:_=dF x b A k*((sl 99 2 (S M m N) m (bu L)*pt d (cH b n))*F)))).mono ?_;rintro r w4 ⟨rfl,d4,B⟩;have O:=ae (B.to (by ac_rfl:_=(sl 99 2 (S M m N) m (bu L)*pt d (cH b n))*(dF x' b o v*F))).right;clear B y
 go_wp2_with fail
 exact HQ.out _ _ ⟨by simp,((dA.out.trans d2).trans d3).trans d4,O.out⟩
theorem tW {a:Nat} (c:1<=a) (d:a<=3839) (h:ag w (dF x b A k*F)) (g:A id=Y (dR lk L)) (l:rT L) (j:L.length<3840) (i:cL nm=Z') (p:iX L nm=X) (o:aU (L.length+1)<=k+aU L.length) :
  Calls R 98 #[fJ b n,Z .i64 (id:Int),V (str nm),Z .i64 (a:Int)] w (YE (x.more 5) b (dp A id (Y (dR lk (L++[⟨a,nm⟩])))) (k+aU L.length-aU (L.length+1)) 0 F w):=
 Fu c d h g l j i p fun q G m=>Ki (e:=⟨a,nm⟩) (aQ.lS.2 ⟨c,d,su i⟩) l j g o m
theorem Rp {a:Nat} (c:1<=a) (d:a<=3839) (h:ag w (dF x b A k*F)) (g:A id=Y (dR lk L)) (l:rT L) (j:L.length<3840) (i:cL nm=Z') (p:iX L nm=X) (o:k+aU L.length<aU (L.length+1)) :
  Calls R 98 #[fJ b n,Z .i64 (id:Int),V (str nm),Z .i64 (a:Int)] w (YE x b A k 7 F w):=
 Fu c d h g l j i p fun q G m=>Oh (e:=⟨a,nm⟩) (aQ.lS.2 ⟨c,d,su i⟩) l j g o m
end
end Go.Proofs.Fs
namespace Go.SL
open Go.RowKit
def mR (L:List aQ) (i:Nat):List aQ:=(L.set i (L.getD (L.length-1) aQ.no)).take (L.length-1)
theorem j0 {L:List aQ} {i:Nat}:(mR L i).length=L.length-1:=by
 unfold mR;rw [List.length_take,H1];omega
theorem Ks {L:List aQ}:mR L (L.length-1)=L.take (L.length-1):=by
 unfold mR;rw [List.take_set_of_le (Nat.le_refl _)]
theorem EV {L:List aQ} (h:rT L) {i:Nat} (a:i<L.length):(L.getD i aQ.no).ok=Z':=by
 rw [D1,L1 a];exact h _ (List.getElem_mem a)
theorem OR {L:List aQ} (h:rT L) {i:Nat} (a:i<L.length):rT (mR L i):=AJ (yD h (EV h (by omega)) i) _
end Go.SL
namespace Go.Proofs.Fs
open Go.RowKit Go.SL Go.Proofs.Ba
section
variable {n:Nat} {x:Fx n} {b k id:Nat} {A:Nat->Option AF} {f:AF} {lk:Int} {L:List aQ} {w:Q} {F:ai} {nm:List UInt8}
def Fx.fork {n:Nat} (x:Fx n) (j:Nat) (M:gD x.σ):Fx n:=
 ⟨x.σ,x.c,x.V0,x.I,x.ok,x.Jf,x.h4,x.hn,fun a=>aA 176 5 a j x.c.rd M.err M.W M.D*x.R a,fun a c e h p=>by
  obtain ⟨g,i,l,m,d,rfl⟩:=p;exact ⟨g,i,dG e _ l,x.hR a c e _ m,d,rfl⟩,x.C⟩
def Qw (x:Fx n) (b:Nat) (A:Nat->Option AF) (k:Nat) (F:ai) (w:Q) (e:Ending) (a:Q):Prop:=
 ∃ g M,e = .returned (ay g)/\aj w a/\ag a (dF (x.fork b M) g A k*F)
theorem xz (h:ag w (dF x b A k*F)):Calls R 135 #[ay b] w (Qw x b A k F w):=by
 obtain ⟨M,p,i⟩:=ag.kz h;obtain ⟨c,j⟩:=ag.mH i;refine (nI w c b x.c.rd M.err M.W M.D (x.c.RI M.s*(x.R c*F)) (j.to (by unfold cE;ac_rfl)) ⟨_,_,rfl⟩).mono ?_;rintro e q ⟨a,g,o,rfl,l,d⟩;refine ⟨g,M,rfl,d,?_⟩;have m:=(l.to (by ac_rfl:_=x.R c*(aA 176 5 a g x.c.rd M.err M.W M.D*(aA 176 5 a b x.c.rd M.err M.W M.D*(ak a*(x.c.RI M.s*F)))))).fw (x.hR c a o);refine ag.nh (x:=x.fork b M) p ?_;refine ag.aw.2 ⟨a,?_⟩;exact m.to (by show _=(cE x.c a g M*(ak a*(aA 176 5 a b x.c.rd M.err M.W M.D*x.R a)))*F;unfold cE;ac_rfl)
def QU (x:Fx n) (b:Nat) (A:Nat->Option AF) (k:Nat) (F:ai) (w:Q) (e:Ending) (a:Q):Prop:=
 e = .returned (.tuple #[])/\aj w a/\ag a (dF x b A k*F)
theorem xY {M:gD x.σ} {g:Nat} (h:ag w (dF (x.fork b M) g A k*F)):Calls R 138 #[ay b,ay g] w (QU x b A k F w):=by
 obtain ⟨c,q,i⟩:=ag.kz h;obtain ⟨a,j⟩:=ag.aw.1 i
 have l:ag w (aA 176 5 a b x.c.rd M.err M.W M.D*(aA 176 5 a g x.c.rd c.err c.W c.D*(ak a*(x.c.RI c.s*(x.R a*F))))):=
  j.to (by show (cE x.c a g c*(ak a*(aA 176 5 a b x.c.rd M.err M.W M.D*x.R a)))*F=_;unfold cE;ac_rfl)
 refine (iv w a b g x.c.rd x.c.rd c.err M.err c.W c.D M.W M.D _ l ⟨_,_,rfl⟩).mono ?_;rintro e s ⟨r,p,rfl,m,d⟩;refine ⟨rfl,d,?_⟩;have o:=m.iq;exact ag.nh (x:=x) q (ag.rq p (o.to (by unfold cE;ac_rfl)))
theorem Re {m q a:Nat} {p:Nat} {E:aQ} (h:ag w (sl 99 2 (S (Y ⟨a,0,X⟩) m p) m (bu L)*F)) (o:L.length=m) (j:q<L.length) (l:L[q]'j=E) :
  w.cell? ⟨a,q*2,X⟩=Y (Z .i64 (E.nd:Int))/\w.cell? ⟨a,q*2+1,X⟩=Y (V (str E.nm)):=by
 obtain ⟨g,c,e,d,i,r,s⟩:=oq (L:=L) (k:=q) (h.to (by rw [o])) j;simp only [Value.slice.injEq,Option.some.injEq,Addr.mk.injEq] at e;obtain ⟨⟨rfl,-⟩,-⟩:=e;rw [l] at d i;exact ⟨d,i⟩
def Nv (x:Fx n) (b:Nat) (A:Nat->Option AF) (k h:Nat) (d F:ai) (w:Q) (u:Value) (c:Q):Prop:=
 ∃ (g:Nat) (M:gD x.σ) (a:Nat),u=ay a/\aj w c/\ag c (pt a (W #[ay g,Z .i64 (n:Int)] 83 (0,0))*(dF (x.fork b M) g A k*(d*(pt h (cH b n)*F))))
theorem Eh (F0:ag w (dF x b A k*F)) (hf:A id=Y (dR lk L)) (o0:rT L) (hl:L.length<=3840) {i:Nat} (hi:iX L nm=Y i) :
    Calls R 79 #[fJ b n,Z .i64 (id:Int),V (str nm)] w (YE (x.more 9) b (dp A id (Y (dR lk (mR L i)))) (k+aU L.length-aU (L.length-1)) 0 F w):=by
  refine aH fun X0 HQ=>?_;have hL:=vB hi;have hA:=F0.alloc (cH b n);have dA:=ae ((aj.refl w).alloc (cH b n));have hr:=ae (iN hA.ah hf (iK o0 hl));have hp:=ss hi;obtain ⟨m,hm⟩:∃ m,L.length=m:=⟨_,rfl⟩
  have c0:(w.alloc (cH b n)).cell? ⟨w.heap.size,0,X⟩=Y (U (Y ⟨b,0,X⟩)):=hA.cell 0;have HP:=ae hp;have h:=ae hm;have HF:=ae hf;have N:=ae o0;have a1:(m:Int)<=3840:=by omega
  have Z0:(i:Int)<(m:Int):=by omega
  have z:=ae hl;clear F0 hA hf o0 hp hm hl hi;unfold fJ
  go_enter func79,ntmps79
  go_wp2_with fail
  refine hr.out.mono ?_;generalize w.alloc (cH b n)=w1 at *;generalize w.heap.size=a at *;rintro r w2 ⟨r0,rfl,d2,h2⟩;have d0:=dO w2 r0 L nm _ z.out h2;unfold pL at d0;rw [HP.out] at d0;have l0:=ae d0;obtain ⟨J,p,rfl⟩:=aD h2;rw [h.out] at l0 ⊢;clear hr d0 h2
  go_wp2_with fail
  refine l0.out.mono ?_;rintro r o ⟨rfl,H,d3⟩;have D3:=ae ((dA.out.trans d2).trans d3);have s0:o.cell? ⟨a,0,X⟩=Y (U (Y ⟨b,0,X⟩)):=H.au.cell 0;have s1:o.cell? ⟨a,1,X⟩=Y (Z .i64 (n:Int)):=H.au.cell 1;have O:=H.alloc (W #[U X,Z .i64 0] 83 (0,0));have u0:=ae ((D3.out.alloc (W #[U X,Z .i64 0] 83 (0,0))).drew);have H0:=ae (xz (x:=x) (b:=b) (k:=k) (A:=A) (w:=(o.alloc (W #[U X,Z .i64 0] 83 (0,0))).drew) (F:=pt o.heap.size (W #[U X,Z .i64 0] 83 (0,0))*(sl 99 2 (S J m p) m (bu L)*(pt a (cH b n)*F))) (O.drew.to (by ac_rfl)));have K0:=ae (xz (x:=x) (b:=b) (k:=k) (A:=A) (w:=o.drew) (F:=(sl 99 2 (S J m p) m (bu L)*(pt a (cH b n)*F))) (H.drew.to (by ac_rfl)));have t0:(o.alloc (W #[U X,Z .i64 0] 83 (0,0))).cell? ⟨a,0,X⟩=Y (U (Y ⟨b,0,X⟩)):=O.aC.cell 0;have t1:(o.alloc (W #[U X,Z .i64 0] 83 (0,0))).cell? ⟨a,1,X⟩=Y (Z .i64 (n:Int)):=O.aC.cell 1;clear H O l0 d3 d2 dA
  go_wp2_with fail
  go_cut [11] from 31 to 36 (fun r0 wx=>Nv x b A k a (sl 99 2 (S J m p) m (bu L)) F w r0 wx)
  case first=>
    go_region_held3 (fun y=>y.cell? ⟨a,0,X⟩=Y (U (Y ⟨b,0,X⟩))/\y.cell? ⟨a,1,X⟩=Y (Z .i64 (n:Int)))
      (first|exact ⟨s0,s1⟩|exact ⟨t0,t1⟩|exact v|exact N0|exact W0|go_keep)
      (first | (go_at_call 135; refine H0.out.mono ?_; rintro r c ⟨g, M, rfl, B, d⟩; have v : c.cell? ⟨a, 0, X⟩ = Y (U (Y ⟨b, 0, X⟩)) /\ c.cell? ⟨a, 1, X⟩ = Y (Z .i64 (n : Int)) := ⟨d.aC.cell 0, d.aC.cell 1⟩; have z0 : c.cell? ⟨o.heap.size, 0, X⟩ = Y (U X) := d.ah.cell 0; have z1 : c.cell? ⟨o.heap.size, 1, X⟩ = Y (Z .i64 0) := d.ah.cell 1; have f0 := d.ah.frozen 0; have f1 := d.ah.frozen 1;
                have j:=((d.ah.setCell 0 (ay g)).setCell 1 (Z .i64 (n:Int)));have N0:((c.setCell ⟨o.heap.size,0,X⟩ (ay g)).setCell ⟨o.heap.size,1,X⟩ (Z .i64 (n:Int))).cell? ⟨a,0,X⟩=Y (U (Y ⟨b,0,X⟩))/\((c.setCell ⟨o.heap.size,0,X⟩ (ay g)).setCell ⟨o.heap.size,1,X⟩ (Z .i64 (n:Int))).cell? ⟨a,1,X⟩=Y (Z .i64 (n:Int)):=⟨j.aC.cell 0,j.aC.cell 1⟩)
             | (go_at_call 135;refine K0.out.mono ?_;rintro r c ⟨g,M,rfl,B,d⟩;have v:c.cell? ⟨a,0,X⟩=Y (U (Y ⟨b,0,X⟩))/\c.cell? ⟨a,1,X⟩=Y (Z .i64 (n:Int)):=⟨d.au.cell 0,d.au.cell 1⟩;have m0:=d.alloc (W #[U X,Z .i64 0] 83 (0,0));have N0:(c.alloc (W #[U X,Z .i64 0] 83 (0,0))).cell? ⟨a,0,X⟩=Y (U (Y ⟨b,0,X⟩))/\(c.alloc (W #[U X,Z .i64 0] 83 (0,0))).cell? ⟨a,1,X⟩=Y (Z .i64 (n:Int)):=⟨m0.aC.cell 0,m0.aC.cell 1⟩;
                have j:=((m0.setCell 0 (ay g)).setCell 1 (Z .i64 (n:Int)));have W0:(((c.alloc (W #[U X,Z .i64 0] 83 (0,0))).setCell ⟨c.heap.size,0,X⟩ (ay g)).setCell ⟨c.heap.size,1,X⟩ (Z .i64 (n:Int))).cell? ⟨a,0,X⟩=Y (U (Y ⟨b,0,X⟩))/\(((c.alloc (W #[U X,Z .i64 0] 83 (0,0))).setCell ⟨c.heap.size,0,X⟩ (ay g)).setCell ⟨c.heap.size,1,X⟩ (Z .i64 (n:Int))).cell? ⟨a,1,X⟩=Y (Z .i64 (n:Int)):=⟨j.aC.cell 0,j.aC.cell 1⟩))
    all_goals go_wp2_with fail
    all_goals go_meet
    all_goals first
      | exact ⟨g,M,c.heap.size,rfl,((D3.out.drew.trans B).alloc (W #[ay g,Z .i64 (n:Int)] 83 (0,0))),(d.alloc (W #[ay g,Z .i64 (n:Int)] 83 (0,0))).to (by ac_rfl)⟩
      | exact ⟨g,M,o.heap.size,rfl,((u0.out.trans B).setCell _ _).setCell _ _,j.to (by show pt _ (W #[ay g,Z .i64 (n:Int)] 83 (0,0))*_=_;ac_rfl)⟩
  case rest=>
    obtain ⟨g,M,l,rfl,g0,t⟩:=hcut;clear H0 K0 D3 u0 s0 s1 t0 t1 c0;have q0:wc.cell? ⟨l,0,X⟩=Y (ay g):=t.cell 0;have q1:wc.cell? ⟨l,1,X⟩=Y (Z .i64 (n:Int)):=t.cell 1;rw [show (m:Int)-1=((m-1:Nat):Int) by omega];obtain ⟨q,hq⟩:∃ q,m-1=q:=⟨_,rfl⟩
    have x0:Hid (L.length-1=q):=by show _=_;rw [h.out,hq]
    have d1:(q:Int)<(m:Int):=by omega
    have e0:q+1=m:=by omega
    rw [hq]
    by_cases b1:(i:Int)<(q:Int)
    · have c1:i<q:=by omega
      have b0:=EV N.out (i:=q) (by have:=h.out;omega);obtain ⟨u,Y0,e,e1,e2,k1,k2⟩:=oq (L:=L) (k:=q) ((t.au).to (by rw [h.out])) (by have:=h.out;omega);simp only [Value.slice.injEq] at e;obtain ⟨rfl,-,rfl⟩:=e;have g1:(m:Int)<=(p:Int):=by have:=h.out;omega
      have h1:(p:Int)<=9223372036854775807:=by omega
      obtain ⟨E,P⟩:∃ E,L.getD q aQ.no=E:=⟨_,rfl⟩
      have G0:L[q]'(by have:=h.out;omega)=E:=by rw [<- P,D1,L1 (by have:=h.out;omega)];rfl
      rw [G0] at e1 e2;rw [P] at b0;have L0:=KF (x:=x.fork b M) (b:=g) (k:=k) (id:=id) (A:=A) (w:=wc.drew) (e:=E) (F:=sl 99 2 (S (Y ⟨u,0,X⟩) m p) m (bu L)*(pt a (cH b n)*(pt l (W #[ay g,Z .i64 (n:Int)] 83 (0,0))*F))) b0 N.out z.out HF.out hL (t.drew.to (by ac_rfl));have D0:=ae L0;have HS:=ae g0;have T0:=ae t;have HE:=ae P;have R0:=ae b0;have S0:=ae e0;clear L0 g0 t P b0 G0 k1 k2 hq e0
      go_wp2_with fail
      go_region_held3 (fun y=>y.cell? ⟨l,0,X⟩=Y (ay g)/\y.cell? ⟨l,1,X⟩=Y (Z .i64 (n:Int))/\y.cell? ⟨u,q*2,X⟩=Y (Z .i64 (E.nd:Int))/\y.cell? ⟨u,q*2+1,X⟩=Y (V (str E.nm)))
        (first|exact ⟨q0,q1,e1,e2⟩|exact v|go_keep)
        (first|(go_at_call 136;refine D0.out.mono ?_;rintro r c ⟨rfl,B,d⟩;have v:c.cell? ⟨l,0,X⟩=Y (ay g)/\c.cell? ⟨l,1,X⟩=Y (Z .i64 (n:Int))/\c.cell? ⟨u,q*2,X⟩=Y (Z .i64 (E.nd:Int))/\c.cell? ⟨u,q*2+1,X⟩=Y (V (str E.nm)):=⟨d.aC.cell 0,d.aC.cell 1,Re d.ah h.out (by have:=h.out;omega) (by rw [<- HE.out,D1,L1 (by have:=h.out;omega)];rfl)⟩))
      rename_i V0;clear V0;have D4:=ae (HS.out.drew.trans B);have q0:c.cell? ⟨l,0,X⟩=Y (ay g):=v.1;have q1:c.cell? ⟨l,1,X⟩=Y (Z .i64 (n:Int)):=v.2.1;have d:=d.to (by ac_rfl:_=dF ((x.fork b M).more 5) g (dp A id (Y (dR lk (L.set i E)))) k*(pt l (W #[ay g,Z .i64 (n:Int)] 83 (0,0))*(pt a (cH b n)*(sl 99 2 (S (Y ⟨u,0,X⟩) m p) m (bu L)*F))));have n0:(L.set i E).length=L.length:=H1;have h0:Hid (q<=(L.set i E).length):=by show q<=(L.set i E).length;rw [n0,h.out];omega
      have i0:Hid ((L.set i E).length<=3840):=by show (L.set i E).length<=3840;rw [n0];exact z.out
      have k0:Hid ((mR L i).length<=3840):=by show (mR L i).length<=3840;rw [j0];have:=z.out;omega
      have p0:(L.set i E).take q=mR L i:=by unfold mR;rw [x0.out,HE.out]
      clear v B T0 D0;have s:=ae (EU (x:=(x.fork b M).more 5) (b:=g) (k:=k) (id:=id) (A:=(dp A id (Y (dR lk (L.set i E))))) (w:=c) d (if_pos rfl) (32*q) (by omega));rw [AK (yD N.out R0.out i) h0.out,p0,eS i0.out,eS k0.out,j0,n0,h.out,Ry] at s;rw [show ((32*q:Nat):Int)=(q:Int)*32 by omega] at s
      go_wp2_with fail
      refine s.out.mono ?_;rintro r K ⟨rfl,C,j⟩;clear s;have v0:K.cell? ⟨l,0,X⟩=Y (ay g):=j.ah.cell 0;have v1:K.cell? ⟨a,0,X⟩=Y (U (Y ⟨b,0,X⟩)):=j.au.cell 0;have J0:=ae (xY (x:=x.more 9) (M:=M) j);have D5:=ae (D4.out.trans C);clear C
      go_wp2_with fail
      refine J0.out.mono ?_;rintro r w6 ⟨rfl,G,I⟩;have H6:=ae ((I.to (by ac_rfl:_=(pt l (W #[ay g,Z .i64 (n:Int)] 83 (0,0))*(pt a (cH b n)*(sl 99 2 (S (Y ⟨u,0,X⟩) m p) m (bu L))))*(dF (x.more 9) b (dp A id (Y (dR lk (mR L i)))) (k+aU m-aU (m-1))*F))).right);have D6:=ae (D5.out.trans G);clear j I J0 G v0 v1
      go_wp2_with fail
      exact HQ.out _ _ ⟨by simp,D6.out,by have:=H6.out;rw [<- h.out] at this;exact this⟩
    · obtain rfl:i=q:=by omega
      have d:=t.to (by ac_rfl:_=dF (x.fork b M) g A k*(pt l (W #[ay g,Z .i64 (n:Int)] 83 (0,0))*(pt a (cH b n)*(sl 99 2 (S J m p) m (bu L)*F))));have h0:Hid (i<=L.length):=by show i<=L.length;rw [h.out];omega
      have i0:Hid (L.length<=3840):=z.out;have k0:Hid ((mR L i).length<=3840):=by show (mR L i).length<=3840;rw [j0];have:=z.out;omega
      have p0:L.take i=mR L i:=by rw [<- x0.out,Ks]
      have D4:=ae g0;have S0:=ae e0;clear t g0 hq e0
      go_wp2_with fail
      have s:=ae (EU (x:=x.fork b M) (b:=g) (k:=k) (id:=id) (A:=A) (w:=wc) d HF.out (32*i) (by omega));rw [AK N.out h0.out,p0,eS i0.out,eS k0.out,j0,h.out] at s;rw [show ((32*i:Nat):Int)=(i:Int)*32 by omega] at s
      go_wp2_with fail
      refine s.out.mono ?_;rintro r K ⟨rfl,C,j⟩;clear s;have v0:K.cell? ⟨l,0,X⟩=Y (ay g):=j.ah.cell 0;have v1:K.cell? ⟨a,0,X⟩=Y (U (Y ⟨b,0,X⟩)):=j.au.cell 0;have J0:=ae (xY (x:=x.more 4) (M:=M) j);have D5:=ae (D4.out.trans C);clear C
      go_wp2_with fail
      refine J0.out.mono ?_;rintro r w6 ⟨rfl,G,I⟩;have H6:=ae ((I.to (by ac_rfl:_=(pt l (W #[ay g,Z .i64 (n:Int)] 83 (0,0))*(pt a (cH b n)*(sl 99 2 (S J m p) m (bu L))))*(dF (x.more 4) b (dp A id (Y (dR lk (mR L i)))) (k+aU m-aU (m-1))*F))).right |> ag.sV 5);have D6:=ae (D5.out.trans G);clear j I J0 G v0 v1
      go_wp2_with fail
      exact HQ.out _ _ ⟨by simp,D6.out,by have:=H6.out;rw [<- h.out] at this;exact this⟩
end
end Go.Proofs.Fs
namespace Go.SL
open Go.RowKit
inductive tN where
 | file (f:AF)
 | dir (L:List aQ)
def tN.af:tN->AF
 | .file f=>f
 | .dir L=>dR 1 L
abbrev Tr:=Nat->Option tN
def eY (T:Tr):Nat->Option AF:=fun id=>(T id).map tN.af
theorem sE (T:Tr) (id:Nat) (x:tN):dp (eY T) id (Y x.af)=eY (dp T id (Y x)):=by
 funext b;unfold eY dp;split <;> rfl
theorem By (T:Tr) (id:Nat):dp (eY T) id X=eY (dp T id X):=by
 funext b;unfold eY dp;split <;> rfl
theorem lq {T:Tr} {id:Nat} {f:AF} (h:T id=Y (.file f)):eY T id=Y f:=by unfold eY;rw [h];rfl
theorem jw {T:Tr} {id:Nat} {L:List aQ} (h:T id=Y (.dir L)):eY T id=Y (dR 1 L):=by unfold eY;rw [h];rfl
def eQ:Tr:=fun id=>if id=1 then Y (.dir []) else X
structure oK (L:List aQ):Prop where
 ok:rT L
 len:L.length<=3840
 nd:(L.map aQ.nm).Nodup
 nm:∀ e ∈ L,cL e.nm=true
def eX:Option tN->List aQ
 | some (.dir L)=>L
 | _=>[]
def bW (ps:List (List UInt8)):List UInt8:=ps.getD (ps.length-1) []
def refs (n:Nat) (T:Tr) (id:Nat):Nat:=((K1 n).map fun d=>(eX (T d)).countP fun e=>e.nd == id).sum
def Cq (id:Nat):Option tN->Int
 | some (.file f)=>f.lk
 | some (.dir _)=>if id=1 then 0 else 1
 | none=>0
structure Tidy (n:Nat) (T:Tr):Prop where
 root:∃ L,T 1=some (.dir L)
 pK:∀ id L,T id=some (.dir L)->oK L
 files:∀ id f,T id=some (.file f)->f.kd=1
 ref:∀ id,(refs n T id:Int)=Cq id (T id)
 out:∀ id,n<=id->T id=none
def dZ (x:Option tN) (nm:List UInt8):Int × Nat:=match x with
 | some (.dir L)=>(match iX L nm with|some i=>(0,(L.getD i aQ.no).nd)|none=>(5,0))
 | some (.file _)=>(8,0)
 | none=>(4,0)
def aN (T:Tr):Nat->List (List UInt8)->Int × Nat
 | id,[]=>(0,id)
 | id,nm :: ps=>if (dZ (T id) nm).1=0 then aN T (dZ (T id) nm).2 ps else ((dZ (T id) nm).1,0)
theorem GC (T:Tr) (id:Nat):aN T id []=(0,id):=rfl
theorem gX {T:Tr} {id:Nat} {nm:List UInt8} {ps:List (List UInt8)} (h:(dZ (T id) nm).1=0):aN T id (nm :: ps)=aN T (dZ (T id) nm).2 ps:=if_pos h
theorem qY {T:Tr} {id:Nat} {nm:List UInt8} {ps:List (List UInt8)} (h:¬ (dZ (T id) nm).1=0):aN T id (nm :: ps)=((dZ (T id) nm).1,0):=if_neg h
theorem iU {L:List aQ} {nm:List UInt8} {i:Nat} (h:iX L nm=Y i):dZ (Y (.dir L)) nm=(0,(L.getD i aQ.no).nd):=by unfold dZ;simp only [h]
theorem mn {L:List aQ} {nm:List UInt8} (h:iX L nm=X):dZ (Y (.dir L)) nm=(5,0):=by unfold dZ;simp only [h]
theorem RC {l:List Nat} {a:Nat} (h:a ∈ l):a<=l.sum:=by
 induction l with
 | nil=>cases h
 | cons b l c=>
  rw [List.sum_cons];rcases List.mem_cons.1 h with rfl|h
  .omega
  .have:=c h;omega
theorem wC {n:Nat} {T:Tr} {d:Nat} {L:List aQ} {e:aQ} (c:d<n) (a:T d=Y (.dir L)) (g:e ∈ L):0<refs n T e.nd:=by
 have h:0<(eX (T d)).countP fun x=>x.nd == e.nd:=by rw [a];exact List.countP_pos_iff.2 ⟨e,g,by simp⟩
 have i:((eX (T d)).countP fun x=>x.nd == e.nd)<=refs n T e.nd:=RC (List.mem_map.2 ⟨d,List.mem_range.2 c,rfl⟩);omega
section
variable {n:Nat} {T:Tr}
theorem Tidy.lt (h:Tidy n T) {id:Nat} {x:tN} (c:T id=Y x):id<n:=by
 rcases Nat.lt_or_ge id n with a|a
 .exact a
 .rw [h.out id a] at c;cases c
theorem Tidy.has (h:Tidy n T) {d:Nat} {L:List aQ} {e:aQ} (c:T d=Y (.dir L)) (g:e ∈ L):∃ x,T e.nd=Y x:=by
 have j:=wC (h.lt c) c g;have a:=h.ref e.nd
 cases i:T e.nd with
 | some x=>exact ⟨x,rfl⟩
 | none=>rw [i] at a;simp only [Cq] at a;omega
theorem Tidy.find (h:Tidy n T) {id:Nat} {x:tN} (g:T id=Y x) {nm:List UInt8} (a:(dZ (T id) nm).1=0):∃ y,T (dZ (T id) nm).2=Y y:=by
 rw [g] at a ⊢
 cases x with
 | file f=>exact absurd a (show ¬ (8:Int)=0 by decide)
 | dir L=>
  cases c:iX L nm with
  | none=>rw [mn c] at a;exact absurd a (by decide)
  | some i=>
   rw [iU c];have d:=vB c;exact h.has g (e:=L.getD i aQ.no) (by rw [D1,L1 d];exact List.getElem_mem d)
theorem Tidy.walk (h:Tidy n T):∀ (ps:List (List UInt8)) {id:Nat} {x:tN},T id=Y x->(aN T id ps).1=0->∃ y,T (aN T id ps).2=Y y
 | [],id,x,d,_=>⟨x,d⟩
 | nm :: ps,id,x,d,a=>by
  by_cases c:(dZ (T id) nm).1=0
  .rw [gX c] at a ⊢
   obtain ⟨y,g⟩:=h.find d c;exact h.walk ps g a
  .rw [qY c] at a;exact absurd a c
theorem EZ {f g:Nat->Nat} {d:Nat} (h:∀ i,i≠d->g i=f i):∀ m,d<m->((K1 m).map g).sum+f d=((K1 m).map f).sum+g d
 | m+1,c=>by
  rw [List.range_succ,List.map_append,List.map_append,List.sum_append,List.sum_append];simp only [List.map_cons,List.map_nil,List.sum_cons,List.sum_nil,Nat.add_zero]
  by_cases e:d=m
  .subst e
   have:(K1 d).map g=(K1 d).map f:=List.map_congr_left fun i a=>h i (by have:=List.mem_range.1 a;omega);rw [this];omega
  .have:=EZ h m (by omega)
   rw [h m (by omega)];omega
theorem rp {d:Nat} (a:d<n) (x:Option tN) (id:Nat):refs n (dp T d x) id+(eX (T d)).countP (fun e=>e.nd == id)=refs n T id+(eX x).countP fun e=>e.nd == id:=by
 have:=EZ (f:=fun j=>(eX (T j)).countP fun e=>e.nd == id) (g:=fun j=>(eX (dp T d x j)).countP fun e=>e.nd == id) (d:=d) (fun i c=>by rw [aJ _ _ c]) n a;simp only [bA] at this;exact this
end
end Go.SL
namespace Go.Proofs.Fs
open Go.RowKit Go.SL Go.Proofs.Ba
attribute [local go_sem] Oper.semAt_some
section
variable {n:Nat} {x:Fx n} {b k id:Nat} {A:Nat->Option AF} {f:AF} {lk:Int} {L:List aQ} {w:Q} {F:ai} {nm:List UInt8}
def Uh (x:Fx n) (b:Nat) (A:Nat->Option AF) (k:Nat) (c:Int) (F:ai) (w:Q) (e:Ending) (a:Q):Prop:=
 e = .returned (.tuple #[S X 0 0,Z .i64 c])/\aj w a/\ag a (dF x b A k*F)
theorem Iu (h:ag w (dF x b A k*F)) (z:A id=Y f) (B:f.kd=1) :
  Calls R 99 #[fJ b n,Z .i64 (id:Int)] w (Uh x b A k 8 F w):=by
 have i:=(((h.alloc (cH b n)).alloc (W #[S X 0 0] 95 (0,0))).alloc (W #[Z .i64 0] 28 (0,0)))
 have t:=(((aj.refl w).alloc (cH b n)).alloc (W #[S X 0 0] 95 (0,0))).alloc (W #[Z .i64 0] 28 (0,0));simp only [World.size_alloc] at i;have K:=ae B;have J:=ae z;clear h B z;unfold fJ;refine (callsIn_wide (n:=9)).1 ?_;refine callsIn_of_wp_marks func99 rfl trivial ?_ rfl;simp only [ntmps99,List.size_toArray,List.length_cons,List.length_nil,Nat.reduceAdd,Nat.reduceSub,Array.replicate_succ,Array.replicate_zero,List.push_toArray,List.append_toArray,N1,List.cons_append];have q:=i.au.cell 0;have r:=i.au.cell 1;simp at q r;refine wpIn_wide.2 ?_
 go_wp2_with fail
 generalize (((w.alloc (cH b n)).alloc (W #[S X 0 0] 95 (0,0))).alloc (W #[Z .i64 0] 28 (0,0)))=w1 at *;generalize w.heap.size+1+1=g at *;generalize w.heap.size+1=d at *;generalize w.heap.size=p at *;have v:=i.to (by ac_rfl:_=dF x b A k*(pt p (cH b n)*(pt d (W #[S X 0 0] 95 (0,0))*(pt g (W #[Z .i64 0] 28 (0,0))*F))));refine (CZ v J.out).mono ?_;rintro e c ⟨y,rfl,C,E,c0,d0,s,u⟩;have o:(ints y.l).size=20:=by rw [dM,Nd.cells C]
 have l:=u.alloc (W #[Z .i64 0,Z .i64 0,Z .i64 0,Z .i64 0,Z .i64 0,Z .i64 0,Z .i64 0,Z .i64 0,Z .i64 0,Z .i64 0,Z .i64 0,Z .i64 0,Z .i64 0,Z .i64 0,Z .i64 0,Z .i64 0,Z .i64 0,Z .i64 0,Z .i64 0,Z .i64 0] 73 (0,0));have P:=ae l.heap;have m:=l.setRow (cs':=ints y.l);have G:=ae (((t.trans s).alloc (W #[Z .i64 0,Z .i64 0,Z .i64 0,Z .i64 0,Z .i64 0,Z .i64 0,Z .i64 0,Z .i64 0,Z .i64 0,Z .i64 0,Z .i64 0,Z .i64 0,Z .i64 0,Z .i64 0,Z .i64 0,Z .i64 0,Z .i64 0,Z .i64 0,Z .i64 0,Z .i64 0] 73 (0,0))).setRow c.heap.size (ints y.l));have O:Hid ((ints y.l).all (·.oneCell')=Z'):=by simp [RowKit.Hid,ints,Value.oneCell']
 have N:Hid ((prog.info? 73).map (·.size)=Y (ints y.l).size):=by show _=_;rw [o];exact bC
 have M:=ae o;have n0:((c.alloc (W #[Z .i64 0,Z .i64 0,Z .i64 0,Z .i64 0,Z .i64 0,Z .i64 0,Z .i64 0,Z .i64 0,Z .i64 0,Z .i64 0,Z .i64 0,Z .i64 0,Z .i64 0,Z .i64 0,Z .i64 0,Z .i64 0,Z .i64 0,Z .i64 0,Z .i64 0,Z .i64 0] 73 (0,0))).setRow c.heap.size (ints y.l)).cell? ⟨c.heap.size,0,X⟩=Y (Z .i64 1):=by rw [<- K.out,<- E];exact m.cell 0
 have a:=m.to (by ac_rfl:_=pt d (W #[S X 0 0] 95 (0,0))*(pt g (W #[Z .i64 0] 28 (0,0))*((dF x b A k*F)*(pt c.heap.size (W (ints y.l) 73 (0,0))*pt p (cH b n)))));have z0:=a.cell 0;have z1:=a.ah.cell 0;have f0:=a.frozen 0;have f1:=a.ah.frozen 0;have b0:¬ (d=g):=ag.ne a;have e0:¬ (g=d):=fun h=>b0 h.symm;have I:=ae ((a.setCell 0 (S X 0 0)).ah.setCell 0 (Z .i64 8));have H:=ae ((G.out.setCell ⟨d,0,X⟩ (S X 0 0)).setCell ⟨g,0,X⟩ (Z .i64 8));simp at z0 z1;clear i v u l m a o C E c0 d0 s t q r
 go_wp2_with (refine wpList_store_row (by exact rfl) 73 (.tmp 6) (.tmp 15) (by exact rfl) c.heap.size (ints y.l) (by exact rfl) (by exact rfl) 73 _ (by with_reducible exact P.out) N.out (by rw [M.out];rfl) O.out ?_)
 have j:=I.out.ah;simp only [List.setIfInBounds_toArray,List.set_cons_zero] at j;refine ⟨_,oW rfl rfl j,rfl,H.out,?_⟩;exact (j.to (by ac_rfl:_=(pt d (W #[S X 0 0] 95 (0,0))*(pt g (W #[Z .i64 8] 28 (0,0))*(pt c.heap.size (W (ints y.l) 73 (0,0))*pt p (cH b n))))*(dF x b A k*F))).right
theorem I2 (h:ag w (dF x b A k*F)) (d:A id=Y f) (g:f.kd=1) :
  Calls R 97 #[fJ b n,Z .i64 (id:Int),V (str nm)] w (YI x b A k 0 8 F w):=by
 refine aH fun q l=>?_;have a:=h.alloc (cH b n);have o:=ae ((aj.refl w).alloc (cH b n));have i:=ae (Iu a.ah d g);have s:(w.alloc (cH b n)).cell? ⟨w.heap.size,0,X⟩=Y (U (Y ⟨b,0,X⟩)):=a.cell 0;clear h a d g;unfold fJ
 go_enter func97,ntmps97
 go_wp2_with fail
 refine i.out.mono ?_;generalize w.alloc (cH b n)=t at *;generalize w.heap.size=p at *;rintro r u ⟨rfl,m,c⟩;have j:=ae (c.to (by ac_rfl:_=pt p (cH b n)*(dF x b A k*F))).right;clear i c
 go_wp2_with fail
 exact l.out _ _ ⟨by simp,o.out.trans m,j.out⟩
end
def _root_.Go.SL.Ab (w:Q) (v:Value) (l:List (List UInt8)):Prop:=
 (∃ x c,v = S x 0 c/\l=[])\/∃ g o c,v = S (Y ⟨g,o,X⟩) l.length c/\l.length<=c/\c<=maxLen/\∀ k,k<l.length->w.cell? ⟨g,o+k,X⟩=Y (V (str (l.getD k [])))
section
variable {n:Nat} {x:Fx n} {b k id:Nat} {T:Tr} {w:Q} {D F:ai} {nm:List UInt8}
theorem yj (j:Tidy n T) {y:tN} (a:T id=Y y) (h:ag w (dF x b (eY T) k*F)) :
  Calls R 97 #[fJ b n,Z .i64 (id:Int),V (str nm)] w (YI x b (eY T) k ((dZ (T id) nm).2:Nat) (dZ (T id) nm).1 F w):=by
 cases y with
 | file f=>rw [a];exact I2 h (lq a) (j.files _ _ a)
 | dir L=>
  have d:=j.pK _ _ a;rw [a]
  cases c:iX L nm with
  | none=>rw [mn c];exact NF h (jw a) d.ok d.len c
  | some i=>
   rw [iU c];have g:=vB c;have:=Jj h (jw a) d.ok d.len c g;rw [show L.getD i aQ.no=L[i] by rw [D1,L1 g];rfl];exact this
def Sv (n:Nat) (T:Tr) (ps:List (List UInt8)) (P:ai) (w0:Q) (u v:Value) (wr:Q):Prop:=
 ∃ (j id:Nat) (y:tN),j<=ps.length/\u = Z .i64 (j:Int)/\v = Z .i64 (id:Int)/\T id=Y y/\aN T 1 ps=aN T id (ps.drop j)/\aj w0 wr/\ag wr P
theorem drop_cons {ps:List (List UInt8)} {j:Nat} (h:j<ps.length):ps.drop j=ps.getD j [] :: ps.drop (j+1):=by
 rw [List.drop_eq_getElem_cons h,D1,L1 h];rfl
theorem F8 (y:Tidy n T) {v:Value} {ps:List (List UInt8)} (hl:ps.length<=1000) (s:∀ d0 s0,ag d0 (D*s0)->Ab d0 v ps) (f0:ag w (dF x b (eY T) k*(D*F))) :
  Calls R 76 #[fJ b n,v] w (YI x b (eY T) k ((aN T 1 ps).2:Nat) (aN T 1 ps).1 (D*F) w):=by
 refine aH fun H0 G=>?_;have r:=(f0.alloc (cH b n)).to (by ac_rfl:_=D*(dF x b (eY T) k*(pt w.heap.size (cH b n)*F)));have dA:=(aj.refl w).alloc (cH b n);obtain ⟨L0,m0⟩:=y.root
 obtain ⟨va,vc,rfl⟩:∃ a c,v = S a ps.length c:=by
  rcases s _ _ r with ⟨a,c,rfl,rfl⟩|⟨e0,q0,c,rfl,-⟩
  .exact ⟨a,c,rfl⟩
  .exact ⟨_,_,rfl⟩
 have E:=ae r;have B:=ae dA;have HD:=ae s;have J:=ae y;have H:=ae m0;obtain ⟨m,t⟩:∃ m,ps.length=m:=⟨_,rfl⟩
 have d:=ae t;have R0:(m:Int)<=1000:=by omega
 rw [t];clear f0 r dA s y m0 t hl;unfold fJ
 go_enter func76,ntmps76
 go_wp2_with fail
 go_loopw [6,13] (fun G0 v wr=>Sv n T ps (D*(dF x b (eY T) k*(pt w.heap.size (cH b n)*F))) w v G0 wr) (fun _ v _=>m-(intOf v).toNat)
 case atStart=>exact ⟨0,1,_,Nat.zero_le _,rfl,rfl,H.out,rfl,B.out,E.out⟩
 case round=>
  obtain ⟨j,id,S0,hj,rfl,rfl,l,i,p,h⟩:=hrel;rw [d.out] at hj;have I:=ae h;have K:=ae i;have N:=ae l;have c0:wr.cell? ⟨w.heap.size,0,X⟩=Y (U (Y ⟨b,0,X⟩)):=h.au.cell 0;have c1:wr.cell? ⟨w.heap.size,1,X⟩=Y (Z .i64 (n:Int)):=h.au.cell 1;clear E B H
  by_cases x0:j<m
  .have N0:(j:Int)<(m:Int):=by omega
   obtain ⟨nm,u⟩:∃ nm,ps.getD j []=nm:=⟨_,rfl⟩
   rcases HD.out _ _ h with ⟨a,c,e,e2⟩|⟨e0,q0,c,e,u0,g0,h0⟩
   .rw [e2] at d;exact absurd x0 (by have:=d.out;simp at this;omega)
   simp only [Value.slice.injEq] at e;obtain ⟨rfl,-,rfl⟩:=e;have K0:wr.cell? ⟨e0,q0+j,X⟩=Y (V (str nm)):=by rw [<- u];exact h0 j (by have:=d.out;omega)
   have k1:(m:Int)<=(vc:Int):=by have:=d.out;omega
   have k2:(vc:Int)<=9223372036854775807:=by unfold maxLen at g0;omega
   have i0:ps.drop j=nm :: ps.drop (j+1):=by rw [<- u];exact drop_cons (by have:=d.out;omega)
   have n0:aN T 1 ps=aN T id (nm :: ps.drop (j+1)):=by rw [<- i0];exact i
   have hf:=yj (nm:=nm) J.out l (h.to (by ac_rfl:_=dF x b (eY T) k*(D*(pt w.heap.size (cH b n)*F))));have p0:=fun g=>(gX (T:=T) (id:=id) (nm:=nm) (ps:=ps.drop (j+1)) g)
   have l0:=fun g=>(qY (T:=T) (id:=id) (nm:=nm) (ps:=ps.drop (j+1)) g)
   have k0:=fun g=>J.out.find l (nm:=nm) g;have q:=ae hf;have b0:=ae p0;have P:=ae l0;have O:=ae k0;have M:=ae n0;have o:=ae p;generalize hq:dZ (T id) nm=F0 at *;obtain ⟨c',D0⟩:=F0;dsimp only at q b0 P O;clear h i l hf p0 l0 k0 h0 u0 g0 i0 n0 u I K N p hq
   go_wp2_with fail
   refine q.out.mono ?_;rintro e w2 ⟨rfl,d2,h2⟩;have C:=ae h2;have z:=ae (o.out.trans d2);clear h2 d2 q o
   by_cases g:c'=0
   .subst g
    obtain ⟨y',o0⟩:=O.out rfl;have Hy:=ae o0;clear o0
    go_wp2_with fail
    go_roundw
    case rel=>exact ⟨j+1,D0,y',by rw [d.out];omega,by go_num,rfl,Hy.out,M.out.trans (b0.out trivial),z.out,C.out.to (by ac_rfl)⟩
    case measure=>simp [intOf];omega
   .go_wp2_with fail
    have e:=M.out.trans (P.out g);refine G.out _ _ ⟨by rw [e];rfl,z.out,?_⟩;exact (C.out.to (by ac_rfl:_=pt w.heap.size (cH b n)*(dF x b (eY T) k*(D*F)))).right
  .obtain rfl:j=m:=by omega
   have e:aN T 1 ps=(0,id):=by rw [i,<- d.out,List.drop_length];rfl
   have r0:=ae e;have o:=ae p;clear h i l e p K N
   go_wp2_with fail
   refine G.out _ _ ⟨by rw [r0.out];rfl,o.out,?_⟩;exact (I.out.to (by ac_rfl:_=pt w.heap.size (cH b n)*(dF x b (eY T) k*(D*F)))).right
end
end Go.Proofs.Fs

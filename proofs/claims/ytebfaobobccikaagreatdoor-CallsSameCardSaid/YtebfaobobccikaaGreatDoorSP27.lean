/- Steps. -/
import Derived.Test.YtebfaobobccikaaGreatDoorSP26
import Derived.Test.YtebfaobobccikaaGreatDoorSP14
set_option linter.all false
set_option maxRecDepth 99999
set_option maxHeartbeats 0
open Go.SL
open Go.Value renaming int->Z,slice->S,pointer->U,string->V
open Go.Obj renaming cells->W
open Go renaming World->Q
open Go.Proofs.Tryz renaming prog->R
open Option renaming some->Y,none->X
open Bool renaming true->Z'
open Go.Proofs.Tryz
open List renaming length_append->A1,getD->D1,length_singleton->E1,length_set->H1,range->K1,getElem?_eq_getElem->L1,nil_append->N1,getElem?_append_left->O1,getElem?_eq_none->R1
open Bool renaming eq_iff_iff->M1
namespace Go.SL
open RowKit
theorem PK {e:aN} (h:e.ok=Z'):bW 32 ((dH e.nd 2++dH e.nm.length 1)++e.nm)=e.enc:=by
 have a:=rN.1 (aN.mG.1 h).2.2;unfold bW aN.enc;rw [List.take_append,List.take_of_length_le (by simp only [A1,bu];omega)];simp only [List.append_assoc];congr 3;unfold zs;rw [List.take_replicate];congr 1;simp only [A1,bu];omega
end Go.SL
namespace Go.Proofs.Fs
open RowKit SL Proofs.Ba
def VD (e:aN) (w0:Q) (F:ai) (v u:Value) (wr:Q):Prop:=
 ∃ k:Nat,k<=1/\u = Z .i64 (k:Int)/\aj w0 wr/\ag wr (bs 5 v (if k=0 then [] else e.enc)*F)
def V2 (l:List UInt8) (F:ai) (w:Q) (e:Ending) (a:Q):Prop:=∃ v,e = .returned (.tuple #[v,Z .i64 0])/\ag a (bs 5 v l*F)/\aj w a
theorem Bv (w:Q) (g:Nat) (j:Nat × Nat) (e:aN) (O:e.ok=Z') (F:ai) (k0:ag w (pt g (W #[Z .i64 (e.nd:Int),V (str e.nm)] 80 j)*F)) :
  Calls R 194 #[S (Y ⟨g,0,X⟩) 1 1] w (V2 (bW 480 e.enc) (pt g (W #[Z .i64 (e.nd:Int),V (str e.nm)] 80 j)*F) w):=by
 refine aH fun W0 HQ=>?_;obtain ⟨o1,o2,o3⟩:=aN.mG.1 O;have S0:=rN.1 o3;have u0:ag w (bs 5 (S X 0 0) []*(pt g (W #[Z .i64 (e.nd:Int),V (str e.nm)] 80 j)*F)):=k0.fq _ _;have e0:=ae u0;have C:=ae O;have q1:(e.nd:Int)<=3839:=by omega
 have q0:(0:Int)<=(e.nd:Int):=by omega
 obtain ⟨m,hm⟩:∃ m,e.nm.length=m:=⟨_,rfl⟩
 have Z0:m<=28:=by omega
 have a1:(m:Int)<=28:=by omega
 have N:=ae hm;have N0:=iL e.nm;rw [hm] at N0;clear k0 u0 O o3 S0 hm
 go_enter func194,ntmps194
 go_wp2_with fail
 go_loopw [4,13] (fun v b0 wr=>VD e w (pt g (W #[Z .i64 (e.nd:Int),V (str e.nm)] 80 j)*F) v b0 wr) (fun _ b0 _=>1-(intOf b0).toNat)
 case atStart=>exact ⟨0,by decide,rfl,aj.refl w,e0.out⟩
 case round=>
  obtain ⟨k,hk,rfl,s0,a⟩:=hrel;clear e0
  by_cases L0:k=0
  .subst L0
   rw [if_pos rfl] at a;have c0:wr.cell? ⟨g,0,X⟩=Y (Z .i64 (e.nd:Int)):=a.ah.cell 0;have c1:wr.cell? ⟨g,1,X⟩=Y (V (str e.nm)):=a.ah.cell 1;have hA:=a.alloc (W #[Z .i64 (e.nd:Int),V (str e.nm)] 80 (0,0));have dA:=ae (s0.alloc (W #[Z .i64 (e.nd:Int),V (str e.nm)] 80 (0,0)));have hr:=xf (wr.alloc (W #[Z .i64 (e.nd:Int),V (str e.nm)] 80 (0,0))) e;rw [C.out] at hr;have Hr:=ae hr;have HA:=ae hA;have R0:=aF a;obtain ⟨q,s,rfl⟩:=R0;clear a hA hr
   go_wp2_with fail
   refine Hr.out.mono ?_;generalize wr.alloc (W #[Z .i64 (e.nd:Int),V (str e.nm)] 80 (0,0))=w1 at *;generalize wr.heap.size=i at *;rintro r w2 ⟨rfl,h2,d2⟩;have I:=h2.ei HA.out;have D3:=ae (dA.out.trans d2);have t0:w2.cell? ⟨i,0,X⟩=Y (Z .i64 (e.nd:Int)):=I.cell 0;have t1:w2.cell? ⟨i,1,X⟩=Y (V (str e.nm)):=I.cell 1;have p:=fD w2 (S X 0 0) [] 2 (e.nd:Int) ⟨rfl,.inl ⟨rfl,rfl⟩⟩ (by decide) (by decide) (by omega) (by omega);rw [N1] at p;have Hp:=ae p;have H3:=ae I;clear p I h2 Hr HA c0 c1 d2 dA
   go_wp2_with fail
   refine Hp.out.mono ?_;rintro r w4 ⟨v4,rfl,h4,d4⟩;have l:=h4.under H3.out;have D5:=ae (D3.out.trans d4);have t0:w4.cell? ⟨i,0,X⟩=Y (Z .i64 (e.nd:Int)):=l.ah.cell 0;have t1:w4.cell? ⟨i,1,X⟩=Y (V (str e.nm)):=l.ah.cell 1;have p:=fD w4 v4 (dH e.nd 2) 1 (m:Int) l.oI (by rw [bu];omega) (by decide) (by omega) (by omega);have f0:=ae p;have H5:=ae l;obtain ⟨T0,V0,rfl⟩:=aF l;clear p h4 l Hp H3 D3 d4
   go_wp2_with fail
   refine f0.out.mono ?_;rintro r w6 ⟨v6,rfl,h6,d6⟩;have o:=h6.under H5.out;obtain ⟨h,K⟩:∃ h,dH (e.nd:Int) 2++dH (m:Int) 1=h:=⟨_,rfl⟩
   have B:h.length=3:=by rw [<- K,A1,bu,bu]
   rw [K] at o;have d0:=ae K;have D7:=D5.out.trans d6;have t0:w6.cell? ⟨i,0,X⟩=Y (Z .i64 (e.nd:Int)):=o.au.cell 0;have t1:w6.cell? ⟨i,1,X⟩=Y (V (str e.nm)):=o.au.cell 1;obtain ⟨i0,hi,hz,r0,n0⟩:=info_parts gY;obtain ⟨v7,M,d,J,d8⟩:=ag.Px (P:=R) (t:=22) (u:=9) (ty:=22) underlying22 underlying9 hi hz r0 n0 o e.nm (by rw [N.out,B];omega);have D8:=ae (D7.trans d8);obtain ⟨d1,e1,rfl⟩:=aF o;have c:=pN M v7 _ J.oI 32 (by decide);have p0:bW 32 (h++e.nm)=e.enc:=by rw [<- d0.out,<- N.out];exact PK C.out
   rw [p0] at c;obtain ⟨x0,D0,rfl⟩:=aF J;have o0:(h++e.nm).length=3+m:=by rw [A1,B,N.out]
   rw [o0] at c d;rw [B] at d;have z:Calls R 170 #[S x0 (3+m) D0,Z .i64 32] M (Au e.enc M):=c
   have m0:ag M (bs 5 (S q 0 s) []*(pt g (W #[Z .i64 (e.nd:Int),V (str e.nm)] 80 j)*F)):=by
    exact (J.to (by ac_rfl:_=(bs 5 (S x0 (h++e.nm).length D0) (h++e.nm)*(bs 5 (S T0 (dH (e.nd:Int) 2).length V0) (dH (e.nd:Int) 2)*pt i (W #[Z .i64 (e.nd:Int),V (str e.nm)] 80 (0,0))))*(bs 5 (S q 0 s) []*(pt g (W #[Z .i64 (e.nd:Int),V (str e.nm)] 80 j)*F)))).right
   have t:=ae z;have g0:=ae d;have H8:=ae m0;rw [B];clear hi hz r0 n0 c z d J m0 o h6 H5 f0 D5 D7 d6 d8 p0 o0 B K
   go_wp2_with (at_builtin;refine qt g0.out _ _ rfl rfl rfl rfl rfl ?_)
   refine t.out.mono ?_;rintro r w9 ⟨v9,rfl,u,E⟩;have y:=aN.dO C.out;have G:=u.under H8.out;obtain ⟨f1,g1,rfl⟩:=aF G;have P:=y;obtain ⟨b1,h1,d,H,h0,X0,Y0,rfl⟩:=iR (l:=[]) (m:=e.enc) (v:=S q 0 s) (G.ah) G.oI (by decide) (by omega);rw [N1] at H;simp only [List.length_nil,Nat.zero_add,P] at d H;have K0:=ae d;have F0:=ae ((D8.out.trans E).trans h0);have l0:=H.iJ;have H0:=ae l0;rw [P];clear g0 d H l0 G u H8 t D8 E h0 y P d0
   go_wp2_with (at_builtin;refine wpList_append_run K0.out _ _ rfl rfl rfl rfl rfl ?_)
   go_roundw
   case rel=>exact ⟨1,Nat.le_refl _,by go_num,F0.out,by rw [if_neg (by decide)];exact H0.out⟩
   case measure=>simp [intOf]
  .obtain rfl:k=1:=by omega
   rw [if_neg (by decide)] at a;have y:=aN.dO C.out;obtain ⟨q,s,rfl⟩:=aF a;have c:=pN wr (S q e.enc.length s) e.enc a.oI 480 (by decide);rw [y] at c ⊢;have z:Calls R 170 #[S q 32 s,Z .i64 480] wr (Au (bW 480 e.enc) wr):=c;have t:=ae z;have HS:=ae a.right;clear c z a y
   go_wp2_with fail
   refine t.out.mono ?_;rintro r w9 ⟨v9,rfl,u,E⟩;have G0:=ae (u.under HS.out);clear u t
   go_wp2_with fail
   exact HQ.out _ _ ⟨v9,by simp,G0.out,s0.trans E⟩
end Go.Proofs.Fs
namespace Go.SL
open RowKit
def eY (lk:Int) (L:List aN):AF:=⟨2,lk,32*L.length,fun p=>(eE L).getD p 0,fun i=>decide (15*i<L.length)⟩
theorem NT:fh 2=eY 1 []:=by
 unfold fh eY;congr 1
abbrev td (L:List aN):Prop:=∀ e ∈ L,e.ok=Z'
theorem AU {L:List aN} {e:aN} (h:td L) (c:e.ok=Z') (i:Nat):td (L.set i e):=fun x d=>by
 rcases List.mem_or_eq_of_mem_set d with a|rfl
 .exact h x a
 .exact c
theorem C5 {L:List aN} {e:aN} (h:td L) (c:e.ok=Z'):td (L++[e]):=fun x d=>by
 rcases List.mem_append.1 d with a|a
 .exact h x a
 .rw [List.mem_singleton.1 a];exact c
theorem Bq {L:List aN} (h:td L) (m:Nat):td (L.take m):=fun x a=>h x (List.mem_of_mem_take a)
theorem jg {lk:Int} {L:List aN} (h:td L) (a:L.length<=3840):Jq (eY lk L) L:=⟨rfl,rfl,h,fun p _=>rfl,a⟩
theorem jq:∀ {L:List aN} (_:td L) (p:Nat),(eE L).getD p 0=((L[p/32]?).map fun e=>e.enc.getD (p%32) 0).getD 0
 | [],_,p=>by simp [eE]
 | e :: L,h,p=>by
  have g:=aN.dO (h e List.mem_cons_self);have d:eE (e :: L)=e.enc++eE L:=rfl;rw [d]
  by_cases l:p<32
  .have a:p/32=0:=by omega
   have c:p%32=p:=by omega
   rw [a,c,List.getElem?_cons_zero,Option.map_some,Option.getD_some,D1,O1 (by omega)];rfl
  .have j:=jq (L:=L) (fun x i=>h x (List.mem_cons_of_mem _ i)) (p-32)
   have a:p/32=(p-32)/32+1:=by omega
   have c:p%32=(p-32)%32:=by omega
   rw [a,c,List.getElem?_cons_succ,<- j,D1,List.getElem?_append_right (by omega),g];rfl
theorem vH {f:AF} {lk:Int} {L:List aN} (g:f.kd=2) (h:f.lk=lk) (j:f.sz=32*L.length) (l:∀ p,f.pR p=(eE L).getD p 0) (m:∀ i,f.pr i=decide (15*i<L.length)):f=eY lk L:=by
 obtain ⟨a,b,c,d,e⟩:=f;dsimp only at g h j l m;subst g h j;unfold eY;congr 1
 .funext p;exact l p
 .funext p;exact m p
theorem xp {lk:Int} {L:List aN} {e:aN} (h:td L) (c:e.ok=Z'):(eY lk L).wr (32*L.length) e.enc=eY lk (L++[e]):=by
 have a:=aN.dO c;refine vH rfl rfl ?_ (fun p=>?_) fun i=>?_
 .show (if e.enc.length=0 then 32*L.length else max (32*L.length) (32*L.length+e.enc.length))=_
  rw [if_neg (by omega),a,A1,E1];omega
 .show (if 32*L.length<=p/\p<32*L.length+e.enc.length then e.enc.getD (p-32*L.length) 0 else (eE L).getD p 0)=_
  rw [jq (C5 h c),jq h,a]
  split
  .rename_i l
   have d:p/32=L.length:=by omega
   have g:p%32=p-32*L.length:=by omega
   rw [d,g];simp
  .rename_i l
   by_cases j:p/32<L.length
   .rw [O1 j]
   .rw [R1 (by omega),R1 (by rw [A1,E1];omega)]
 .show (decide (15*i<L.length) || cK (32*L.length) e.enc.length i)=decide (15*i<(L++[e]).length)
  rw [a,A1,E1,M1,Bool.or_eq_true,cJ,decide_eq_true_iff,decide_eq_true_iff];omega
theorem BU {lk:Int} {L:List aN} {e:aN} (h:td L) (c:e.ok=Z') {i:Nat} (l:i<L.length):(eY lk L).wr (32*i) e.enc=eY lk (L.set i e):=by
 have a:=aN.dO c;refine vH rfl rfl ?_ (fun p=>?_) fun j=>?_
 .show (if e.enc.length=0 then 32*L.length else max (32*L.length) (32*i+e.enc.length))=_
  rw [if_neg (by omega),a,H1];omega
 .show (if 32*i<=p/\p<32*i+e.enc.length then e.enc.getD (p-32*i) 0 else (eE L).getD p 0)=_
  rw [jq (AU h c i),jq h,a]
  split
  .rename_i m
   have d:p/32=i:=by omega
   have g:p%32=p-32*i:=by omega
   rw [d,g,List.getElem?_set_self l];rfl
  .rename_i m
   rw [List.getElem?_set_ne (by omega)]
 .show (decide (15*j<L.length) || cK (32*i) e.enc.length j)=decide (15*j<(L.set i e).length)
  rw [a,H1,M1,Bool.or_eq_true,cJ,decide_eq_true_iff];omega
theorem BD {lk:Int} {L:List aN} (h:td L) {m:Nat} (c:m<=L.length):(eY lk L).cut (32*m)=eY lk (L.take m):=by
 have a:(L.take m).length=m:=by rw [List.length_take];omega
 refine vH rfl rfl ?_ (fun p=>?_) fun j=>?_
 .show 32*m=_;rw [a]
 .show (if p<32*m then (eE L).getD p 0 else 0)=_
  rw [jq (Bq h m),jq h,List.getElem?_take]
  split
  .rw [if_pos (by omega)]
  .rw [if_neg (by omega)];rfl
 .show (decide (15*j<L.length) && decide (480*j<32*m))=decide (15*j<(L.take m).length)
  rw [a,M1,Bool.and_eq_true,decide_eq_true_iff,decide_eq_true_iff,decide_eq_true_iff];omega
theorem nt (f:Nat):∀ m,(K1 m).countP (fun i=>decide (i<f))=min f m
 | 0=>by simp
 | m+1=>by
  rw [List.range_succ,List.countP_append,nt f m];simp only [List.countP_cons,List.countP_nil,Nat.zero_add]
  by_cases h:m<f
  .rw [if_pos (decide_eq_true h)];omega
  .rw [if_neg (by simpa using h)];omega
def aJ (l:Nat):Nat:=1+(l+14)/15+if 240<l then 1 else 0
theorem fQ {lk:Int} {L:List aN} (l:L.length<=3840):bh (eY lk L).pr=aJ L.length:=by
 unfold bh aJ
 have d:jC (eY lk L).pr=(L.length+14)/15:=by
  have:jC (eY lk L).pr=jC fun i=>decide (i<(L.length+14)/15):=qP fun i _=>by
   show decide (15*i<L.length)=_
   rw [M1,decide_eq_true_iff,decide_eq_true_iff];omega
  rw [this];unfold jC;rw [nt];omega
 rw [d];congr 1
 by_cases h:240<L.length
 .rw [if_pos h,if_pos (fI.2 ⟨16,by omega,by omega,decide_eq_true (by omega)⟩)]
 .rw [if_neg h,if_neg]
  intro a;obtain ⟨i,g,j,c⟩:=fI.1 a;have:15*i<L.length:=of_decide_eq_true c;omega
theorem Sh {w:Q} {p:Option Addr} {g n m:Nat} {l:List UInt8} (t:l.length=m) (z:m<=n) (h:Rd w (S p n g) (bW n l)):Rd w (S p m g) l:=by
 obtain ⟨y,q⟩:=h;rcases q with ⟨d,i⟩|⟨a,c,d,i⟩
 .rw [cC] at i
  simp only [Value.slice.injEq] at d;obtain ⟨rfl,rfl,rfl⟩:=d;have v:l.length=0:=by omega
  obtain rfl:m=0:=by omega
  exact ⟨by simp,.inl ⟨rfl,v⟩⟩
 .simp only [Value.slice.injEq] at d
  obtain ⟨rfl,-,rfl⟩:=d;refine ⟨by simp,.inr ⟨a,g,by rw [t],fun j u o=>i j u ?_⟩⟩
  have s:j<l.length:=by
   have:=List.getElem?_eq_some_iff.1 o;obtain ⟨r,_⟩:=this
   rwa [List.length_map] at r
  rw [List.getElem?_map] at o ⊢;rw [<- o];unfold bW;rw [List.getElem?_take,if_pos (by omega),O1 s]
end Go.SL
namespace Go.Proofs.Fs
open RowKit SL Proofs.Ba
section
variable {n:Nat} {x x':Fx n} {b k id:Nat} {A:Nat->Option AF} {f:AF} {lk:Int} {L:List aN} {w:Q} {F:ai}
theorem xb (e:aN) (y:e.ok=Z') (m:Nat) (i0:m<=3840) {r:Nat->Option AF} {s:Nat} {c:Int} (h:ag w (ea x b A k*F))
  (l:∀ (t:Q) (q:Option Addr) (d:Nat) (D G:ai),(∀ g P,ag g (D*P)->Rd g (S q e.enc.length d) e.enc)->e.enc.length<=d->ag t (ea x b A k*(D*G)) ->
   Calls R 52 #[fV b n,Z .i64 (id:Int),Z .i64 ((32*m:Nat):Int),S q e.enc.length d] t (YE x' b r s c (D*G) t)) :
  Calls R 143 #[fV b n,Z .i64 (id:Int),Z .i64 (m:Int),.agg #[Z .i64 (e.nd:Int),V (str e.nm)]] w (YE x' b r s c F w):=by
 refine aH fun f0 HQ=>?_;have z:=aN.dO y;rw [z] at l;have J:((32*m:Nat):Int)=(m:Int)*32:=by omega
 rw [J] at l;have u:=((h.alloc (cP b n)).alloc (W #[Z .i64 (e.nd:Int),V (str e.nm)] 80 (0,0))).alloc (W #[Z .i64 (e.nd:Int),V (str e.nm)] 80 (0,0));have dA:=ae ((((aj.refl w).alloc (cP b n)).alloc (W #[Z .i64 (e.nd:Int),V (str e.nm)] 80 (0,0))).alloc (W #[Z .i64 (e.nd:Int),V (str e.nm)] 80 (0,0)));simp only [World.size_alloc] at u;have b0:=Bv _ _ _ e y _ u;have E:=ae b0;have H:=ae l;have HL:=ae z;have HE:=ae y;clear h l z J b0 u;unfold fV
 go_enter func143,ntmps143
 go_wp2_with fail
 refine E.out.mono ?_;generalize ((w.alloc (cP b n)).alloc (W #[Z .i64 (e.nd:Int),V (str e.nm)] 80 (0,0))).alloc (W #[Z .i64 (e.nd:Int),V (str e.nm)] 80 (0,0))=t at *;generalize w.heap.size+1+1=M at *;generalize w.heap.size+1=K at *;generalize w.heap.size=i at *;rintro e0 B ⟨v,rfl,o,d2⟩;clear E;have s0:B.cell? ⟨i,0,X⟩=Y (U (Y ⟨b,0,X⟩)):=o.aA.cell 0;have s1:B.cell? ⟨i,1,X⟩=Y (Z .i64 (n:Int)):=o.aA.cell 1;have O:∀ g P,ag g (bs 5 v (bW 480 e.enc)*P)->Rd g v (bW 480 e.enc):=fun g P h=>h.oI
 obtain ⟨q,d,rfl⟩:∃ a c,v = S a 480 c:=by
  obtain ⟨a,c,e⟩:=aF o;rw [cC] at e;exact ⟨a,c,e⟩
 have N:480<=d/\(d:Int)<=9223372036854775807:=by
  rcases o.dm with ⟨j,p,_⟩|⟨h0,c,g0,j,p,h5,h6,h7⟩
  .rw [cC] at p;omega
  .simp only [Value.slice.injEq] at j
   obtain ⟨-,-,rfl⟩:=j;rw [cC] at p;unfold maxLen at h5;omega
 obtain ⟨N,l0⟩:=N;have k0:(32:Int)<=(d:Int):=by omega
 have l:=H.out B.drew q d (bs 5 (S q 480 d) (bW 480 e.enc)) (pt M (W #[Z .i64 (e.nd:Int),V (str e.nm)] 80 (0,0))*(pt K (W #[Z .i64 (e.nd:Int),V (str e.nm)] 80 (0,0))*(pt i (cP b n)*F)))
  (fun g P h=>Sh HL.out (by decide) (O g P h)) (by omega) (o.drew.to (by ac_rfl))
 rw [<- (show IntKind.i64.wrap ((m:Int)*32)=(m:Int)*32 by rw [IntKind.wrap_i64];omega)] at l;have I:=ae l;clear l H o O
 go_wp2_with fail
 go_region_held3 (fun w'=>w'.cell? ⟨i,0,X⟩=Y (U (Y ⟨b,0,X⟩))/\w'.cell? ⟨i,1,X⟩=Y (Z .i64 (n:Int)))
  (first|exact ⟨s0,s1⟩|exact d0|go_keep)
  (first|(go_at_call 52;refine I.out.mono ?_;rintro e0 C ⟨rfl,d3,j⟩;have d0:C.cell? ⟨i,0,X⟩=Y (U (Y ⟨b,0,X⟩))/\C.cell? ⟨i,1,X⟩=Y (Z .i64 (n:Int)):=⟨j.aM.cell 0,j.aM.cell 1⟩))
 rename_i c0;clear c0;have p:ag C (ea x' b r s*F):=(j.to (by ac_rfl:_=(bs 5 (S q 480 d) (bW 480 e.enc)*(pt M (W #[Z .i64 (e.nd:Int),V (str e.nm)] 80 (0,0))*(pt K (W #[Z .i64 (e.nd:Int),V (str e.nm)] 80 (0,0))*pt i (cP b n))))*(ea x' b r s*F))).right;have H4:=ae p;clear j p I
 go_wp2_with fail
 exact HQ.out _ _ ⟨rfl,(dA.out.trans d2).drew.trans d3,H4.out⟩
end
end Go.Proofs.Fs
namespace Go.SL
open RowKit
theorem wK {L:List aN} {nm:List UInt8} {i:Nat} (h:gn L nm=Y i):i<L.length:=by
 unfold gn at h;rw [List.findIdx?_eq_some_iff_getElem] at h;exact h.1
theorem tl {L:List aN} {nm:List UInt8} {i:Nat} (h:gn L nm=Y i):wL L nm=(i:Int):=by unfold wL;rw [h]
theorem sS {L:List aN} {nm:List UInt8} (h:gn L nm=X):wL L nm=-1:=by unfold wL;rw [h]
end Go.SL
namespace Go.Proofs.Fs
open RowKit SL Proofs.Ba
section
variable {n:Nat} {x x':Fx n} {b k id:Nat} {A:Nat->Option AF} {f:AF} {lk:Int} {L:List aN} {w:Q} {F:ai} {nm:List UInt8}
theorem KW {e:aN} (a:e.ok=Z') (g:td L) (r:L.length<3840) (m:A id=Y (eY lk L)) (o:aJ (L.length+1)<=k+aJ L.length) (h:ag w (ea x b A k*F)) :
  Calls R 143 #[fV b n,Z .i64 (id:Int),Z .i64 (L.length:Int),.agg #[Z .i64 (e.nd:Int),V (str e.nm)]] w (YE (x.more 5) b (du A id (Y (eY lk (L++[e])))) (k+aJ L.length-aJ (L.length+1)) 0 F w):=by
 have q:=aN.dO a;have d:=fQ (lk:=lk) (L:=L) (by omega);have c:=fQ (lk:=lk) (L:=L++[e]) (by rw [A1,E1];omega);rw [A1,E1] at c;refine xb e a L.length (by omega) h fun t s p D G j l i=>?_;have:=Am m (32*L.length) j l (by omega) (by omega) (by rw [xp g a,d,c];exact o) i;rw [xp g a,d,c,show e.enc.length/480+5=5 by omega] at this;exact this
theorem P8 {e:aN} (a:e.ok=Z') (o:td L) (r:L.length<3840) (l:A id=Y (eY lk L)) (m:k+aJ L.length<aJ (L.length+1)) (h:ag w (ea x b A k*F)) :
  Calls R 143 #[fV b n,Z .i64 (id:Int),Z .i64 (L.length:Int),.agg #[Z .i64 (e.nd:Int),V (str e.nm)]] w (YE x b A k 7 F w):=by
 have q:=aN.dO a;have d:=fQ (lk:=lk) (L:=L) (by omega);have c:=fQ (lk:=lk) (L:=L++[e]) (by rw [A1,E1];omega);rw [A1,E1] at c;refine xb e a L.length (by omega) h fun t s p D G i j g=>?_;exact Mw l (32*L.length) i j (by omega) (by omega) (by rw [xp o a,d,c];exact m) g
theorem N3 {e:aN} (a:e.ok=Z') (j:td L) (s:L.length<=3840) (p:A id=Y (eY lk L)) {i:Nat} (g:i<L.length) (h:ag w (ea x b A k*F)) :
  Calls R 143 #[fV b n,Z .i64 (id:Int),Z .i64 (i:Int),.agg #[Z .i64 (e.nd:Int),V (str e.nm)]] w (YE (x.more 5) b (du A id (Y (eY lk (L.set i e)))) k 0 F w):=by
 have r:=aN.dO a;have d:=fQ (lk:=lk) (L:=L) (by omega);have c:=fQ (lk:=lk) (L:=L.set i e) (by rw [H1];omega);rw [H1] at c;refine xb e a i (by omega) h fun u t q D G m o l=>?_;have:=Am p (32*i) m o (by omega) (by omega) (by rw [BU j a g,d,c];omega) l;rw [BU j a g,d,c,Nat.add_sub_cancel,show e.enc.length/480+5=5 by omega] at this;exact this
theorem OM (h:ag w (ea x b A k*F)) (q:A id=Y (eY lk L)) (v:td L) (o:L.length<=3840) {i:Nat} (s:gn L nm=Y i) (M:i<L.length) :
  Calls R 102 #[fV b n,Z .i64 (id:Int),V (str nm)] w (YI x b A k ((L[i]).nd) 0 F w):=by
 refine aH fun b0 G=>?_;have l:=h.alloc (cP b n);have J:=ae ((aj.refl w).alloc (cP b n));have z:=ae (jk l.ah q (jg v o));have y:=tl s;obtain ⟨m,t⟩:∃ m,L.length=m:=⟨_,rfl⟩
 have c0:(w.alloc (cP b n)).cell? ⟨w.heap.size,0,X⟩=Y (U (Y ⟨b,0,X⟩)):=l.cell 0;have E:=ae y;have p:=ae t;have f0:(m:Int)<=3840:=by omega
 have e0:(i:Int)<(m:Int):=by omega
 have C:=ae o;clear h l q v y t o s;unfold fV
 go_enter func102,ntmps102
 go_wp2_with fail
 refine z.out.mono ?_;generalize w.alloc (cP b n)=w1 at *;generalize w.heap.size=K at *;rintro r w2 ⟨u,rfl,H,j⟩;have c:=eo w2 u L nm _ C.out j;unfold qx at c;rw [E.out] at c;have d:=ae c;obtain ⟨ua,P,rfl⟩:=aF j;rw [p.out] at d ⊢;clear z c j
 go_wp2_with fail
 refine d.out.mono ?_;rintro r w3 ⟨rfl,a,I⟩;rw [<- p.out] at a;obtain ⟨g,d0,e,e1,e2,N,O⟩:=oX a M;simp only [Value.slice.injEq] at e;obtain ⟨rfl,-,rfl⟩:=e;have B:=ae a;clear a d N O
 go_wp2_with fail
 exact G.out _ _ ⟨by simp,(J.out.trans H).trans I,(B.out.to (by ac_rfl:_=(sl 80 2 (S (Y ⟨g,0,X⟩) L.length P) L.length (bC L)*pt K (cP b n))*(ea x b A k*F))).right⟩
theorem Qm (h:ag w (ea x b A k*F)) (l:A id=Y (eY lk L)) (q:td L) (i:L.length<=3840) (o:gn L nm=X) :
  Calls R 102 #[fV b n,Z .i64 (id:Int),V (str nm)] w (YI x b A k 0 5 F w):=by
 refine aH fun N C=>?_;have g:=h.alloc (cP b n);have H:=ae ((aj.refl w).alloc (cP b n));have t:=ae (jk g.ah l (jg q i));have s:=sS o;obtain ⟨m,p⟩:∃ m,L.length=m:=⟨_,rfl⟩
 have O:(w.alloc (cP b n)).cell? ⟨w.heap.size,0,X⟩=Y (U (Y ⟨b,0,X⟩)):=g.cell 0;have B:=ae s;have z:=ae p;have P:(m:Int)<=3840:=by omega
 have y:=ae i;clear h g l q s p i o;unfold fV
 go_enter func102,ntmps102
 go_wp2_with fail
 refine t.out.mono ?_;generalize w.alloc (cP b n)=w1 at *;generalize w.heap.size=I at *;rintro r M ⟨u,rfl,E,d⟩;have a:=eo M u L nm _ y.out d;unfold qx at a;rw [B.out] at a;have c:=ae a;obtain ⟨J,K,rfl⟩:=aF d;rw [z.out] at c ⊢;clear t a d
 go_wp2_with fail
 refine c.out.mono ?_;rintro r w3 ⟨rfl,j,G⟩;have v:=ae j;clear j c
 go_wp2_with fail
 exact C.out _ _ ⟨by simp,(H.out.trans E).trans G,(v.out.to (by ac_rfl:_=(sl 80 2 (S J m K) m (bC L)*pt I (cP b n))*(ea x b A k*F))).right⟩
theorem JK {a:Nat} (M:1<=a) (N:a<=3839) (h:ag w (ea x b A k*F)) (s:A id=Y (eY lk L)) (y:td L) (l:L.length<=3840) (t:cL nm=Z') {i:Nat} (o:gn L nm=Y i) :
  Calls R 103 #[fV b n,Z .i64 (id:Int),V (str nm),Z .i64 (a:Int)] w (YE x b A k 6 F w):=by
 refine aH fun b0 G=>?_;have j:=h.alloc (cP b n);have J:=ae ((aj.refl w).alloc (cP b n));have z:=ae (jk j.ah s (jg y l));obtain ⟨m,v⟩:∃ m,L.length=m:=⟨_,rfl⟩
 have c0:(w.alloc (cP b n)).cell? ⟨w.heap.size,0,X⟩=Y (U (Y ⟨b,0,X⟩)):=j.cell 0;have E:=ae v;have O:=ae (tl o);have e0:(m:Int)<=3840:=by omega
 have d0:(i:Int)<(m:Int):=by have:=wK o;omega
 have C:=ae l;have p:=ae fun w=>rP w nm;rw [t] at p;have g1:¬ ((a:Int)<1):=by omega
 have g2:¬ ((3839:Int)<(a:Int)):=by omega
 clear h j s y v l t o M N;unfold fV
 go_enter func103,ntmps103
 go_wp2_with fail
 refine z.out.mono ?_;generalize w.alloc (cP b n)=w1 at *;generalize w.heap.size=K at *;rintro r w2 ⟨u,rfl,H,g⟩;have c:=eo w2 u L nm _ C.out g;unfold qx at c;rw [O.out] at c;have d:=ae c;obtain ⟨P,uc,rfl⟩:=aF g;rw [E.out] at d ⊢;clear z g c
 go_wp2_with fail
 refine (p.out _).mono ?_;rintro r w3 ⟨rfl,rfl⟩
 go_wp2_with fail
 refine d.out.mono ?_;rintro r w3 ⟨rfl,q,I⟩;have B:=ae q;clear q d
 go_wp2_with fail
 exact G.out _ _ ⟨by simp,(J.out.trans H).trans I,(B.out.to (by ac_rfl:_=(sl 80 2 (S P m uc) m (bC L)*pt K (cP b n))*(ea x b A k*F))).right⟩
theorem Gl {a:Nat} {o:Nat->Option AF} {v:Nat} {c:Int} (d0:1<=a) (e0:a<=3839) (h:ag w (ea x b A k*F)) (C:A id=Y (eY lk L)) (I:td L) (H:L.length<3840) (E:cL nm=Z') (J:gn L nm=X)
  (u:∀ j G,ag j (ea x b A k*G)->Calls R 143 #[fV b n,Z .i64 (id:Int),Z .i64 (L.length:Int),.agg #[Z .i64 (a:Int),V (str nm)]] j (YE x' b o v c G j)) :
  Calls R 103 #[fV b n,Z .i64 (id:Int),V (str nm),Z .i64 (a:Int)] w (YE x' b o v c F w):=by
 refine aH fun h0 HQ=>?_;have s:=h.alloc (cP b n);have dA:=ae ((aj.refl w).alloc (cP b n));have K:=ae (jk s.ah C (jg I (by omega)));obtain ⟨m,t⟩:∃ m,L.length=m:=⟨_,rfl⟩
 have c0:(w.alloc (cP b n)).cell? ⟨w.heap.size,0,X⟩=Y (U (Y ⟨b,0,X⟩)):=s.cell 0;rw [t] at u;have b0:=ae u;have HM:=ae t;have f0:=ae (sS J);have i0:(m:Int)<3840:=by omega
 have P:Hid (L.length<=3840):=Nat.le_of_lt H;have z:=ae fun w=>rP w nm;rw [E] at z;have g1:¬ ((a:Int)<1):=by omega
 have g2:¬ ((3839:Int)<(a:Int)):=by omega
 clear h s C I t H E J d0 e0 u;unfold fV
 go_enter func103,ntmps103
 go_wp2_with fail
 refine K.out.mono ?_;generalize w.alloc (cP b n)=j at *;generalize w.heap.size=d at *;rintro r w2 ⟨g0,rfl,d2,q⟩;have i:=eo w2 g0 L nm _ P.out q;unfold qx at i;rw [f0.out] at i;have p:=ae i;obtain ⟨M,N,rfl⟩:=aF q;rw [HM.out] at p ⊢;clear K q i
 go_wp2_with fail
 refine (z.out _).mono ?_;rintro r l ⟨rfl,rfl⟩
 go_wp2_with fail
 refine p.out.mono ?_;rintro r l ⟨rfl,g,d3⟩;have c0:l.cell? ⟨d,0,X⟩=Y (U (Y ⟨b,0,X⟩)):=g.au.cell 0;have c1:l.cell? ⟨d,1,X⟩=Y (Z .i64 (n:Int)):=g.au.cell 1;have y:=ae g;clear g p
 go_wp2_with fail
 refine (b0.out l _ (y.out.to (by ac_rfl:_=ea x b A k*((sl 80 2 (S M m N) m (bC L)*pt d (cP b n))*F)))).mono ?_;rintro r w4 ⟨rfl,d4,B⟩;have O:=ae (B.to (by ac_rfl:_=(sl 80 2 (S M m N) m (bC L)*pt d (cP b n))*(ea x' b o v*F))).right;clear B y
 go_wp2_with fail
 exact HQ.out _ _ ⟨by simp,((dA.out.trans d2).trans d3).trans d4,O.out⟩
theorem mL {a:Nat} (c:1<=a) (d:a<=3839) (h:ag w (ea x b A k*F)) (g:A id=Y (eY lk L)) (l:td L) (j:L.length<3840) (i:cL nm=Z') (p:gn L nm=X) (o:aJ (L.length+1)<=k+aJ L.length) :
  Calls R 103 #[fV b n,Z .i64 (id:Int),V (str nm),Z .i64 (a:Int)] w (YE (x.more 5) b (du A id (Y (eY lk (L++[⟨a,nm⟩])))) (k+aJ L.length-aJ (L.length+1)) 0 F w):=
 Gl c d h g l j i p fun q G m=>KW (e:=⟨a,nm⟩) (aN.mG.2 ⟨c,d,sV i⟩) l j g o m
theorem Tn {a:Nat} (c:1<=a) (d:a<=3839) (h:ag w (ea x b A k*F)) (g:A id=Y (eY lk L)) (l:td L) (j:L.length<3840) (i:cL nm=Z') (p:gn L nm=X) (o:k+aJ L.length<aJ (L.length+1)) :
  Calls R 103 #[fV b n,Z .i64 (id:Int),V (str nm),Z .i64 (a:Int)] w (YE x b A k 7 F w):=
 Gl c d h g l j i p fun q G m=>P8 (e:=⟨a,nm⟩) (aN.mG.2 ⟨c,d,sV i⟩) l j g o m
end
end Go.Proofs.Fs
namespace Go.SL
open RowKit
def jN (L:List aN) (i:Nat):List aN:=(L.set i (L.getD (L.length-1) aN.no)).take (L.length-1)
theorem gz {L:List aN} {i:Nat}:(jN L i).length=L.length-1:=by
 unfold jN;rw [List.length_take,H1];omega
theorem No {L:List aN}:jN L (L.length-1)=L.take (L.length-1):=by
 unfold jN;rw [List.take_set_of_le (Nat.le_refl _)]
theorem F4 {L:List aN} (h:td L) {i:Nat} (a:i<L.length):(L.getD i aN.no).ok=Z':=by
 rw [D1,L1 a];exact h _ (List.getElem_mem a)
theorem Qb {L:List aN} (h:td L) {i:Nat} (a:i<L.length):td (jN L i):=Bq (AU h (F4 h (by omega)) i) _
end Go.SL
namespace Go.Proofs.Fs
open RowKit SL Proofs.Ba
section
variable {n:Nat} {x:Fx n} {b k id:Nat} {A:Nat->Option AF} {f:AF} {lk:Int} {L:List aN} {w:Q} {F:ai} {nm:List UInt8}
def Fx.fork {n:Nat} (x:Fx n) (j:Nat) (M:gZ x.σ):Fx n:=
 ⟨x.σ,x.c,x.V0,x.I,x.ok,x.KB,x.h4,x.hn,fun a=>aB 176 5 a j x.c.rd M.err M.W M.D*x.R a,fun a c e h p=>by
  obtain ⟨g,i,l,m,d,rfl⟩:=p;exact ⟨g,i,dZ e _ l,x.hR a c e _ m,d,rfl⟩,x.C⟩
def TD (x:Fx n) (b:Nat) (A:Nat->Option AF) (k:Nat) (F:ai) (w:Q) (e:Ending) (a:Q):Prop:=
 ∃ g M,e = .returned (az g)/\aj w a/\ag a (ea (x.fork b M) g A k*F)
theorem yc (h:ag w (ea x b A k*F)):Calls R 142 #[az b] w (TD x b A k F w):=by
 obtain ⟨M,p,i⟩:=ag.mg h;obtain ⟨c,j⟩:=ag.oE i;refine (oG w c b x.c.rd M.err M.W M.D (x.c.RI M.s*(x.R c*F)) (j.to (by unfold cI;ac_rfl)) ⟨_,_,rfl⟩).mono ?_;rintro e q ⟨a,g,o,rfl,l,d⟩;refine ⟨g,M,rfl,d,?_⟩;have m:=(l.to (by ac_rfl:_=x.R c*(aB 176 5 a g x.c.rd M.err M.W M.D*(aB 176 5 a b x.c.rd M.err M.W M.D*(ak a*(x.c.RI M.s*F)))))).fO (x.hR c a o);refine ag.qh (x:=x.fork b M) p ?_;refine ag.aw.2 ⟨a,?_⟩;exact m.to (by show _=(cI x.c a g M*(ak a*(aB 176 5 a b x.c.rd M.err M.W M.D*x.R a)))*F;unfold cI;ac_rfl)
def Sc (x:Fx n) (b:Nat) (A:Nat->Option AF) (k:Nat) (F:ai) (w:Q) (e:Ending) (a:Q):Prop:=
 e = .returned (.tuple #[])/\aj w a/\ag a (ea x b A k*F)
theorem zk {M:gZ x.σ} {g:Nat} (h:ag w (ea (x.fork b M) g A k*F)):Calls R 144 #[az b,az g] w (Sc x b A k F w):=by
 obtain ⟨c,q,i⟩:=ag.mg h;obtain ⟨a,j⟩:=ag.aw.1 i
 have l:ag w (aB 176 5 a b x.c.rd M.err M.W M.D*(aB 176 5 a g x.c.rd c.err c.W c.D*(ak a*(x.c.RI c.s*(x.R a*F))))):=
  j.to (by show (cI x.c a g c*(ak a*(aB 176 5 a b x.c.rd M.err M.W M.D*x.R a)))*F=_;unfold cI;ac_rfl)
 refine (iO w a b g x.c.rd x.c.rd c.err M.err c.W c.D M.W M.D _ l ⟨_,_,rfl⟩).mono ?_;rintro e s ⟨r,p,rfl,m,d⟩;refine ⟨rfl,d,?_⟩;have o:=m.iJ;exact ag.qh (x:=x) q (ag.tV p (o.to (by unfold cI;ac_rfl)))
theorem TZ {m q a:Nat} {p:Nat} {E:aN} (h:ag w (sl 80 2 (S (Y ⟨a,0,X⟩) m p) m (bC L)*F)) (o:L.length=m) (j:q<L.length) (l:L[q]'j=E) :
  w.cell? ⟨a,q*2,X⟩=Y (Z .i64 (E.nd:Int))/\w.cell? ⟨a,q*2+1,X⟩=Y (V (str E.nm)):=by
 obtain ⟨g,c,e,d,i,r,s⟩:=oX (L:=L) (k:=q) (h.to (by rw [o])) j;simp only [Value.slice.injEq,Option.some.injEq,Addr.mk.injEq] at e;obtain ⟨⟨rfl,-⟩,-⟩:=e;rw [l] at d i;exact ⟨d,i⟩
def Qk (x:Fx n) (b:Nat) (A:Nat->Option AF) (k h:Nat) (d F:ai) (w:Q) (u:Value) (c:Q):Prop:=
 ∃ (g:Nat) (M:gZ x.σ) (a:Nat),u=az a/\aj w c/\ag c (pt a (W #[az g,Z .i64 (n:Int)] 72 (0,0))*(ea (x.fork b M) g A k*(d*(pt h (cP b n)*F))))
theorem FA (F0:ag w (ea x b A k*F)) (hf:A id=Y (eY lk L)) (o0:td L) (hl:L.length<=3840) {i:Nat} (hi:gn L nm=Y i) :
    Calls R 82 #[fV b n,Z .i64 (id:Int),V (str nm)] w (YE (x.more 9) b (du A id (Y (eY lk (jN L i)))) (k+aJ L.length-aJ (L.length-1)) 0 F w):=by
  refine aH fun X0 HQ=>?_;have hL:=wK hi;have hA:=F0.alloc (cP b n);have dA:=ae ((aj.refl w).alloc (cP b n));have hr:=ae (jk hA.ah hf (jg o0 hl));have hp:=tl hi;obtain ⟨m,hm⟩:∃ m,L.length=m:=⟨_,rfl⟩
  have c0:(w.alloc (cP b n)).cell? ⟨w.heap.size,0,X⟩=Y (U (Y ⟨b,0,X⟩)):=hA.cell 0;have HP:=ae hp;have h:=ae hm;have HF:=ae hf;have N:=ae o0;have a1:(m:Int)<=3840:=by omega
  have Z0:(i:Int)<(m:Int):=by omega
  have z:=ae hl;clear F0 hA hf o0 hp hm hl hi;unfold fV
  go_enter func82,ntmps82
  go_wp2_with fail
  refine hr.out.mono ?_;generalize w.alloc (cP b n)=w1 at *;generalize w.heap.size=a at *;rintro r w2 ⟨r0,rfl,d2,h2⟩;have d0:=eo w2 r0 L nm _ z.out h2;unfold qx at d0;rw [HP.out] at d0;have l0:=ae d0;obtain ⟨J,p,rfl⟩:=aF h2;rw [h.out] at l0 ⊢;clear hr d0 h2
  go_wp2_with fail
  refine l0.out.mono ?_;rintro r o ⟨rfl,H,d3⟩;have D3:=ae ((dA.out.trans d2).trans d3);have s0:o.cell? ⟨a,0,X⟩=Y (U (Y ⟨b,0,X⟩)):=H.au.cell 0;have s1:o.cell? ⟨a,1,X⟩=Y (Z .i64 (n:Int)):=H.au.cell 1;have O:=H.alloc (W #[U X,Z .i64 0] 72 (0,0));have u0:=ae ((D3.out.alloc (W #[U X,Z .i64 0] 72 (0,0))).drew);have H0:=ae (yc (x:=x) (b:=b) (k:=k) (A:=A) (w:=(o.alloc (W #[U X,Z .i64 0] 72 (0,0))).drew) (F:=pt o.heap.size (W #[U X,Z .i64 0] 72 (0,0))*(sl 80 2 (S J m p) m (bC L)*(pt a (cP b n)*F))) (O.drew.to (by ac_rfl)));have K0:=ae (yc (x:=x) (b:=b) (k:=k) (A:=A) (w:=o.drew) (F:=(sl 80 2 (S J m p) m (bC L)*(pt a (cP b n)*F))) (H.drew.to (by ac_rfl)));have t0:(o.alloc (W #[U X,Z .i64 0] 72 (0,0))).cell? ⟨a,0,X⟩=Y (U (Y ⟨b,0,X⟩)):=O.aA.cell 0;have t1:(o.alloc (W #[U X,Z .i64 0] 72 (0,0))).cell? ⟨a,1,X⟩=Y (Z .i64 (n:Int)):=O.aA.cell 1;clear H O l0 d3 d2 dA
  go_wp2_with fail
  go_cut [11] from 31 to 36 (fun r0 wx=>Qk x b A k a (sl 80 2 (S J m p) m (bC L)) F w r0 wx)
  case first=>
    go_region_held3 (fun y=>y.cell? ⟨a,0,X⟩=Y (U (Y ⟨b,0,X⟩))/\y.cell? ⟨a,1,X⟩=Y (Z .i64 (n:Int)))
      (first|exact ⟨s0,s1⟩|exact ⟨t0,t1⟩|exact v|exact N0|exact W0|go_keep)
      (first | (go_at_call 142; refine H0.out.mono ?_; rintro r c ⟨g, M, rfl, B, d⟩; have v : c.cell? ⟨a, 0, X⟩ = Y (U (Y ⟨b, 0, X⟩)) /\ c.cell? ⟨a, 1, X⟩ = Y (Z .i64 (n : Int)) := ⟨d.aA.cell 0, d.aA.cell 1⟩; have z0 : c.cell? ⟨o.heap.size, 0, X⟩ = Y (U X) := d.ah.cell 0; have z1 : c.cell? ⟨o.heap.size, 1, X⟩ = Y (Z .i64 0) := d.ah.cell 1; have f0 := d.ah.frozen 0; have f1 := d.ah.frozen 1;
                have j:=((d.ah.setCell 0 (az g)).setCell 1 (Z .i64 (n:Int)));have N0:((c.setCell ⟨o.heap.size,0,X⟩ (az g)).setCell ⟨o.heap.size,1,X⟩ (Z .i64 (n:Int))).cell? ⟨a,0,X⟩=Y (U (Y ⟨b,0,X⟩))/\((c.setCell ⟨o.heap.size,0,X⟩ (az g)).setCell ⟨o.heap.size,1,X⟩ (Z .i64 (n:Int))).cell? ⟨a,1,X⟩=Y (Z .i64 (n:Int)):=⟨j.aA.cell 0,j.aA.cell 1⟩)
             | (go_at_call 142;refine K0.out.mono ?_;rintro r c ⟨g,M,rfl,B,d⟩;have v:c.cell? ⟨a,0,X⟩=Y (U (Y ⟨b,0,X⟩))/\c.cell? ⟨a,1,X⟩=Y (Z .i64 (n:Int)):=⟨d.au.cell 0,d.au.cell 1⟩;have m0:=d.alloc (W #[U X,Z .i64 0] 72 (0,0));have N0:(c.alloc (W #[U X,Z .i64 0] 72 (0,0))).cell? ⟨a,0,X⟩=Y (U (Y ⟨b,0,X⟩))/\(c.alloc (W #[U X,Z .i64 0] 72 (0,0))).cell? ⟨a,1,X⟩=Y (Z .i64 (n:Int)):=⟨m0.aA.cell 0,m0.aA.cell 1⟩;
                have j:=((m0.setCell 0 (az g)).setCell 1 (Z .i64 (n:Int)));have W0:(((c.alloc (W #[U X,Z .i64 0] 72 (0,0))).setCell ⟨c.heap.size,0,X⟩ (az g)).setCell ⟨c.heap.size,1,X⟩ (Z .i64 (n:Int))).cell? ⟨a,0,X⟩=Y (U (Y ⟨b,0,X⟩))/\(((c.alloc (W #[U X,Z .i64 0] 72 (0,0))).setCell ⟨c.heap.size,0,X⟩ (az g)).setCell ⟨c.heap.size,1,X⟩ (Z .i64 (n:Int))).cell? ⟨a,1,X⟩=Y (Z .i64 (n:Int)):=⟨j.aA.cell 0,j.aA.cell 1⟩))
    all_goals go_wp2_with fail
    all_goals go_meet
    all_goals first
      | exact ⟨g,M,c.heap.size,rfl,((D3.out.drew.trans B).alloc (W #[az g,Z .i64 (n:Int)] 72 (0,0))),(d.alloc (W #[az g,Z .i64 (n:Int)] 72 (0,0))).to (by ac_rfl)⟩
      | exact ⟨g,M,o.heap.size,rfl,((u0.out.trans B).setCell _ _).setCell _ _,j.to (by show pt _ (W #[az g,Z .i64 (n:Int)] 72 (0,0))*_=_;ac_rfl)⟩
  case rest=>
    obtain ⟨g,M,l,rfl,g0,t⟩:=hcut;clear H0 K0 D3 u0 s0 s1 t0 t1 c0;have q0:wc.cell? ⟨l,0,X⟩=Y (az g):=t.cell 0;have q1:wc.cell? ⟨l,1,X⟩=Y (Z .i64 (n:Int)):=t.cell 1;rw [show (m:Int)-1=((m-1:Nat):Int) by omega];obtain ⟨q,hq⟩:∃ q,m-1=q:=⟨_,rfl⟩
    have x0:Hid (L.length-1=q):=by show _=_;rw [h.out,hq]
    have d1:(q:Int)<(m:Int):=by omega
    have e0:q+1=m:=by omega
    rw [hq]
    by_cases b1:(i:Int)<(q:Int)
    · have c1:i<q:=by omega
      have b0:=F4 N.out (i:=q) (by have:=h.out;omega);obtain ⟨u,Y0,e,e1,e2,k1,k2⟩:=oX (L:=L) (k:=q) ((t.au).to (by rw [h.out])) (by have:=h.out;omega);simp only [Value.slice.injEq] at e;obtain ⟨rfl,-,rfl⟩:=e;have g1:(m:Int)<=(p:Int):=by have:=h.out;omega
      have h1:(p:Int)<=9223372036854775807:=by omega
      obtain ⟨E,P⟩:∃ E,L.getD q aN.no=E:=⟨_,rfl⟩
      have G0:L[q]'(by have:=h.out;omega)=E:=by rw [<- P,D1,L1 (by have:=h.out;omega)];rfl
      rw [G0] at e1 e2;rw [P] at b0;have L0:=N3 (x:=x.fork b M) (b:=g) (k:=k) (id:=id) (A:=A) (w:=wc.drew) (e:=E) (F:=sl 80 2 (S (Y ⟨u,0,X⟩) m p) m (bC L)*(pt a (cP b n)*(pt l (W #[az g,Z .i64 (n:Int)] 72 (0,0))*F))) b0 N.out z.out HF.out hL (t.drew.to (by ac_rfl));have D0:=ae L0;have HS:=ae g0;have T0:=ae t;have HE:=ae P;have R0:=ae b0;have S0:=ae e0;clear L0 g0 t P b0 G0 k1 k2 hq e0
      go_wp2_with fail
      go_region_held3 (fun y=>y.cell? ⟨l,0,X⟩=Y (az g)/\y.cell? ⟨l,1,X⟩=Y (Z .i64 (n:Int))/\y.cell? ⟨u,q*2,X⟩=Y (Z .i64 (E.nd:Int))/\y.cell? ⟨u,q*2+1,X⟩=Y (V (str E.nm)))
        (first|exact ⟨q0,q1,e1,e2⟩|exact v|go_keep)
        (first|(go_at_call 143;refine D0.out.mono ?_;rintro r c ⟨rfl,B,d⟩;have v:c.cell? ⟨l,0,X⟩=Y (az g)/\c.cell? ⟨l,1,X⟩=Y (Z .i64 (n:Int))/\c.cell? ⟨u,q*2,X⟩=Y (Z .i64 (E.nd:Int))/\c.cell? ⟨u,q*2+1,X⟩=Y (V (str E.nm)):=⟨d.aA.cell 0,d.aA.cell 1,TZ d.ah h.out (by have:=h.out;omega) (by rw [<- HE.out,D1,L1 (by have:=h.out;omega)];rfl)⟩))
      rename_i V0;clear V0;have D4:=ae (HS.out.drew.trans B);have q0:c.cell? ⟨l,0,X⟩=Y (az g):=v.1;have q1:c.cell? ⟨l,1,X⟩=Y (Z .i64 (n:Int)):=v.2.1;have d:=d.to (by ac_rfl:_=ea ((x.fork b M).more 5) g (du A id (Y (eY lk (L.set i E)))) k*(pt l (W #[az g,Z .i64 (n:Int)] 72 (0,0))*(pt a (cP b n)*(sl 80 2 (S (Y ⟨u,0,X⟩) m p) m (bC L)*F))));have n0:(L.set i E).length=L.length:=H1;have h0:Hid (q<=(L.set i E).length):=by show q<=(L.set i E).length;rw [n0,h.out];omega
      have i0:Hid ((L.set i E).length<=3840):=by show (L.set i E).length<=3840;rw [n0];exact z.out
      have k0:Hid ((jN L i).length<=3840):=by show (jN L i).length<=3840;rw [gz];have:=z.out;omega
      have p0:(L.set i E).take q=jN L i:=by unfold jN;rw [x0.out,HE.out]
      clear v B T0 D0;have s:=ae (Ag (x:=(x.fork b M).more 5) (b:=g) (k:=k) (id:=id) (A:=(du A id (Y (eY lk (L.set i E))))) (w:=c) d (if_pos rfl) (32*q) (by omega));rw [BD (AU N.out R0.out i) h0.out,p0,fQ i0.out,fQ k0.out,gz,n0,h.out,To] at s;rw [show ((32*q:Nat):Int)=(q:Int)*32 by omega] at s
      go_wp2_with fail
      refine s.out.mono ?_;rintro r K ⟨rfl,C,j⟩;clear s;have v0:K.cell? ⟨l,0,X⟩=Y (az g):=j.ah.cell 0;have v1:K.cell? ⟨a,0,X⟩=Y (U (Y ⟨b,0,X⟩)):=j.au.cell 0;have J0:=ae (zk (x:=x.more 9) (M:=M) j);have D5:=ae (D4.out.trans C);clear C
      go_wp2_with fail
      refine J0.out.mono ?_;rintro r w6 ⟨rfl,G,I⟩;have H6:=ae ((I.to (by ac_rfl:_=(pt l (W #[az g,Z .i64 (n:Int)] 72 (0,0))*(pt a (cP b n)*(sl 80 2 (S (Y ⟨u,0,X⟩) m p) m (bC L))))*(ea (x.more 9) b (du A id (Y (eY lk (jN L i)))) (k+aJ m-aJ (m-1))*F))).right);have D6:=ae (D5.out.trans G);clear j I J0 G v0 v1
      go_wp2_with fail
      exact HQ.out _ _ ⟨by simp,D6.out,by have:=H6.out;rw [<- h.out] at this;exact this⟩
    · obtain rfl:i=q:=by omega
      have d:=t.to (by ac_rfl:_=ea (x.fork b M) g A k*(pt l (W #[az g,Z .i64 (n:Int)] 72 (0,0))*(pt a (cP b n)*(sl 80 2 (S J m p) m (bC L)*F))));have h0:Hid (i<=L.length):=by show i<=L.length;rw [h.out];omega
      have i0:Hid (L.length<=3840):=z.out;have k0:Hid ((jN L i).length<=3840):=by show (jN L i).length<=3840;rw [gz];have:=z.out;omega
      have p0:L.take i=jN L i:=by rw [<- x0.out,No]
      have D4:=ae g0;have S0:=ae e0;clear t g0 hq e0
      go_wp2_with fail
      have s:=ae (Ag (x:=x.fork b M) (b:=g) (k:=k) (id:=id) (A:=A) (w:=wc) d HF.out (32*i) (by omega));rw [BD N.out h0.out,p0,fQ i0.out,fQ k0.out,gz,h.out] at s;rw [show ((32*i:Nat):Int)=(i:Int)*32 by omega] at s
      go_wp2_with fail
      refine s.out.mono ?_;rintro r K ⟨rfl,C,j⟩;clear s;have v0:K.cell? ⟨l,0,X⟩=Y (az g):=j.ah.cell 0;have v1:K.cell? ⟨a,0,X⟩=Y (U (Y ⟨b,0,X⟩)):=j.au.cell 0;have J0:=ae (zk (x:=x.more 4) (M:=M) j);have D5:=ae (D4.out.trans C);clear C
      go_wp2_with fail
      refine J0.out.mono ?_;rintro r w6 ⟨rfl,G,I⟩;have H6:=ae ((I.to (by ac_rfl:_=(pt l (W #[az g,Z .i64 (n:Int)] 72 (0,0))*(pt a (cP b n)*(sl 80 2 (S J m p) m (bC L))))*(ea (x.more 4) b (du A id (Y (eY lk (jN L i)))) (k+aJ m-aJ (m-1))*F))).right |> ag.tZ 5);have D6:=ae (D5.out.trans G);clear j I J0 G v0 v1
      go_wp2_with fail
      exact HQ.out _ _ ⟨by simp,D6.out,by have:=H6.out;rw [<- h.out] at this;exact this⟩
end
end Go.Proofs.Fs
namespace Go.SL
open RowKit
inductive tX where
 | file (f:AF)
 | dir (L:List aN)
def tX.af:tX->AF
 | .file f=>f
 | .dir L=>eY 1 L
abbrev Tr:=Nat->Option tX
def ft (T:Tr):Nat->Option AF:=fun id=>(T id).map tX.af
theorem qG (T:Tr) (id:Nat) (x:tX):du (ft T) id (Y x.af)=ft (du T id (Y x)):=by
 funext b;unfold ft du;split <;> rfl
theorem Me (T:Tr) (id:Nat):du (ft T) id X=ft (du T id X):=by
 funext b;unfold ft du;split <;> rfl
theorem jD {T:Tr} {id:Nat} {f:AF} (h:T id=Y (.file f)):ft T id=Y f:=by unfold ft;rw [h];rfl
theorem lh {T:Tr} {id:Nat} {L:List aN} (h:T id=Y (.dir L)):ft T id=Y (eY 1 L):=by unfold ft;rw [h];rfl
def eU:Tr:=fun id=>if id=1 then Y (.dir []) else X
structure nz (L:List aN):Prop where
 ok:td L
 len:L.length<=3840
 nd:(L.map aN.nm).Nodup
 nm:∀ e ∈ L,cL e.nm=true
def dM:Option tX->List aN
 | some (.dir L)=>L
 | _=>[]
def bE (ps:List (List UInt8)):List UInt8:=ps.getD (ps.length-1) []
def refs (n:Nat) (T:Tr) (id:Nat):Nat:=((K1 n).map fun d=>(dM (T d)).countP fun e=>e.nd == id).sum
def DB (id:Nat):Option tX->Int
 | some (.file f)=>f.lk
 | some (.dir _)=>if id=1 then 0 else 1
 | none=>0
structure Tidy (n:Nat) (T:Tr):Prop where
 root:∃ L,T 1=some (.dir L)
 ow:∀ id L,T id=some (.dir L)->nz L
 files:∀ id f,T id=some (.file f)->f.kd=1
 ref:∀ id,(refs n T id:Int)=DB id (T id)
 out:∀ id,n<=id->T id=none
def dS (x:Option tX) (nm:List UInt8):Int × Nat:=match x with
 | some (.dir L)=>(match gn L nm with|some i=>(0,(L.getD i aN.no).nd)|none=>(5,0))
 | some (.file _)=>(8,0)
 | none=>(4,0)
def aQ (T:Tr):Nat->List (List UInt8)->Int × Nat
 | id,[]=>(0,id)
 | id,nm :: ps=>if (dS (T id) nm).1=0 then aQ T (dS (T id) nm).2 ps else ((dS (T id) nm).1,0)
theorem JB (T:Tr) (id:Nat):aQ T id []=(0,id):=rfl
theorem iz {T:Tr} {id:Nat} {nm:List UInt8} {ps:List (List UInt8)} (h:(dS (T id) nm).1=0):aQ T id (nm :: ps)=aQ T (dS (T id) nm).2 ps:=if_pos h
theorem kK {T:Tr} {id:Nat} {nm:List UInt8} {ps:List (List UInt8)} (h:¬ (dS (T id) nm).1=0):aQ T id (nm :: ps)=((dS (T id) nm).1,0):=if_neg h
theorem js {L:List aN} {nm:List UInt8} {i:Nat} (h:gn L nm=Y i):dS (Y (.dir L)) nm=(0,(L.getD i aN.no).nd):=by unfold dS;simp only [h]
theorem ij {L:List aN} {nm:List UInt8} (h:gn L nm=X):dS (Y (.dir L)) nm=(5,0):=by unfold dS;simp only [h]
theorem TA {l:List Nat} {a:Nat} (h:a ∈ l):a<=l.sum:=by
 induction l with
 | nil=>cases h
 | cons b l c=>
  rw [List.sum_cons];rcases List.mem_cons.1 h with rfl|h
  .omega
  .have:=c h;omega
theorem vt {n:Nat} {T:Tr} {d:Nat} {L:List aN} {e:aN} (c:d<n) (a:T d=Y (.dir L)) (g:e ∈ L):0<refs n T e.nd:=by
 have h:0<(dM (T d)).countP fun x=>x.nd == e.nd:=by rw [a];exact List.countP_pos_iff.2 ⟨e,g,by simp⟩
 have i:((dM (T d)).countP fun x=>x.nd == e.nd)<=refs n T e.nd:=TA (List.mem_map.2 ⟨d,List.mem_range.2 c,rfl⟩);omega
section
variable {n:Nat} {T:Tr}
theorem Tidy.lt (h:Tidy n T) {id:Nat} {x:tX} (c:T id=Y x):id<n:=by
 rcases Nat.lt_or_ge id n with a|a
 .exact a
 .rw [h.out id a] at c;cases c
theorem Tidy.has (h:Tidy n T) {d:Nat} {L:List aN} {e:aN} (c:T d=Y (.dir L)) (g:e ∈ L):∃ x,T e.nd=Y x:=by
 have j:=vt (h.lt c) c g;have a:=h.ref e.nd
 cases i:T e.nd with
 | some x=>exact ⟨x,rfl⟩
 | none=>rw [i] at a;simp only [DB] at a;omega
theorem Tidy.find (h:Tidy n T) {id:Nat} {x:tX} (g:T id=Y x) {nm:List UInt8} (a:(dS (T id) nm).1=0):∃ y,T (dS (T id) nm).2=Y y:=by
 rw [g] at a ⊢
 cases x with
 | file f=>exact absurd a (show ¬ (8:Int)=0 by decide)
 | dir L=>
  cases c:gn L nm with
  | none=>rw [ij c] at a;exact absurd a (by decide)
  | some i=>
   rw [js c];have d:=wK c;exact h.has g (e:=L.getD i aN.no) (by rw [D1,L1 d];exact List.getElem_mem d)
theorem Tidy.walk (h:Tidy n T):∀ (ps:List (List UInt8)) {id:Nat} {x:tX},T id=Y x->(aQ T id ps).1=0->∃ y,T (aQ T id ps).2=Y y
 | [],id,x,d,_=>⟨x,d⟩
 | nm :: ps,id,x,d,a=>by
  by_cases c:(dS (T id) nm).1=0
  .rw [iz c] at a ⊢
   obtain ⟨y,g⟩:=h.find d c;exact h.walk ps g a
  .rw [kK c] at a;exact absurd a c
theorem Gm {f g:Nat->Nat} {d:Nat} (h:∀ i,i≠d->g i=f i):∀ m,d<m->((K1 m).map g).sum+f d=((K1 m).map f).sum+g d
 | m+1,c=>by
  rw [List.range_succ,List.map_append,List.map_append,List.sum_append,List.sum_append];simp only [List.map_cons,List.map_nil,List.sum_cons,List.sum_nil,Nat.add_zero]
  by_cases e:d=m
  .subst e
   have:(K1 d).map g=(K1 d).map f:=List.map_congr_left fun i a=>h i (by have:=List.mem_range.1 a;omega);rw [this];omega
  .have:=Gm h m (by omega)
   rw [h m (by omega)];omega
theorem rk {d:Nat} (a:d<n) (x:Option tX) (id:Nat):refs n (du T d x) id+(dM (T d)).countP (fun e=>e.nd == id)=refs n T id+(dM x).countP fun e=>e.nd == id:=by
 have:=Gm (f:=fun j=>(dM (T j)).countP fun e=>e.nd == id) (g:=fun j=>(dM (du T d x j)).countP fun e=>e.nd == id) (d:=d) (fun i c=>by rw [aE _ _ c]) n a;simp only [aW] at this;exact this
end
end Go.SL
namespace Go.Proofs.Fs
open RowKit SL Proofs.Ba
attribute [local go_sem] Oper.semAt_some
section
variable {n:Nat} {x:Fx n} {b k id:Nat} {A:Nat->Option AF} {f:AF} {lk:Int} {L:List aN} {w:Q} {F:ai} {nm:List UInt8}
def Wz (x:Fx n) (b:Nat) (A:Nat->Option AF) (k:Nat) (c:Int) (F:ai) (w:Q) (e:Ending) (a:Q):Prop:=
 e = .returned (.tuple #[S X 0 0,Z .i64 c])/\aj w a/\ag a (ea x b A k*F)
theorem Jt (h:ag w (ea x b A k*F)) (z:A id=Y f) (B:f.kd=1) :
  Calls R 91 #[fV b n,Z .i64 (id:Int)] w (Wz x b A k 8 F w):=by
 have i:=(((h.alloc (cP b n)).alloc (W #[S X 0 0] 76 (0,0))).alloc (W #[Z .i64 0] 28 (0,0)))
 have t:=(((aj.refl w).alloc (cP b n)).alloc (W #[S X 0 0] 76 (0,0))).alloc (W #[Z .i64 0] 28 (0,0));simp only [World.size_alloc] at i;have K:=ae B;have J:=ae z;clear h B z;unfold fV;refine (callsIn_wide (n:=9)).1 ?_;refine callsIn_of_wp_marks func91 rfl trivial ?_ rfl;simp only [ntmps91,List.size_toArray,List.length_cons,List.length_nil,Nat.reduceAdd,Nat.reduceSub,Array.replicate_succ,Array.replicate_zero,List.push_toArray,List.append_toArray,N1,List.cons_append];have q:=i.au.cell 0;have r:=i.au.cell 1;simp at q r;refine wpIn_wide.2 ?_
 go_wp2_with fail
 generalize (((w.alloc (cP b n)).alloc (W #[S X 0 0] 76 (0,0))).alloc (W #[Z .i64 0] 28 (0,0)))=w1 at *;generalize w.heap.size+1+1=g at *;generalize w.heap.size+1=d at *;generalize w.heap.size=p at *;have v:=i.to (by ac_rfl:_=ea x b A k*(pt p (cP b n)*(pt d (W #[S X 0 0] 76 (0,0))*(pt g (W #[Z .i64 0] 28 (0,0))*F))));refine (E7 v J.out).mono ?_;rintro e c ⟨y,rfl,C,E,c0,d0,s,u⟩;have o:(ints y.l).size=20:=by rw [er,Nd.cells C]
 have l:=u.alloc (W #[Z .i64 0,Z .i64 0,Z .i64 0,Z .i64 0,Z .i64 0,Z .i64 0,Z .i64 0,Z .i64 0,Z .i64 0,Z .i64 0,Z .i64 0,Z .i64 0,Z .i64 0,Z .i64 0,Z .i64 0,Z .i64 0,Z .i64 0,Z .i64 0,Z .i64 0,Z .i64 0] 65 (0,0));have P:=ae l.heap;have m:=l.setRow (cs':=ints y.l);have G:=ae (((t.trans s).alloc (W #[Z .i64 0,Z .i64 0,Z .i64 0,Z .i64 0,Z .i64 0,Z .i64 0,Z .i64 0,Z .i64 0,Z .i64 0,Z .i64 0,Z .i64 0,Z .i64 0,Z .i64 0,Z .i64 0,Z .i64 0,Z .i64 0,Z .i64 0,Z .i64 0,Z .i64 0,Z .i64 0] 65 (0,0))).setRow c.heap.size (ints y.l));have O:Hid ((ints y.l).all (·.oneCell')=Z'):=by simp [RowKit.Hid,ints,Value.oneCell']
 have N:Hid ((prog.info? 65).map (·.size)=Y (ints y.l).size):=by show _=_;rw [o];exact bF
 have M:=ae o;have n0:((c.alloc (W #[Z .i64 0,Z .i64 0,Z .i64 0,Z .i64 0,Z .i64 0,Z .i64 0,Z .i64 0,Z .i64 0,Z .i64 0,Z .i64 0,Z .i64 0,Z .i64 0,Z .i64 0,Z .i64 0,Z .i64 0,Z .i64 0,Z .i64 0,Z .i64 0,Z .i64 0,Z .i64 0] 65 (0,0))).setRow c.heap.size (ints y.l)).cell? ⟨c.heap.size,0,X⟩=Y (Z .i64 1):=by rw [<- K.out,<- E];exact m.cell 0
 have a:=m.to (by ac_rfl:_=pt d (W #[S X 0 0] 76 (0,0))*(pt g (W #[Z .i64 0] 28 (0,0))*((ea x b A k*F)*(pt c.heap.size (W (ints y.l) 65 (0,0))*pt p (cP b n)))));have z0:=a.cell 0;have z1:=a.ah.cell 0;have f0:=a.frozen 0;have f1:=a.ah.frozen 0;have b0:¬ (d=g):=ag.ne a;have e0:¬ (g=d):=fun h=>b0 h.symm;have I:=ae ((a.setCell 0 (S X 0 0)).ah.setCell 0 (Z .i64 8));have H:=ae ((G.out.setCell ⟨d,0,X⟩ (S X 0 0)).setCell ⟨g,0,X⟩ (Z .i64 8));simp at z0 z1;clear i v u l m a o C E c0 d0 s t q r
 go_wp2_with (refine wpList_store_row (by exact rfl) 65 (.tmp 6) (.tmp 15) (by exact rfl) c.heap.size (ints y.l) (by exact rfl) (by exact rfl) 65 _ (by with_reducible exact P.out) N.out (by rw [M.out];rfl) O.out ?_)
 have j:=I.out.ah;simp only [List.setIfInBounds_toArray,List.set_cons_zero] at j;refine ⟨_,p9 rfl rfl j,rfl,H.out,?_⟩;exact (j.to (by ac_rfl:_=(pt d (W #[S X 0 0] 76 (0,0))*(pt g (W #[Z .i64 8] 28 (0,0))*(pt c.heap.size (W (ints y.l) 65 (0,0))*pt p (cP b n))))*(ea x b A k*F))).right
theorem Ix (h:ag w (ea x b A k*F)) (d:A id=Y f) (g:f.kd=1) :
  Calls R 102 #[fV b n,Z .i64 (id:Int),V (str nm)] w (YI x b A k 0 8 F w):=by
 refine aH fun q l=>?_;have a:=h.alloc (cP b n);have o:=ae ((aj.refl w).alloc (cP b n));have i:=ae (Jt a.ah d g);have s:(w.alloc (cP b n)).cell? ⟨w.heap.size,0,X⟩=Y (U (Y ⟨b,0,X⟩)):=a.cell 0;clear h a d g;unfold fV
 go_enter func102,ntmps102
 go_wp2_with fail
 refine i.out.mono ?_;generalize w.alloc (cP b n)=t at *;generalize w.heap.size=p at *;rintro r u ⟨rfl,m,c⟩;have j:=ae (c.to (by ac_rfl:_=pt p (cP b n)*(ea x b A k*F))).right;clear i c
 go_wp2_with fail
 exact l.out _ _ ⟨by simp,o.out.trans m,j.out⟩
end
def _root_.Go.SL.BP (w:Q) (v:Value) (l:List (List UInt8)):Prop:=
 (∃ x c,v = S x 0 c/\l=[])\/∃ g o c,v = S (Y ⟨g,o,X⟩) l.length c/\l.length<=c/\c<=maxLen/\∀ k,k<l.length->w.cell? ⟨g,o+k,X⟩=Y (V (str (l.getD k [])))
section
variable {n:Nat} {x:Fx n} {b k id:Nat} {T:Tr} {w:Q} {D F:ai} {nm:List UInt8}
theorem zi (j:Tidy n T) {y:tX} (a:T id=Y y) (h:ag w (ea x b (ft T) k*F)) :
  Calls R 102 #[fV b n,Z .i64 (id:Int),V (str nm)] w (YI x b (ft T) k ((dS (T id) nm).2:Nat) (dS (T id) nm).1 F w):=by
 cases y with
 | file f=>rw [a];exact Ix h (jD a) (j.files _ _ a)
 | dir L=>
  have d:=j.ow _ _ a;rw [a]
  cases c:gn L nm with
  | none=>rw [ij c];exact Qm h (lh a) d.ok d.len c
  | some i=>
   rw [js c];have g:=wK c;have:=OM h (lh a) d.ok d.len c g;rw [show L.getD i aN.no=L[i] by rw [D1,L1 g];rfl];exact this
def U6 (n:Nat) (T:Tr) (ps:List (List UInt8)) (P:ai) (w0:Q) (u v:Value) (wr:Q):Prop:=
 ∃ (j id:Nat) (y:tX),j<=ps.length/\u = Z .i64 (j:Int)/\v = Z .i64 (id:Int)/\T id=Y y/\aQ T 1 ps=aQ T id (ps.drop j)/\aj w0 wr/\ag wr P
theorem drop_cons {ps:List (List UInt8)} {j:Nat} (h:j<ps.length):ps.drop j=ps.getD j [] :: ps.drop (j+1):=by
 rw [List.drop_eq_getElem_cons h,D1,L1 h];rfl
theorem JS (y:Tidy n T) {v:Value} {ps:List (List UInt8)} (hl:ps.length<=1000) (s:∀ d0 s0,ag d0 (D*s0)->BP d0 v ps) (f0:ag w (ea x b (ft T) k*(D*F))) :
  Calls R 80 #[fV b n,v] w (YI x b (ft T) k ((aQ T 1 ps).2:Nat) (aQ T 1 ps).1 (D*F) w):=by
 refine aH fun H0 G=>?_;have r:=(f0.alloc (cP b n)).to (by ac_rfl:_=D*(ea x b (ft T) k*(pt w.heap.size (cP b n)*F)));have dA:=(aj.refl w).alloc (cP b n);obtain ⟨L0,m0⟩:=y.root
 obtain ⟨va,vc,rfl⟩:∃ a c,v = S a ps.length c:=by
  rcases s _ _ r with ⟨a,c,rfl,rfl⟩|⟨e0,q0,c,rfl,-⟩
  .exact ⟨a,c,rfl⟩
  .exact ⟨_,_,rfl⟩
 have E:=ae r;have B:=ae dA;have HD:=ae s;have J:=ae y;have H:=ae m0;obtain ⟨m,t⟩:∃ m,ps.length=m:=⟨_,rfl⟩
 have d:=ae t;have R0:(m:Int)<=1000:=by omega
 rw [t];clear f0 r dA s y m0 t hl;unfold fV
 go_enter func80,ntmps80
 go_wp2_with fail
 go_loopw [6,13] (fun G0 v wr=>U6 n T ps (D*(ea x b (ft T) k*(pt w.heap.size (cP b n)*F))) w v G0 wr) (fun _ v _=>m-(intOf v).toNat)
 case atStart=>exact ⟨0,1,_,Nat.zero_le _,rfl,rfl,H.out,rfl,B.out,E.out⟩
 case round=>
  obtain ⟨j,id,S0,hj,rfl,rfl,l,i,p,h⟩:=hrel;rw [d.out] at hj;have I:=ae h;have K:=ae i;have N:=ae l;have c0:wr.cell? ⟨w.heap.size,0,X⟩=Y (U (Y ⟨b,0,X⟩)):=h.au.cell 0;have c1:wr.cell? ⟨w.heap.size,1,X⟩=Y (Z .i64 (n:Int)):=h.au.cell 1;clear E B H
  by_cases x0:j<m
  .have N0:(j:Int)<(m:Int):=by omega
   obtain ⟨nm,u⟩:∃ nm,ps.getD j []=nm:=⟨_,rfl⟩
   rcases HD.out _ _ h with ⟨a,c,e,e2⟩|⟨e0,q0,c,e,u0,g0,h0⟩
   .rw [e2] at d;exact absurd x0 (by have:=d.out;simp at this;omega)
   simp only [Value.slice.injEq] at e;obtain ⟨rfl,-,rfl⟩:=e;have K0:wr.cell? ⟨e0,q0+j,X⟩=Y (V (str nm)):=by rw [<- u];exact h0 j (by have:=d.out;omega)
   have k1:(m:Int)<=(vc:Int):=by have:=d.out;omega
   have k2:(vc:Int)<=9223372036854775807:=by unfold maxLen at g0;omega
   have i0:ps.drop j=nm :: ps.drop (j+1):=by rw [<- u];exact drop_cons (by have:=d.out;omega)
   have n0:aQ T 1 ps=aQ T id (nm :: ps.drop (j+1)):=by rw [<- i0];exact i
   have hf:=zi (nm:=nm) J.out l (h.to (by ac_rfl:_=ea x b (ft T) k*(D*(pt w.heap.size (cP b n)*F))));have p0:=fun g=>(iz (T:=T) (id:=id) (nm:=nm) (ps:=ps.drop (j+1)) g)
   have l0:=fun g=>(kK (T:=T) (id:=id) (nm:=nm) (ps:=ps.drop (j+1)) g)
   have k0:=fun g=>J.out.find l (nm:=nm) g;have q:=ae hf;have b0:=ae p0;have P:=ae l0;have O:=ae k0;have M:=ae n0;have o:=ae p;generalize hq:dS (T id) nm=F0 at *;obtain ⟨c',D0⟩:=F0;dsimp only at q b0 P O;clear h i l hf p0 l0 k0 h0 u0 g0 i0 n0 u I K N p hq
   go_wp2_with fail
   refine q.out.mono ?_;rintro e w2 ⟨rfl,d2,h2⟩;have C:=ae h2;have z:=ae (o.out.trans d2);clear h2 d2 q o
   by_cases g:c'=0
   .subst g
    obtain ⟨y',o0⟩:=O.out rfl;have Hy:=ae o0;clear o0
    go_wp2_with fail
    go_roundw
    case rel=>exact ⟨j+1,D0,y',by rw [d.out];omega,by go_num,rfl,Hy.out,M.out.trans (b0.out trivial),z.out,C.out.to (by ac_rfl)⟩
    case measure=>simp [intOf];omega
   .go_wp2_with fail
    have e:=M.out.trans (P.out g);refine G.out _ _ ⟨by rw [e];rfl,z.out,?_⟩;exact (C.out.to (by ac_rfl:_=pt w.heap.size (cP b n)*(ea x b (ft T) k*(D*F)))).right
  .obtain rfl:j=m:=by omega
   have e:aQ T 1 ps=(0,id):=by rw [i,<- d.out,List.drop_length];rfl
   have r0:=ae e;have o:=ae p;clear h i l e p K N
   go_wp2_with fail
   refine G.out _ _ ⟨by rw [r0.out];rfl,o.out,?_⟩;exact (I.out.to (by ac_rfl:_=pt w.heap.size (cP b n)*(ea x b (ft T) k*(D*F)))).right
end
end Go.Proofs.Fs

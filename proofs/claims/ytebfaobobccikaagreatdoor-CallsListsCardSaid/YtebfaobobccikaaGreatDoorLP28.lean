/- Steps. -/
import Derived.Test.YtebfaobobccikaaGreatDoorLP26
import Derived.Test.YtebfaobobccikaaGreatDoorLP14
set_option linter.all false
set_option maxRecDepth 99999
set_option maxHeartbeats 0
open Go.SL
open Go.Value renaming int->Z,slice->S,pointer->U,string->V
open Go.Obj renaming cells->W
open Go renaming World->Q
open Go.Proofs.Tryz renaming prog->R
open Option renaming some->Y,none->X
open Bool renaming true->Z'
open Go.Proofs.Tryz
open List renaming length_append->A1,getD->B1,length_singleton->D1,length_set->E1,getElem?_eq_getElem->H1,range->K1,getElem_map->N1,nil_append->O1,getElem?_append_left->R1,getElem?_eq_none->S1,findIdx?_eq_some_iff_getElem->T1,findIdx?_eq_none_iff->U1
open Nat renaming le_refl->L1
open Bool renaming eq_iff_iff->M1
namespace Go.SL
open RowKit
theorem OB {e:aH} (h:e.ok=Z'):bW 32 ((dx e.nd 2++dx e.nm.length 1)++e.nm)=e.enc:=by
 have a:=pU.1 (aH.mw.1 h).2.2;unfold bW aH.enc;rw [List.take_append,List.take_of_length_le (by simp only [A1,bp];omega)];simp only [List.append_assoc];congr 3;unfold zs;rw [List.take_replicate];congr 1;simp only [A1,bp];omega
end Go.SL
namespace Go.Proofs.Fs
open RowKit SL Proofs.Ba
def TX (e:aH) (w0:Q) (F:ai) (v u:Value) (wr:Q):Prop:=
 ∃ k:Nat,k<=1/\u = Z .i64 (k:Int)/\aj w0 wr/\ag wr (bs 5 v (if k=0 then [] else e.enc)*F)
def UA (l:List UInt8) (F:ai) (w:Q) (e:Ending) (a:Q):Prop:=∃ v,e = .returned (.tuple #[v,Z .i64 0])/\ag a (bs 5 v l*F)/\aj w a
theorem AZ (w:Q) (g:Nat) (j:Nat × Nat) (e:aH) (O:e.ok=Z') (F:ai) (j0:ag w (pt g (W #[Z .i64 (e.nd:Int),V (str e.nm)] 80 j)*F)) :
  Calls R 194 #[S (Y ⟨g,0,X⟩) 1 1] w (UA (bW 480 e.enc) (pt g (W #[Z .i64 (e.nd:Int),V (str e.nm)] 80 j)*F) w):=by
 refine aJ fun V0 HQ=>?_;obtain ⟨o1,o2,o3⟩:=aH.mw.1 O;have R0:=pU.1 o3;have s0:ag w (bs 5 (S X 0 0) []*(pt g (W #[Z .i64 (e.nd:Int),V (str e.nm)] 80 j)*F)):=j0.eQ _ _;have e0:=ae s0;have C:=ae O;have q1:(e.nd:Int)<=3839:=by omega
 have q0:(0:Int)<=(e.nd:Int):=by omega
 obtain ⟨m,hm⟩:∃ m,e.nm.length=m:=⟨_,rfl⟩
 have Y0:m<=28:=by omega
 have Z0:(m:Int)<=28:=by omega
 have N:=ae hm;have L0:=iG e.nm;rw [hm] at L0;clear j0 s0 O o3 R0 hm
 go_enter func194,ntmps194
 go_wp2_with fail
 go_loopw [4,13] (fun v b0 wr=>TX e w (pt g (W #[Z .i64 (e.nd:Int),V (str e.nm)] 80 j)*F) v b0 wr) (fun _ b0 _=>1-(intOf b0).toNat)
 case atStart=>exact ⟨0,by decide,rfl,aj.refl w,e0.out⟩
 case round=>
  obtain ⟨k,hk,rfl,r0,a⟩:=hrel;clear e0
  by_cases K0:k=0
  .subst K0
   rw [if_pos rfl] at a;have c0:wr.cell? ⟨g,0,X⟩=Y (Z .i64 (e.nd:Int)):=a.ah.cell 0;have c1:wr.cell? ⟨g,1,X⟩=Y (V (str e.nm)):=a.ah.cell 1;have hA:=a.alloc (W #[Z .i64 (e.nd:Int),V (str e.nm)] 80 (0,0));have dA:=ae (r0.alloc (W #[Z .i64 (e.nd:Int),V (str e.nm)] 80 (0,0)));have hr:=vh (wr.alloc (W #[Z .i64 (e.nd:Int),V (str e.nm)] 80 (0,0))) e;rw [C.out] at hr;have Hr:=ae hr;have HA:=ae hA;have N0:=aE a;obtain ⟨q,s,rfl⟩:=N0;clear a hA hr
   go_wp2_with fail
   refine Hr.out.mono ?_;generalize wr.alloc (W #[Z .i64 (e.nd:Int),V (str e.nm)] 80 (0,0))=w1 at *;generalize wr.heap.size=i at *;rintro r w2 ⟨rfl,h2,d2⟩;have I:=h2.du HA.out;have D3:=ae (dA.out.trans d2);have t0:w2.cell? ⟨i,0,X⟩=Y (Z .i64 (e.nd:Int)):=I.cell 0;have t1:w2.cell? ⟨i,1,X⟩=Y (V (str e.nm)):=I.cell 1;have p:=eZ w2 (S X 0 0) [] 2 (e.nd:Int) ⟨rfl,.inl ⟨rfl,rfl⟩⟩ (by decide) (by decide) (by omega) (by omega);rw [O1] at p;have Hp:=ae p;have H3:=ae I;clear p I h2 Hr HA c0 c1 d2 dA
   go_wp2_with fail
   refine Hp.out.mono ?_;rintro r w4 ⟨v4,rfl,h4,d4⟩;have l:=h4.under H3.out;have D5:=ae (D3.out.trans d4);have t0:w4.cell? ⟨i,0,X⟩=Y (Z .i64 (e.nd:Int)):=l.ah.cell 0;have t1:w4.cell? ⟨i,1,X⟩=Y (V (str e.nm)):=l.ah.cell 1;have p:=eZ w4 v4 (dx e.nd 2) 1 (m:Int) l.oD (by rw [bp];omega) (by decide) (by omega) (by omega);have f0:=ae p;have H5:=ae l;obtain ⟨S0,T0,rfl⟩:=aE l;clear p h4 l Hp H3 D3 d4
   go_wp2_with fail
   refine f0.out.mono ?_;rintro r w6 ⟨v6,rfl,h6,d6⟩;have o:=h6.under H5.out;obtain ⟨h,K⟩:∃ h,dx (e.nd:Int) 2++dx (m:Int) 1=h:=⟨_,rfl⟩
   have B:h.length=3:=by rw [<- K,A1,bp,bp]
   rw [K] at o;have d0:=ae K;have D7:=D5.out.trans d6;have t0:w6.cell? ⟨i,0,X⟩=Y (Z .i64 (e.nd:Int)):=o.aw.cell 0;have t1:w6.cell? ⟨i,1,X⟩=Y (V (str e.nm)):=o.aw.cell 1;obtain ⟨i0,hi,hz,p0,m0⟩:=info_parts gM;obtain ⟨v7,M,d,J,d8⟩:=ag.OP (P:=R) (t:=22) (u:=9) (ty:=22) underlying22 underlying9 hi hz p0 m0 o e.nm (by rw [N.out,B];omega);have D8:=ae (D7.trans d8);obtain ⟨b1,d1,rfl⟩:=aE o;have c:=om M v7 _ J.oD 32 (by decide);have o0:bW 32 (h++e.nm)=e.enc:=by rw [<- d0.out,<- N.out];exact OB C.out
   rw [o0] at c;obtain ⟨u0,x0,rfl⟩:=aE J;have n0:(h++e.nm).length=3+m:=by rw [A1,B,N.out]
   rw [n0] at c d;rw [B] at d;have z:Calls R 170 #[S u0 (3+m) x0,Z .i64 32] M (zx e.enc M):=c
   have l0:ag M (bs 5 (S q 0 s) []*(pt g (W #[Z .i64 (e.nd:Int),V (str e.nm)] 80 j)*F)):=by
    exact (J.to (by ac_rfl:_=(bs 5 (S u0 (h++e.nm).length x0) (h++e.nm)*(bs 5 (S S0 (dx (e.nd:Int) 2).length T0) (dx (e.nd:Int) 2)*pt i (W #[Z .i64 (e.nd:Int),V (str e.nm)] 80 (0,0))))*(bs 5 (S q 0 s) []*(pt g (W #[Z .i64 (e.nd:Int),V (str e.nm)] 80 j)*F)))).right
   have t:=ae z;have g0:=ae d;have H8:=ae l0;rw [B];clear hi hz p0 m0 c z d J l0 o h6 H5 f0 D5 D7 d6 d8 o0 n0 B K
   go_wp2_with (at_builtin;refine pA g0.out _ _ rfl rfl rfl rfl rfl ?_)
   refine t.out.mono ?_;rintro r w9 ⟨v9,rfl,u,E⟩;have y:=aH.dF C.out;have G:=u.under H8.out;obtain ⟨e1,f1,rfl⟩:=aE G;have P:=y;obtain ⟨a1,g1,d,H,h0,W0,X0,rfl⟩:=iw (l:=[]) (m:=e.enc) (v:=S q 0 s) (G.ah) G.oD (by decide) (by omega);rw [O1] at H;simp only [List.length_nil,Nat.zero_add,P] at d H;have H0:=ae d;have D0:=ae ((D8.out.trans E).trans h0);have k0:=H.iC;have G0:=ae k0;rw [P];clear g0 d H k0 G u H8 t D8 E h0 y P d0
   go_wp2_with (at_builtin;refine wpList_append_run H0.out _ _ rfl rfl rfl rfl rfl ?_)
   go_roundw
   case rel=>exact ⟨1,L1 _,by go_num,D0.out,by rw [if_neg (by decide)];exact G0.out⟩
   case measure=>simp [intOf]
  .obtain rfl:k=1:=by omega
   rw [if_neg (by decide)] at a;have y:=aH.dF C.out;obtain ⟨q,s,rfl⟩:=aE a;have c:=om wr (S q e.enc.length s) e.enc a.oD 480 (by decide);rw [y] at c ⊢;have z:Calls R 170 #[S q 32 s,Z .i64 480] wr (zx (bW 480 e.enc) wr):=c;have t:=ae z;have HS:=ae a.right;clear c z a y
   go_wp2_with fail
   refine t.out.mono ?_;rintro r w9 ⟨v9,rfl,u,E⟩;have F0:=ae (u.under HS.out);clear u t
   go_wp2_with fail
   exact HQ.out _ _ ⟨v9,by simp,F0.out,r0.trans E⟩
end Go.Proofs.Fs
namespace Go.SL
open RowKit
def eK (lk:Int) (L:List aH):AF:=⟨2,lk,32*L.length,fun p=>(dV L).getD p 0,fun i=>decide (15*i<L.length)⟩
theorem No:jx 2=eK 1 []:=by
 unfold jx eK;congr 1
abbrev sH (L:List aH):Prop:=∀ e ∈ L,e.ok=Z'
theorem zd {L:List aH} {e:aH} (h:sH L) (c:e.ok=Z') (i:Nat):sH (L.set i e):=fun x d=>by
 rcases List.mem_or_eq_of_mem_set d with a|rfl
 .exact h x a
 .exact c
theorem z8 {L:List aH} {e:aH} (h:sH L) (c:e.ok=Z'):sH (L++[e]):=fun x d=>by
 rcases List.mem_append.1 d with a|a
 .exact h x a
 .rw [List.mem_singleton.1 a];exact c
theorem BV {L:List aH} (h:sH L) (m:Nat):sH (L.take m):=fun x a=>h x (List.mem_of_mem_take a)
theorem iY {lk:Int} {L:List aH} (h:sH L) (a:L.length<=3840):IW (eK lk L) L:=⟨rfl,rfl,h,fun p _=>rfl,a⟩
theorem iS:∀ {L:List aH} (_:sH L) (p:Nat),(dV L).getD p 0=((L[p/32]?).map fun e=>e.enc.getD (p%32) 0).getD 0
 | [],_,p=>by simp [dV]
 | e :: L,h,p=>by
  have g:=aH.dF (h e List.mem_cons_self);have d:dV (e :: L)=e.enc++dV L:=rfl;rw [d]
  by_cases l:p<32
  .have a:p/32=0:=by omega
   have c:p%32=p:=by omega
   rw [a,c,List.getElem?_cons_zero,Option.map_some,Option.getD_some,B1,R1 (by omega)];rfl
  .have j:=iS (L:=L) (fun x i=>h x (List.mem_cons_of_mem _ i)) (p-32)
   have a:p/32=(p-32)/32+1:=by omega
   have c:p%32=(p-32)%32:=by omega
   rw [a,c,List.getElem?_cons_succ,<- j,B1,List.getElem?_append_right (by omega),g];rfl
theorem vM {f:AF} {lk:Int} {L:List aH} (g:f.kd=2) (h:f.lk=lk) (j:f.sz=32*L.length) (l:∀ p,f.tK p=(dV L).getD p 0) (m:∀ i,f.pr i=decide (15*i<L.length)):f=eK lk L:=by
 obtain ⟨a,b,c,d,e⟩:=f;dsimp only at g h j l m;subst g h j;unfold eK;congr 1
 .funext p;exact l p
 .funext p;exact m p
theorem uT {lk:Int} {L:List aH} {e:aH} (h:sH L) (c:e.ok=Z'):(eK lk L).wr (32*L.length) e.enc=eK lk (L++[e]):=by
 have a:=aH.dF c;refine vM rfl rfl ?_ (fun p=>?_) fun i=>?_
 .show (if e.enc.length=0 then 32*L.length else max (32*L.length) (32*L.length+e.enc.length))=_
  rw [if_neg (by omega),a,A1,D1];omega
 .show (if 32*L.length<=p/\p<32*L.length+e.enc.length then e.enc.getD (p-32*L.length) 0 else (dV L).getD p 0)=_
  rw [iS (z8 h c),iS h,a]
  split
  .rename_i l
   have d:p/32=L.length:=by omega
   have g:p%32=p-32*L.length:=by omega
   rw [d,g];simp
  .rename_i l
   by_cases j:p/32<L.length
   .rw [R1 j]
   .rw [S1 (by omega),S1 (by rw [A1,D1];omega)]
 .show (decide (15*i<L.length) || cS (32*L.length) e.enc.length i)=decide (15*i<(L++[e]).length)
  rw [a,A1,D1,M1,Bool.or_eq_true,cI,decide_eq_true_iff,decide_eq_true_iff];omega
theorem Br {lk:Int} {L:List aH} {e:aH} (h:sH L) (c:e.ok=Z') {i:Nat} (l:i<L.length):(eK lk L).wr (32*i) e.enc=eK lk (L.set i e):=by
 have a:=aH.dF c;refine vM rfl rfl ?_ (fun p=>?_) fun j=>?_
 .show (if e.enc.length=0 then 32*L.length else max (32*L.length) (32*i+e.enc.length))=_
  rw [if_neg (by omega),a,E1];omega
 .show (if 32*i<=p/\p<32*i+e.enc.length then e.enc.getD (p-32*i) 0 else (dV L).getD p 0)=_
  rw [iS (zd h c i),iS h,a]
  split
  .rename_i m
   have d:p/32=i:=by omega
   have g:p%32=p-32*i:=by omega
   rw [d,g,List.getElem?_set_self l];rfl
  .rename_i m
   rw [List.getElem?_set_ne (by omega)]
 .show (decide (15*j<L.length) || cS (32*i) e.enc.length j)=decide (15*j<(L.set i e).length)
  rw [a,E1,M1,Bool.or_eq_true,cI,decide_eq_true_iff];omega
theorem A0 {lk:Int} {L:List aH} (h:sH L) {m:Nat} (c:m<=L.length):(eK lk L).cut (32*m)=eK lk (L.take m):=by
 have a:(L.take m).length=m:=by rw [List.length_take];omega
 refine vM rfl rfl ?_ (fun p=>?_) fun j=>?_
 .show 32*m=_;rw [a]
 .show (if p<32*m then (dV L).getD p 0 else 0)=_
  rw [iS (BV h m),iS h,List.getElem?_take]
  split
  .rw [if_pos (by omega)]
  .rw [if_neg (by omega)];rfl
 .show (decide (15*j<L.length) && decide (480*j<32*m))=decide (15*j<(L.take m).length)
  rw [a,M1,Bool.and_eq_true,decide_eq_true_iff,decide_eq_true_iff,decide_eq_true_iff];omega
theorem my (f:Nat):∀ m,(K1 m).countP (fun i=>decide (i<f))=min f m
 | 0=>by simp
 | m+1=>by
  rw [List.range_succ,List.countP_append,my f m];simp only [List.countP_cons,List.countP_nil,Nat.zero_add]
  by_cases h:m<f
  .rw [if_pos (decide_eq_true h)];omega
  .rw [if_neg (by simpa using h)];omega
def aY (l:Nat):Nat:=1+(l+14)/15+if 240<l then 1 else 0
theorem fE {lk:Int} {L:List aH} (l:L.length<=3840):bK (eK lk L).pr=aY L.length:=by
 unfold bK aY
 have d:j3 (eK lk L).pr=(L.length+14)/15:=by
  have:j3 (eK lk L).pr=j3 fun i=>decide (i<(L.length+14)/15):=pF fun i _=>by
   show decide (15*i<L.length)=_
   rw [M1,decide_eq_true_iff,decide_eq_true_iff];omega
  rw [this];unfold j3;rw [my];omega
 rw [d];congr 1
 by_cases h:240<L.length
 .rw [if_pos h,if_pos (gG.2 ⟨16,by omega,by omega,decide_eq_true (by omega)⟩)]
 .rw [if_neg h,if_neg]
  intro a;obtain ⟨i,g,j,c⟩:=gG.1 a;have:15*i<L.length:=of_decide_eq_true c;omega
theorem QN {w:Q} {p:Option Addr} {g n m:Nat} {l:List UInt8} (t:l.length=m) (z:m<=n) (h:Rd w (S p n g) (bW n l)):Rd w (S p m g) l:=by
 obtain ⟨y,q⟩:=h;rcases q with ⟨d,i⟩|⟨a,c,d,i⟩
 .rw [cm] at i
  simp only [Value.slice.injEq] at d;obtain ⟨rfl,rfl,rfl⟩:=d;have v:l.length=0:=by omega
  obtain rfl:m=0:=by omega
  exact ⟨by simp,.inl ⟨rfl,v⟩⟩
 .simp only [Value.slice.injEq] at d
  obtain ⟨rfl,-,rfl⟩:=d;refine ⟨by simp,.inr ⟨a,g,by rw [t],fun j u o=>i j u ?_⟩⟩
  have s:j<l.length:=by
   have:=List.getElem?_eq_some_iff.1 o;obtain ⟨r,_⟩:=this
   rwa [List.length_map] at r
  rw [List.getElem?_map] at o ⊢;rw [<- o];unfold bW;rw [List.getElem?_take,if_pos (by omega),R1 s]
end Go.SL
namespace Go.Proofs.Fs
open RowKit SL Proofs.Ba
section
variable {n:Nat} {x x':Fx n} {b k id:Nat} {A:Nat->Option AF} {f:AF} {lk:Int} {L:List aH} {w:Q} {F:ai}
theorem wi (e:aH) (y:e.ok=Z') (m:Nat) (i0:m<=3840) {r:Nat->Option AF} {s:Nat} {c:Int} (h:ag w (dS x b A k*F))
  (l:∀ (t:Q) (q:Option Addr) (d:Nat) (D G:ai),(∀ g P,ag g (D*P)->Rd g (S q e.enc.length d) e.enc)->e.enc.length<=d->ag t (dS x b A k*(D*G)) ->
   Calls R 52 #[fS b n,Z .i64 (id:Int),Z .i64 ((32*m:Nat):Int),S q e.enc.length d] t (YE x' b r s c (D*G) t)) :
  Calls R 143 #[fS b n,Z .i64 (id:Int),Z .i64 (m:Int),.agg #[Z .i64 (e.nd:Int),V (str e.nm)]] w (YE x' b r s c F w):=by
 refine aJ fun f0 HQ=>?_;have z:=aH.dF y;rw [z] at l;have J:((32*m:Nat):Int)=(m:Int)*32:=by omega
 rw [J] at l;have u:=((h.alloc (cQ b n)).alloc (W #[Z .i64 (e.nd:Int),V (str e.nm)] 80 (0,0))).alloc (W #[Z .i64 (e.nd:Int),V (str e.nm)] 80 (0,0));have dA:=ae ((((aj.refl w).alloc (cQ b n)).alloc (W #[Z .i64 (e.nd:Int),V (str e.nm)] 80 (0,0))).alloc (W #[Z .i64 (e.nd:Int),V (str e.nm)] 80 (0,0)));simp only [World.size_alloc] at u;have b0:=AZ _ _ _ e y _ u;have E:=ae b0;have H:=ae l;have HL:=ae z;have HE:=ae y;clear h l z J b0 u;unfold fS
 go_enter func143,ntmps143
 go_wp2_with fail
 refine E.out.mono ?_;generalize ((w.alloc (cQ b n)).alloc (W #[Z .i64 (e.nd:Int),V (str e.nm)] 80 (0,0))).alloc (W #[Z .i64 (e.nd:Int),V (str e.nm)] 80 (0,0))=t at *;generalize w.heap.size+1+1=M at *;generalize w.heap.size+1=K at *;generalize w.heap.size=i at *;rintro e0 B ⟨v,rfl,o,d2⟩;clear E;have s0:B.cell? ⟨i,0,X⟩=Y (U (Y ⟨b,0,X⟩)):=o.aD.cell 0;have s1:B.cell? ⟨i,1,X⟩=Y (Z .i64 (n:Int)):=o.aD.cell 1;have O:∀ g P,ag g (bs 5 v (bW 480 e.enc)*P)->Rd g v (bW 480 e.enc):=fun g P h=>h.oD
 obtain ⟨q,d,rfl⟩:∃ a c,v = S a 480 c:=by
  obtain ⟨a,c,e⟩:=aE o;rw [cm] at e;exact ⟨a,c,e⟩
 have N:480<=d/\(d:Int)<=9223372036854775807:=by
  rcases o.cW with ⟨j,p,_⟩|⟨h0,c,g0,j,p,h5,h6,h7⟩
  .rw [cm] at p;omega
  .simp only [Value.slice.injEq] at j
   obtain ⟨-,-,rfl⟩:=j;rw [cm] at p;unfold maxLen at h5;omega
 obtain ⟨N,k0⟩:=N;have j0:(32:Int)<=(d:Int):=by omega
 have l:=H.out B.drew q d (bs 5 (S q 480 d) (bW 480 e.enc)) (pt M (W #[Z .i64 (e.nd:Int),V (str e.nm)] 80 (0,0))*(pt K (W #[Z .i64 (e.nd:Int),V (str e.nm)] 80 (0,0))*(pt i (cQ b n)*F)))
  (fun g P h=>QN HL.out (by decide) (O g P h)) (by omega) (o.drew.to (by ac_rfl))
 rw [<- (show IntKind.i64.wrap ((m:Int)*32)=(m:Int)*32 by rw [IntKind.wrap_i64];omega)] at l;have I:=ae l;clear l H o O
 go_wp2_with fail
 go_region_held3 (fun w'=>w'.cell? ⟨i,0,X⟩=Y (U (Y ⟨b,0,X⟩))/\w'.cell? ⟨i,1,X⟩=Y (Z .i64 (n:Int)))
  (first|exact ⟨s0,s1⟩|exact d0|go_keep)
  (first|(go_at_call 52;refine I.out.mono ?_;rintro e0 C ⟨rfl,d3,j⟩;have d0:C.cell? ⟨i,0,X⟩=Y (U (Y ⟨b,0,X⟩))/\C.cell? ⟨i,1,X⟩=Y (Z .i64 (n:Int)):=⟨j.aM.cell 0,j.aM.cell 1⟩))
 rename_i c0;clear c0;have p:ag C (dS x' b r s*F):=(j.to (by ac_rfl:_=(bs 5 (S q 480 d) (bW 480 e.enc)*(pt M (W #[Z .i64 (e.nd:Int),V (str e.nm)] 80 (0,0))*(pt K (W #[Z .i64 (e.nd:Int),V (str e.nm)] 80 (0,0))*pt i (cQ b n))))*(dS x' b r s*F))).right;have H4:=ae p;clear j p I
 go_wp2_with fail
 exact HQ.out _ _ ⟨rfl,(dA.out.trans d2).drew.trans d3,H4.out⟩
end
end Go.Proofs.Fs
namespace Go.SL
open RowKit
theorem vq {L:List aH} {nm:List UInt8} {i:Nat} (h:iz L nm=Y i):i<L.length:=by
 unfold iz at h;rw [T1] at h;exact h.1
theorem rK {L:List aH} {nm:List UInt8} {i:Nat} (h:iz L nm=Y i):uZ L nm=(i:Int):=by unfold uZ;rw [h]
theorem rW {L:List aH} {nm:List UInt8} (h:iz L nm=X):uZ L nm=-1:=by unfold uZ;rw [h]
end Go.SL
namespace Go.Proofs.Fs
open RowKit SL Proofs.Ba
section
variable {n:Nat} {x x':Fx n} {b k id:Nat} {A:Nat->Option AF} {f:AF} {lk:Int} {L:List aH} {w:Q} {F:ai} {nm:List UInt8}
theorem M4 {e:aH} (a:e.ok=Z') (g:sH L) (r:L.length<3840) (m:A id=Y (eK lk L)) (o:aY (L.length+1)<=k+aY L.length) (h:ag w (dS x b A k*F)) :
  Calls R 143 #[fS b n,Z .i64 (id:Int),Z .i64 (L.length:Int),.agg #[Z .i64 (e.nd:Int),V (str e.nm)]] w (YE (x.more 5) b (dp A id (Y (eK lk (L++[e])))) (k+aY L.length-aY (L.length+1)) 0 F w):=by
 have q:=aH.dF a;have d:=fE (lk:=lk) (L:=L) (by omega);have c:=fE (lk:=lk) (L:=L++[e]) (by rw [A1,D1];omega);rw [A1,D1] at c;refine wi e a L.length (by omega) h fun t s p D G j l i=>?_;have:=zu m (32*L.length) j l (by omega) (by omega) (by rw [uT g a,d,c];exact o) i;rw [uT g a,d,c,show e.enc.length/480+5=5 by omega] at this;exact this
theorem NS {e:aH} (a:e.ok=Z') (o:sH L) (r:L.length<3840) (l:A id=Y (eK lk L)) (m:k+aY L.length<aY (L.length+1)) (h:ag w (dS x b A k*F)) :
  Calls R 143 #[fS b n,Z .i64 (id:Int),Z .i64 (L.length:Int),.agg #[Z .i64 (e.nd:Int),V (str e.nm)]] w (YE x b A k 7 F w):=by
 have q:=aH.dF a;have d:=fE (lk:=lk) (L:=L) (by omega);have c:=fE (lk:=lk) (L:=L++[e]) (by rw [A1,D1];omega);rw [A1,D1] at c;refine wi e a L.length (by omega) h fun t s p D G i j g=>?_;exact Lv l (32*L.length) i j (by omega) (by omega) (by rw [uT o a,d,c];exact m) g
theorem Ld {e:aH} (a:e.ok=Z') (j:sH L) (s:L.length<=3840) (p:A id=Y (eK lk L)) {i:Nat} (g:i<L.length) (h:ag w (dS x b A k*F)) :
  Calls R 143 #[fS b n,Z .i64 (id:Int),Z .i64 (i:Int),.agg #[Z .i64 (e.nd:Int),V (str e.nm)]] w (YE (x.more 5) b (dp A id (Y (eK lk (L.set i e)))) k 0 F w):=by
 have r:=aH.dF a;have d:=fE (lk:=lk) (L:=L) (by omega);have c:=fE (lk:=lk) (L:=L.set i e) (by rw [E1];omega);rw [E1] at c;refine wi e a i (by omega) h fun u t q D G m o l=>?_;have:=zu p (32*i) m o (by omega) (by omega) (by rw [Br j a g,d,c];omega) l;rw [Br j a g,d,c,Nat.add_sub_cancel,show e.enc.length/480+5=5 by omega] at this;exact this
theorem KR (h:ag w (dS x b A k*F)) (q:A id=Y (eK lk L)) (v:sH L) (o:L.length<=3840) {i:Nat} (s:iz L nm=Y i) (M:i<L.length) :
  Calls R 102 #[fS b n,Z .i64 (id:Int),V (str nm)] w (YI x b A k ((L[i]).nd) 0 F w):=by
 refine aJ fun b0 G=>?_;have l:=h.alloc (cQ b n);have J:=ae ((aj.refl w).alloc (cQ b n));have z:=ae (iT l.ah q (iY v o));have y:=rK s;obtain ⟨m,t⟩:∃ m,L.length=m:=⟨_,rfl⟩
 have c0:(w.alloc (cQ b n)).cell? ⟨w.heap.size,0,X⟩=Y (U (Y ⟨b,0,X⟩)):=l.cell 0;have E:=ae y;have p:=ae t;have f0:(m:Int)<=3840:=by omega
 have e0:(i:Int)<(m:Int):=by omega
 have C:=ae o;clear h l q v y t o s;unfold fS
 go_enter func102,ntmps102
 go_wp2_with fail
 refine z.out.mono ?_;generalize w.alloc (cQ b n)=w1 at *;generalize w.heap.size=K at *;rintro r w2 ⟨u,rfl,H,j⟩;have c:=dN w2 u L nm _ C.out j;unfold ph at c;rw [E.out] at c;have d:=ae c;obtain ⟨ua,P,rfl⟩:=aE j;rw [p.out] at d ⊢;clear z c j
 go_wp2_with fail
 refine d.out.mono ?_;rintro r w3 ⟨rfl,a,I⟩;rw [<- p.out] at a;obtain ⟨g,d0,e,e1,e2,N,O⟩:=nV a M;simp only [Value.slice.injEq] at e;obtain ⟨rfl,-,rfl⟩:=e;have B:=ae a;clear a d N O
 go_wp2_with fail
 exact G.out _ _ ⟨by simp,(J.out.trans H).trans I,(B.out.to (by ac_rfl:_=(sl 80 2 (S (Y ⟨g,0,X⟩) L.length P) L.length (bD L)*pt K (cQ b n))*(dS x b A k*F))).right⟩
theorem OH (h:ag w (dS x b A k*F)) (l:A id=Y (eK lk L)) (q:sH L) (i:L.length<=3840) (o:iz L nm=X) :
  Calls R 102 #[fS b n,Z .i64 (id:Int),V (str nm)] w (YI x b A k 0 5 F w):=by
 refine aJ fun N C=>?_;have g:=h.alloc (cQ b n);have H:=ae ((aj.refl w).alloc (cQ b n));have t:=ae (iT g.ah l (iY q i));have s:=rW o;obtain ⟨m,p⟩:∃ m,L.length=m:=⟨_,rfl⟩
 have O:(w.alloc (cQ b n)).cell? ⟨w.heap.size,0,X⟩=Y (U (Y ⟨b,0,X⟩)):=g.cell 0;have B:=ae s;have z:=ae p;have P:(m:Int)<=3840:=by omega
 have y:=ae i;clear h g l q s p i o;unfold fS
 go_enter func102,ntmps102
 go_wp2_with fail
 refine t.out.mono ?_;generalize w.alloc (cQ b n)=w1 at *;generalize w.heap.size=I at *;rintro r M ⟨u,rfl,E,d⟩;have a:=dN M u L nm _ y.out d;unfold ph at a;rw [B.out] at a;have c:=ae a;obtain ⟨J,K,rfl⟩:=aE d;rw [z.out] at c ⊢;clear t a d
 go_wp2_with fail
 refine c.out.mono ?_;rintro r w3 ⟨rfl,j,G⟩;have v:=ae j;clear j c
 go_wp2_with fail
 exact C.out _ _ ⟨by simp,(H.out.trans E).trans G,(v.out.to (by ac_rfl:_=(sl 80 2 (S J m K) m (bD L)*pt I (cQ b n))*(dS x b A k*F))).right⟩
theorem GG {a:Nat} (M:1<=a) (N:a<=3839) (h:ag w (dS x b A k*F)) (s:A id=Y (eK lk L)) (y:sH L) (l:L.length<=3840) (t:cM nm=Z') {i:Nat} (o:iz L nm=Y i) :
  Calls R 103 #[fS b n,Z .i64 (id:Int),V (str nm),Z .i64 (a:Int)] w (YE x b A k 6 F w):=by
 refine aJ fun b0 G=>?_;have j:=h.alloc (cQ b n);have J:=ae ((aj.refl w).alloc (cQ b n));have z:=ae (iT j.ah s (iY y l));obtain ⟨m,v⟩:∃ m,L.length=m:=⟨_,rfl⟩
 have c0:(w.alloc (cQ b n)).cell? ⟨w.heap.size,0,X⟩=Y (U (Y ⟨b,0,X⟩)):=j.cell 0;have E:=ae v;have O:=ae (rK o);have e0:(m:Int)<=3840:=by omega
 have d0:(i:Int)<(m:Int):=by have:=vq o;omega
 have C:=ae l;have p:=ae fun w=>pT w nm;rw [t] at p;have g1:¬ ((a:Int)<1):=by omega
 have g2:¬ ((3839:Int)<(a:Int)):=by omega
 clear h j s y v l t o M N;unfold fS
 go_enter func103,ntmps103
 go_wp2_with fail
 refine z.out.mono ?_;generalize w.alloc (cQ b n)=w1 at *;generalize w.heap.size=K at *;rintro r w2 ⟨u,rfl,H,g⟩;have c:=dN w2 u L nm _ C.out g;unfold ph at c;rw [O.out] at c;have d:=ae c;obtain ⟨P,uc,rfl⟩:=aE g;rw [E.out] at d ⊢;clear z g c
 go_wp2_with fail
 refine (p.out _).mono ?_;rintro r w3 ⟨rfl,rfl⟩
 go_wp2_with fail
 refine d.out.mono ?_;rintro r w3 ⟨rfl,q,I⟩;have B:=ae q;clear q d
 go_wp2_with fail
 exact G.out _ _ ⟨by simp,(J.out.trans H).trans I,(B.out.to (by ac_rfl:_=(sl 80 2 (S P m uc) m (bD L)*pt K (cQ b n))*(dS x b A k*F))).right⟩
theorem EZ {a:Nat} {o:Nat->Option AF} {v:Nat} {c:Int} (d0:1<=a) (e0:a<=3839) (h:ag w (dS x b A k*F)) (C:A id=Y (eK lk L)) (I:sH L) (H:L.length<3840) (E:cM nm=Z') (J:iz L nm=X)
  (u:∀ j G,ag j (dS x b A k*G)->Calls R 143 #[fS b n,Z .i64 (id:Int),Z .i64 (L.length:Int),.agg #[Z .i64 (a:Int),V (str nm)]] j (YE x' b o v c G j)) :
  Calls R 103 #[fS b n,Z .i64 (id:Int),V (str nm),Z .i64 (a:Int)] w (YE x' b o v c F w):=by
 refine aJ fun h0 HQ=>?_;have s:=h.alloc (cQ b n);have dA:=ae ((aj.refl w).alloc (cQ b n));have K:=ae (iT s.ah C (iY I (by omega)));obtain ⟨m,t⟩:∃ m,L.length=m:=⟨_,rfl⟩
 have c0:(w.alloc (cQ b n)).cell? ⟨w.heap.size,0,X⟩=Y (U (Y ⟨b,0,X⟩)):=s.cell 0;rw [t] at u;have b0:=ae u;have HM:=ae t;have f0:=ae (rW J);have i0:(m:Int)<3840:=by omega
 have P:Hid (L.length<=3840):=Nat.le_of_lt H;have z:=ae fun w=>pT w nm;rw [E] at z;have g1:¬ ((a:Int)<1):=by omega
 have g2:¬ ((3839:Int)<(a:Int)):=by omega
 clear h s C I t H E J d0 e0 u;unfold fS
 go_enter func103,ntmps103
 go_wp2_with fail
 refine K.out.mono ?_;generalize w.alloc (cQ b n)=j at *;generalize w.heap.size=d at *;rintro r w2 ⟨g0,rfl,d2,q⟩;have i:=dN w2 g0 L nm _ P.out q;unfold ph at i;rw [f0.out] at i;have p:=ae i;obtain ⟨M,N,rfl⟩:=aE q;rw [HM.out] at p ⊢;clear K q i
 go_wp2_with fail
 refine (z.out _).mono ?_;rintro r l ⟨rfl,rfl⟩
 go_wp2_with fail
 refine p.out.mono ?_;rintro r l ⟨rfl,g,d3⟩;have c0:l.cell? ⟨d,0,X⟩=Y (U (Y ⟨b,0,X⟩)):=g.aw.cell 0;have c1:l.cell? ⟨d,1,X⟩=Y (Z .i64 (n:Int)):=g.aw.cell 1;have y:=ae g;clear g p
 go_wp2_with fail
 refine (b0.out l _ (y.out.to (by ac_rfl:_=dS x b A k*((sl 80 2 (S M m N) m (bD L)*pt d (cQ b n))*F)))).mono ?_;rintro r w4 ⟨rfl,d4,B⟩;have O:=ae (B.to (by ac_rfl:_=(sl 80 2 (S M m N) m (bD L)*pt d (cQ b n))*(dS x' b o v*F))).right;clear B y
 go_wp2_with fail
 exact HQ.out _ _ ⟨by simp,((dA.out.trans d2).trans d3).trans d4,O.out⟩
theorem tT {a:Nat} (c:1<=a) (d:a<=3839) (h:ag w (dS x b A k*F)) (g:A id=Y (eK lk L)) (l:sH L) (j:L.length<3840) (i:cM nm=Z') (p:iz L nm=X) (o:aY (L.length+1)<=k+aY L.length) :
  Calls R 103 #[fS b n,Z .i64 (id:Int),V (str nm),Z .i64 (a:Int)] w (YE (x.more 5) b (dp A id (Y (eK lk (L++[⟨a,nm⟩])))) (k+aY L.length-aY (L.length+1)) 0 F w):=
 EZ c d h g l j i p fun q G m=>M4 (e:=⟨a,nm⟩) (aH.mw.2 ⟨c,d,sf i⟩) l j g o m
theorem Q8 {a:Nat} (c:1<=a) (d:a<=3839) (h:ag w (dS x b A k*F)) (g:A id=Y (eK lk L)) (l:sH L) (j:L.length<3840) (i:cM nm=Z') (p:iz L nm=X) (o:k+aY L.length<aY (L.length+1)) :
  Calls R 103 #[fS b n,Z .i64 (id:Int),V (str nm),Z .i64 (a:Int)] w (YE x b A k 7 F w):=
 EZ c d h g l j i p fun q G m=>NS (e:=⟨a,nm⟩) (aH.mw.2 ⟨c,d,sf i⟩) l j g o m
end
end Go.Proofs.Fs
namespace Go.SL
open RowKit
def kZ (L:List aH) (i:Nat):List aH:=(L.set i (L.getD (L.length-1) aH.no)).take (L.length-1)
theorem gT {L:List aH} {i:Nat}:(kZ L i).length=L.length-1:=by
 unfold kZ;rw [List.length_take,E1];omega
theorem KT {L:List aH}:kZ L (L.length-1)=L.take (L.length-1):=by
 unfold kZ;rw [List.take_set_of_le (L1 _)]
theorem EX {L:List aH} (h:sH L) {i:Nat} (a:i<L.length):(L.getD i aH.no).ok=Z':=by
 rw [B1,H1 a];exact h _ (List.getElem_mem a)
theorem Ou {L:List aH} (h:sH L) {i:Nat} (a:i<L.length):sH (kZ L i):=BV (zd h (EX h (by omega)) i) _
end Go.SL
namespace Go.Proofs.Fs
open RowKit SL Proofs.Ba
section
variable {n:Nat} {x:Fx n} {b k id:Nat} {A:Nat->Option AF} {f:AF} {lk:Int} {L:List aH} {w:Q} {F:ai} {nm:List UInt8}
def Fx.fork {n:Nat} (x:Fx n) (j:Nat) (M:ik x.σ):Fx n:=
 ⟨x.σ,x.c,x.V0,x.I,x.ok,x.Ny,x.h4,x.hn,fun a=>aB 176 5 a j x.c.rd M.err M.W M.D*x.R a,fun a c e h p=>by
  obtain ⟨g,i,l,m,d,rfl⟩:=p;exact ⟨g,i,dG e _ l,x.hR a c e _ m,d,rfl⟩,x.C⟩
def RV (x:Fx n) (b:Nat) (A:Nat->Option AF) (k:Nat) (F:ai) (w:Q) (e:Ending) (a:Q):Prop:=
 ∃ g M,e = .returned (az g)/\aj w a/\ag a (dS (x.fork b M) g A k*F)
theorem xD (h:ag w (dS x b A k*F)):Calls R 142 #[az b] w (RV x b A k F w):=by
 obtain ⟨M,p,i⟩:=ag.mA h;obtain ⟨c,j⟩:=ag.oU i;refine (nQ w c b x.c.rd M.err M.W M.D (x.c.RI M.s*(x.R c*F)) (j.to (by unfold cH;ac_rfl)) ⟨_,_,rfl⟩).mono ?_;rintro e q ⟨a,g,o,rfl,l,d⟩;refine ⟨g,M,rfl,d,?_⟩;have m:=(l.to (by ac_rfl:_=x.R c*(aB 176 5 a g x.c.rd M.err M.W M.D*(aB 176 5 a b x.c.rd M.err M.W M.D*(aq a*(x.c.RI M.s*F)))))).fp (x.hR c a o);refine ag.qK (x:=x.fork b M) p ?_;refine ag.ax.2 ⟨a,?_⟩;exact m.to (by show _=(cH x.c a g M*(aq a*(aB 176 5 a b x.c.rd M.err M.W M.D*x.R a)))*F;unfold cH;ac_rfl)
def Rk (x:Fx n) (b:Nat) (A:Nat->Option AF) (k:Nat) (F:ai) (w:Q) (e:Ending) (a:Q):Prop:=
 e = .returned (.tuple #[])/\aj w a/\ag a (dS x b A k*F)
theorem xp {M:ik x.σ} {g:Nat} (h:ag w (dS (x.fork b M) g A k*F)):Calls R 144 #[az b,az g] w (Rk x b A k F w):=by
 obtain ⟨c,q,i⟩:=ag.mA h;obtain ⟨a,j⟩:=ag.ax.1 i
 have l:ag w (aB 176 5 a b x.c.rd M.err M.W M.D*(aB 176 5 a g x.c.rd c.err c.W c.D*(aq a*(x.c.RI c.s*(x.R a*F))))):=
  j.to (by show (cH x.c a g c*(aq a*(aB 176 5 a b x.c.rd M.err M.W M.D*x.R a)))*F=_;unfold cH;ac_rfl)
 refine (ir w a b g x.c.rd x.c.rd c.err M.err c.W c.D M.W M.D _ l ⟨_,_,rfl⟩).mono ?_;rintro e s ⟨r,p,rfl,m,d⟩;refine ⟨rfl,d,?_⟩;have o:=m.iC;exact ag.qK (x:=x) q (ag.ui p (o.to (by unfold cH;ac_rfl)))
theorem Rm {m q a:Nat} {p:Nat} {E:aH} (h:ag w (sl 80 2 (S (Y ⟨a,0,X⟩) m p) m (bD L)*F)) (o:L.length=m) (j:q<L.length) (l:L[q]'j=E) :
  w.cell? ⟨a,q*2,X⟩=Y (Z .i64 (E.nd:Int))/\w.cell? ⟨a,q*2+1,X⟩=Y (V (str E.nm)):=by
 obtain ⟨g,c,e,d,i,r,s⟩:=nV (L:=L) (k:=q) (h.to (by rw [o])) j;simp only [Value.slice.injEq,Option.some.injEq,Addr.mk.injEq] at e;obtain ⟨⟨rfl,-⟩,-⟩:=e;rw [l] at d i;exact ⟨d,i⟩
def O9 (x:Fx n) (b:Nat) (A:Nat->Option AF) (k h:Nat) (d F:ai) (w:Q) (u:Value) (c:Q):Prop:=
 ∃ (g:Nat) (M:ik x.σ) (a:Nat),u=az a/\aj w c/\ag c (pt a (W #[az g,Z .i64 (n:Int)] 72 (0,0))*(dS (x.fork b M) g A k*(d*(pt h (cQ b n)*F))))
theorem DQ (D0:ag w (dS x b A k*F)) (hf:A id=Y (eK lk L)) (n0:sH L) (hl:L.length<=3840) {i:Nat} (hi:iz L nm=Y i) :
    Calls R 82 #[fS b n,Z .i64 (id:Int),V (str nm)] w (YE (x.more 9) b (dp A id (Y (eK lk (kZ L i)))) (k+aY L.length-aY (L.length-1)) 0 F w):=by
  refine aJ fun W0 HQ=>?_;have hL:=vq hi;have hA:=D0.alloc (cQ b n);have dA:=ae ((aj.refl w).alloc (cQ b n));have hr:=ae (iT hA.ah hf (iY n0 hl));have hp:=rK hi;obtain ⟨m,hm⟩:∃ m,L.length=m:=⟨_,rfl⟩
  have c0:(w.alloc (cQ b n)).cell? ⟨w.heap.size,0,X⟩=Y (U (Y ⟨b,0,X⟩)):=hA.cell 0;have HP:=ae hp;have h:=ae hm;have HF:=ae hf;have N:=ae n0;have Z0:(m:Int)<=3840:=by omega
  have Y0:(i:Int)<(m:Int):=by omega
  have z:=ae hl;clear D0 hA hf n0 hp hm hl hi;unfold fS
  go_enter func82,ntmps82
  go_wp2_with fail
  refine hr.out.mono ?_;generalize w.alloc (cQ b n)=w1 at *;generalize w.heap.size=a at *;rintro r w2 ⟨p0,rfl,d2,h2⟩;have d0:=dN w2 p0 L nm _ z.out h2;unfold ph at d0;rw [HP.out] at d0;have k0:=ae d0;obtain ⟨J,p,rfl⟩:=aE h2;rw [h.out] at k0 ⊢;clear hr d0 h2
  go_wp2_with fail
  refine k0.out.mono ?_;rintro r o ⟨rfl,H,d3⟩;have D3:=ae ((dA.out.trans d2).trans d3);have s0:o.cell? ⟨a,0,X⟩=Y (U (Y ⟨b,0,X⟩)):=H.aw.cell 0;have s1:o.cell? ⟨a,1,X⟩=Y (Z .i64 (n:Int)):=H.aw.cell 1;have O:=H.alloc (W #[U X,Z .i64 0] 72 (0,0));have r0:=ae ((D3.out.alloc (W #[U X,Z .i64 0] 72 (0,0))).drew);have G0:=ae (xD (x:=x) (b:=b) (k:=k) (A:=A) (w:=(o.alloc (W #[U X,Z .i64 0] 72 (0,0))).drew) (F:=pt o.heap.size (W #[U X,Z .i64 0] 72 (0,0))*(sl 80 2 (S J m p) m (bD L)*(pt a (cQ b n)*F))) (O.drew.to (by ac_rfl)));have H0:=ae (xD (x:=x) (b:=b) (k:=k) (A:=A) (w:=o.drew) (F:=(sl 80 2 (S J m p) m (bD L)*(pt a (cQ b n)*F))) (H.drew.to (by ac_rfl)));have t0:(o.alloc (W #[U X,Z .i64 0] 72 (0,0))).cell? ⟨a,0,X⟩=Y (U (Y ⟨b,0,X⟩)):=O.aD.cell 0;have t1:(o.alloc (W #[U X,Z .i64 0] 72 (0,0))).cell? ⟨a,1,X⟩=Y (Z .i64 (n:Int)):=O.aD.cell 1;clear H O k0 d3 d2 dA
  go_wp2_with fail
  go_cut [11] from 31 to 36 (fun p0 wx=>O9 x b A k a (sl 80 2 (S J m p) m (bD L)) F w p0 wx)
  case first=>
    go_region_held3 (fun y=>y.cell? ⟨a,0,X⟩=Y (U (Y ⟨b,0,X⟩))/\y.cell? ⟨a,1,X⟩=Y (Z .i64 (n:Int)))
      (first|exact ⟨s0,s1⟩|exact ⟨t0,t1⟩|exact v|exact L0|exact V0|go_keep)
      (first | (go_at_call 142; refine G0.out.mono ?_; rintro r c ⟨g, M, rfl, B, d⟩; have v : c.cell? ⟨a, 0, X⟩ = Y (U (Y ⟨b, 0, X⟩)) /\ c.cell? ⟨a, 1, X⟩ = Y (Z .i64 (n : Int)) := ⟨d.aD.cell 0, d.aD.cell 1⟩; have z0 : c.cell? ⟨o.heap.size, 0, X⟩ = Y (U X) := d.ah.cell 0; have z1 : c.cell? ⟨o.heap.size, 1, X⟩ = Y (Z .i64 0) := d.ah.cell 1; have f0 := d.ah.frozen 0; have f1 := d.ah.frozen 1;
                have j:=((d.ah.setCell 0 (az g)).setCell 1 (Z .i64 (n:Int)));have L0:((c.setCell ⟨o.heap.size,0,X⟩ (az g)).setCell ⟨o.heap.size,1,X⟩ (Z .i64 (n:Int))).cell? ⟨a,0,X⟩=Y (U (Y ⟨b,0,X⟩))/\((c.setCell ⟨o.heap.size,0,X⟩ (az g)).setCell ⟨o.heap.size,1,X⟩ (Z .i64 (n:Int))).cell? ⟨a,1,X⟩=Y (Z .i64 (n:Int)):=⟨j.aD.cell 0,j.aD.cell 1⟩)
             | (go_at_call 142;refine H0.out.mono ?_;rintro r c ⟨g,M,rfl,B,d⟩;have v:c.cell? ⟨a,0,X⟩=Y (U (Y ⟨b,0,X⟩))/\c.cell? ⟨a,1,X⟩=Y (Z .i64 (n:Int)):=⟨d.aw.cell 0,d.aw.cell 1⟩;have l0:=d.alloc (W #[U X,Z .i64 0] 72 (0,0));have L0:(c.alloc (W #[U X,Z .i64 0] 72 (0,0))).cell? ⟨a,0,X⟩=Y (U (Y ⟨b,0,X⟩))/\(c.alloc (W #[U X,Z .i64 0] 72 (0,0))).cell? ⟨a,1,X⟩=Y (Z .i64 (n:Int)):=⟨l0.aD.cell 0,l0.aD.cell 1⟩;
                have j:=((l0.setCell 0 (az g)).setCell 1 (Z .i64 (n:Int)));have V0:(((c.alloc (W #[U X,Z .i64 0] 72 (0,0))).setCell ⟨c.heap.size,0,X⟩ (az g)).setCell ⟨c.heap.size,1,X⟩ (Z .i64 (n:Int))).cell? ⟨a,0,X⟩=Y (U (Y ⟨b,0,X⟩))/\(((c.alloc (W #[U X,Z .i64 0] 72 (0,0))).setCell ⟨c.heap.size,0,X⟩ (az g)).setCell ⟨c.heap.size,1,X⟩ (Z .i64 (n:Int))).cell? ⟨a,1,X⟩=Y (Z .i64 (n:Int)):=⟨j.aD.cell 0,j.aD.cell 1⟩))
    all_goals go_wp2_with fail
    all_goals go_meet
    all_goals first
      | exact ⟨g,M,c.heap.size,rfl,((D3.out.drew.trans B).alloc (W #[az g,Z .i64 (n:Int)] 72 (0,0))),(d.alloc (W #[az g,Z .i64 (n:Int)] 72 (0,0))).to (by ac_rfl)⟩
      | exact ⟨g,M,o.heap.size,rfl,((r0.out.trans B).setCell _ _).setCell _ _,j.to (by show pt _ (W #[az g,Z .i64 (n:Int)] 72 (0,0))*_=_;ac_rfl)⟩
  case rest=>
    obtain ⟨g,M,l,rfl,g0,t⟩:=hcut;clear G0 H0 D3 r0 s0 s1 t0 t1 c0;have q0:wc.cell? ⟨l,0,X⟩=Y (az g):=t.cell 0;have q1:wc.cell? ⟨l,1,X⟩=Y (Z .i64 (n:Int)):=t.cell 1;rw [show (m:Int)-1=((m-1:Nat):Int) by omega];obtain ⟨q,hq⟩:∃ q,m-1=q:=⟨_,rfl⟩
    have u0:Hid (L.length-1=q):=by show _=_;rw [h.out,hq]
    have c1:(q:Int)<(m:Int):=by omega
    have e0:q+1=m:=by omega
    rw [hq]
    by_cases a1:(i:Int)<(q:Int)
    · have b1:i<q:=by omega
      have b0:=EX N.out (i:=q) (by have:=h.out;omega);obtain ⟨u,X0,e,e1,e2,k1,k2⟩:=nV (L:=L) (k:=q) ((t.aw).to (by rw [h.out])) (by have:=h.out;omega);simp only [Value.slice.injEq] at e;obtain ⟨rfl,-,rfl⟩:=e;have d1:(m:Int)<=(p:Int):=by have:=h.out;omega
      have g1:(p:Int)<=9223372036854775807:=by omega
      obtain ⟨E,P⟩:∃ E,L.getD q aH.no=E:=⟨_,rfl⟩
      have F0:L[q]'(by have:=h.out;omega)=E:=by rw [<- P,B1,H1 (by have:=h.out;omega)];rfl
      rw [F0] at e1 e2;rw [P] at b0;have K0:=Ld (x:=x.fork b M) (b:=g) (k:=k) (id:=id) (A:=A) (w:=wc.drew) (e:=E) (F:=sl 80 2 (S (Y ⟨u,0,X⟩) m p) m (bD L)*(pt a (cQ b n)*(pt l (W #[az g,Z .i64 (n:Int)] 72 (0,0))*F))) b0 N.out z.out HF.out hL (t.drew.to (by ac_rfl));have x0:=ae K0;have HS:=ae g0;have S0:=ae t;have HE:=ae P;have N0:=ae b0;have R0:=ae e0;clear K0 g0 t P b0 F0 k1 k2 hq e0
      go_wp2_with fail
      go_region_held3 (fun y=>y.cell? ⟨l,0,X⟩=Y (az g)/\y.cell? ⟨l,1,X⟩=Y (Z .i64 (n:Int))/\y.cell? ⟨u,q*2,X⟩=Y (Z .i64 (E.nd:Int))/\y.cell? ⟨u,q*2+1,X⟩=Y (V (str E.nm)))
        (first|exact ⟨q0,q1,e1,e2⟩|exact v|go_keep)
        (first|(go_at_call 143;refine x0.out.mono ?_;rintro r c ⟨rfl,B,d⟩;have v:c.cell? ⟨l,0,X⟩=Y (az g)/\c.cell? ⟨l,1,X⟩=Y (Z .i64 (n:Int))/\c.cell? ⟨u,q*2,X⟩=Y (Z .i64 (E.nd:Int))/\c.cell? ⟨u,q*2+1,X⟩=Y (V (str E.nm)):=⟨d.aD.cell 0,d.aD.cell 1,Rm d.ah h.out (by have:=h.out;omega) (by rw [<- HE.out,B1,H1 (by have:=h.out;omega)];rfl)⟩))
      rename_i T0;clear T0;have D4:=ae (HS.out.drew.trans B);have q0:c.cell? ⟨l,0,X⟩=Y (az g):=v.1;have q1:c.cell? ⟨l,1,X⟩=Y (Z .i64 (n:Int)):=v.2.1;have d:=d.to (by ac_rfl:_=dS ((x.fork b M).more 5) g (dp A id (Y (eK lk (L.set i E)))) k*(pt l (W #[az g,Z .i64 (n:Int)] 72 (0,0))*(pt a (cQ b n)*(sl 80 2 (S (Y ⟨u,0,X⟩) m p) m (bD L)*F))));have m0:(L.set i E).length=L.length:=E1;have h0:Hid (q<=(L.set i E).length):=by show q<=(L.set i E).length;rw [m0,h.out];omega
      have i0:Hid ((L.set i E).length<=3840):=by show (L.set i E).length<=3840;rw [m0];exact z.out
      have j0:Hid ((kZ L i).length<=3840):=by show (kZ L i).length<=3840;rw [gT];have:=z.out;omega
      have o0:(L.set i E).take q=kZ L i:=by unfold kZ;rw [u0.out,HE.out]
      clear v B S0 x0;have s:=ae (EN (x:=(x.fork b M).more 5) (b:=g) (k:=k) (id:=id) (A:=(dp A id (Y (eK lk (L.set i E))))) (w:=c) d (if_pos rfl) (32*q) (by omega));rw [A0 (zd N.out N0.out i) h0.out,o0,fE i0.out,fE j0.out,gT,m0,h.out,Ry] at s;rw [show ((32*q:Nat):Int)=(q:Int)*32 by omega] at s
      go_wp2_with fail
      refine s.out.mono ?_;rintro r K ⟨rfl,C,j⟩;clear s;have v0:K.cell? ⟨l,0,X⟩=Y (az g):=j.ah.cell 0;have v1:K.cell? ⟨a,0,X⟩=Y (U (Y ⟨b,0,X⟩)):=j.aw.cell 0;have J0:=ae (xp (x:=x.more 9) (M:=M) j);have D5:=ae (D4.out.trans C);clear C
      go_wp2_with fail
      refine J0.out.mono ?_;rintro r w6 ⟨rfl,G,I⟩;have H6:=ae ((I.to (by ac_rfl:_=(pt l (W #[az g,Z .i64 (n:Int)] 72 (0,0))*(pt a (cQ b n)*(sl 80 2 (S (Y ⟨u,0,X⟩) m p) m (bD L))))*(dS (x.more 9) b (dp A id (Y (eK lk (kZ L i)))) (k+aY m-aY (m-1))*F))).right);have D6:=ae (D5.out.trans G);clear j I J0 G v0 v1
      go_wp2_with fail
      exact HQ.out _ _ ⟨by simp,D6.out,by have:=H6.out;rw [<- h.out] at this;exact this⟩
    · obtain rfl:i=q:=by omega
      have d:=t.to (by ac_rfl:_=dS (x.fork b M) g A k*(pt l (W #[az g,Z .i64 (n:Int)] 72 (0,0))*(pt a (cQ b n)*(sl 80 2 (S J m p) m (bD L)*F))));have h0:Hid (i<=L.length):=by show i<=L.length;rw [h.out];omega
      have i0:Hid (L.length<=3840):=z.out;have j0:Hid ((kZ L i).length<=3840):=by show (kZ L i).length<=3840;rw [gT];have:=z.out;omega
      have o0:L.take i=kZ L i:=by rw [<- u0.out,KT]
      have D4:=ae g0;have R0:=ae e0;clear t g0 hq e0
      go_wp2_with fail
      have s:=ae (EN (x:=x.fork b M) (b:=g) (k:=k) (id:=id) (A:=A) (w:=wc) d HF.out (32*i) (by omega));rw [A0 N.out h0.out,o0,fE i0.out,fE j0.out,gT,h.out] at s;rw [show ((32*i:Nat):Int)=(i:Int)*32 by omega] at s
      go_wp2_with fail
      refine s.out.mono ?_;rintro r K ⟨rfl,C,j⟩;clear s;have v0:K.cell? ⟨l,0,X⟩=Y (az g):=j.ah.cell 0;have v1:K.cell? ⟨a,0,X⟩=Y (U (Y ⟨b,0,X⟩)):=j.aw.cell 0;have J0:=ae (xp (x:=x.more 4) (M:=M) j);have D5:=ae (D4.out.trans C);clear C
      go_wp2_with fail
      refine J0.out.mono ?_;rintro r w6 ⟨rfl,G,I⟩;have H6:=ae ((I.to (by ac_rfl:_=(pt l (W #[az g,Z .i64 (n:Int)] 72 (0,0))*(pt a (cQ b n)*(sl 80 2 (S J m p) m (bD L))))*(dS (x.more 4) b (dp A id (Y (eK lk (kZ L i)))) (k+aY m-aY (m-1))*F))).right |> ag.xX 5);have D6:=ae (D5.out.trans G);clear j I J0 G v0 v1
      go_wp2_with fail
      exact HQ.out _ _ ⟨by simp,D6.out,by have:=H6.out;rw [<- h.out] at this;exact this⟩
end
end Go.Proofs.Fs
namespace Go.SL
open RowKit
inductive tQ where
 | file (f:AF)
 | dir (L:List aH)
def tQ.af:tQ->AF
 | .file f=>f
 | .dir L=>eK 1 L
abbrev Tr:=Nat->Option tQ
def fR (T:Tr):Nat->Option AF:=fun id=>(T id).map tQ.af
theorem sk (T:Tr) (id:Nat) (x:tQ):dp (fR T) id (Y x.af)=fR (dp T id (Y x)):=by
 funext b;unfold fR dp;split <;> rfl
theorem MF (T:Tr) (id:Nat):dp (fR T) id X=fR (dp T id X):=by
 funext b;unfold fR dp;split <;> rfl
theorem ld {T:Tr} {id:Nat} {f:AF} (h:T id=Y (.file f)):fR T id=Y f:=by unfold fR;rw [h];rfl
theorem kJ {T:Tr} {id:Nat} {L:List aH} (h:T id=Y (.dir L)):fR T id=Y (eK 1 L):=by unfold fR;rw [h];rfl
def fV:Tr:=fun id=>if id=1 then Y (.dir []) else X
structure oJ (L:List aH):Prop where
 ok:sH L
 len:L.length<=3840
 nd:(L.map aH.nm).Nodup
 nm:∀ e ∈ L,cM e.nm=true
def eP:Option tQ->List aH
 | some (.dir L)=>L
 | _=>[]
def cG (ps:List (List UInt8)):List UInt8:=ps.getD (ps.length-1) []
def refs (n:Nat) (T:Tr) (id:Nat):Nat:=((K1 n).map fun d=>(eP (T d)).countP fun e=>e.nd == id).sum
def CH (id:Nat):Option tQ->Int
 | some (.file f)=>f.lk
 | some (.dir _)=>if id=1 then 0 else 1
 | none=>0
structure Tidy (n:Nat) (T:Tr):Prop where
 root:∃ L,T 1=some (.dir L)
 pC:∀ id L,T id=some (.dir L)->oJ L
 files:∀ id f,T id=some (.file f)->f.kd=1
 ref:∀ id,(refs n T id:Int)=CH id (T id)
 out:∀ id,n<=id->T id=none
def ee (x:Option tQ) (nm:List UInt8):Int × Nat:=match x with
 | some (.dir L)=>(match iz L nm with|some i=>(0,(L.getD i aH.no).nd)|none=>(5,0))
 | some (.file _)=>(8,0)
 | none=>(4,0)
def aT (T:Tr):Nat->List (List UInt8)->Int × Nat
 | id,[]=>(0,id)
 | id,nm :: ps=>if (ee (T id) nm).1=0 then aT T (ee (T id) nm).2 ps else ((ee (T id) nm).1,0)
theorem FY (T:Tr) (id:Nat):aT T id []=(0,id):=rfl
theorem iP {T:Tr} {id:Nat} {nm:List UInt8} {ps:List (List UInt8)} (h:(ee (T id) nm).1=0):aT T id (nm :: ps)=aT T (ee (T id) nm).2 ps:=if_pos h
theorem rj {T:Tr} {id:Nat} {nm:List UInt8} {ps:List (List UInt8)} (h:¬ (ee (T id) nm).1=0):aT T id (nm :: ps)=((ee (T id) nm).1,0):=if_neg h
theorem jS {L:List aH} {nm:List UInt8} {i:Nat} (h:iz L nm=Y i):ee (Y (.dir L)) nm=(0,(L.getD i aH.no).nd):=by unfold ee;simp only [h]
theorem mu {L:List aH} {nm:List UInt8} (h:iz L nm=X):ee (Y (.dir L)) nm=(5,0):=by unfold ee;simp only [h]
theorem Q5 {l:List Nat} {a:Nat} (h:a ∈ l):a<=l.sum:=by
 induction l with
 | nil=>cases h
 | cons b l c=>
  rw [List.sum_cons];rcases List.mem_cons.1 h with rfl|h
  .omega
  .have:=c h;omega
theorem vI {n:Nat} {T:Tr} {d:Nat} {L:List aH} {e:aH} (c:d<n) (a:T d=Y (.dir L)) (g:e ∈ L):0<refs n T e.nd:=by
 have h:0<(eP (T d)).countP fun x=>x.nd == e.nd:=by rw [a];exact List.countP_pos_iff.2 ⟨e,g,by simp⟩
 have i:((eP (T d)).countP fun x=>x.nd == e.nd)<=refs n T e.nd:=Q5 (List.mem_map.2 ⟨d,List.mem_range.2 c,rfl⟩);omega
section
variable {n:Nat} {T:Tr}
theorem Tidy.lt (h:Tidy n T) {id:Nat} {x:tQ} (c:T id=Y x):id<n:=by
 rcases Nat.lt_or_ge id n with a|a
 .exact a
 .rw [h.out id a] at c;cases c
theorem Tidy.has (h:Tidy n T) {d:Nat} {L:List aH} {e:aH} (c:T d=Y (.dir L)) (g:e ∈ L):∃ x,T e.nd=Y x:=by
 have j:=vI (h.lt c) c g;have a:=h.ref e.nd
 cases i:T e.nd with
 | some x=>exact ⟨x,rfl⟩
 | none=>rw [i] at a;simp only [CH] at a;omega
theorem Tidy.find (h:Tidy n T) {id:Nat} {x:tQ} (g:T id=Y x) {nm:List UInt8} (a:(ee (T id) nm).1=0):∃ y,T (ee (T id) nm).2=Y y:=by
 rw [g] at a ⊢
 cases x with
 | file f=>exact absurd a (show ¬ (8:Int)=0 by decide)
 | dir L=>
  cases c:iz L nm with
  | none=>rw [mu c] at a;exact absurd a (by decide)
  | some i=>
   rw [jS c];have d:=vq c;exact h.has g (e:=L.getD i aH.no) (by rw [B1,H1 d];exact List.getElem_mem d)
theorem Tidy.walk (h:Tidy n T):∀ (ps:List (List UInt8)) {id:Nat} {x:tQ},T id=Y x->(aT T id ps).1=0->∃ y,T (aT T id ps).2=Y y
 | [],id,x,d,_=>⟨x,d⟩
 | nm :: ps,id,x,d,a=>by
  by_cases c:(ee (T id) nm).1=0
  .rw [iP c] at a ⊢
   obtain ⟨y,g⟩:=h.find d c;exact h.walk ps g a
  .rw [rj c] at a;exact absurd a c
theorem FC {f g:Nat->Nat} {d:Nat} (h:∀ i,i≠d->g i=f i):∀ m,d<m->((K1 m).map g).sum+f d=((K1 m).map f).sum+g d
 | m+1,c=>by
  rw [List.range_succ,List.map_append,List.map_append,List.sum_append,List.sum_append];simp only [List.map_cons,List.map_nil,List.sum_cons,List.sum_nil,Nat.add_zero]
  by_cases e:d=m
  .subst e
   have:(K1 d).map g=(K1 d).map f:=List.map_congr_left fun i a=>h i (by have:=List.mem_range.1 a;omega);rw [this];omega
  .have:=FC h m (by omega)
   rw [h m (by omega)];omega
theorem rq {d:Nat} (a:d<n) (x:Option tQ) (id:Nat):refs n (dp T d x) id+(eP (T d)).countP (fun e=>e.nd == id)=refs n T id+(eP x).countP fun e=>e.nd == id:=by
 have:=FC (f:=fun j=>(eP (T j)).countP fun e=>e.nd == id) (g:=fun j=>(eP (dp T d x j)).countP fun e=>e.nd == id) (d:=d) (fun i c=>by rw [aK _ _ c]) n a;simp only [bC] at this;exact this
end
end Go.SL
namespace Go.Proofs.Fs
open RowKit SL Proofs.Ba
attribute [local go_sem] Oper.semAt_some
section
variable {n:Nat} {x:Fx n} {b k id:Nat} {A:Nat->Option AF} {f:AF} {lk:Int} {L:List aH} {w:Q} {F:ai} {nm:List UInt8}
def UB (x:Fx n) (b:Nat) (A:Nat->Option AF) (k:Nat) (c:Int) (F:ai) (w:Q) (e:Ending) (a:Q):Prop:=
 e = .returned (.tuple #[S X 0 0,Z .i64 c])/\aj w a/\ag a (dS x b A k*F)
theorem FX (h:ag w (dS x b A k*F)) (z:A id=Y f) (B:f.kd=1) :
  Calls R 91 #[fS b n,Z .i64 (id:Int)] w (UB x b A k 8 F w):=by
 have i:=(((h.alloc (cQ b n)).alloc (W #[S X 0 0] 76 (0,0))).alloc (W #[Z .i64 0] 28 (0,0)))
 have t:=(((aj.refl w).alloc (cQ b n)).alloc (W #[S X 0 0] 76 (0,0))).alloc (W #[Z .i64 0] 28 (0,0));simp only [World.size_alloc] at i;have K:=ae B;have J:=ae z;clear h B z;unfold fS;refine (callsIn_wide (n:=9)).1 ?_;refine callsIn_of_wp_marks func91 rfl trivial ?_ rfl;simp only [ntmps91,List.size_toArray,List.length_cons,List.length_nil,Nat.reduceAdd,Nat.reduceSub,Array.replicate_succ,Array.replicate_zero,List.push_toArray,List.append_toArray,O1,List.cons_append];have q:=i.aw.cell 0;have r:=i.aw.cell 1;simp at q r;refine wpIn_wide.2 ?_
 go_wp2_with fail
 generalize (((w.alloc (cQ b n)).alloc (W #[S X 0 0] 76 (0,0))).alloc (W #[Z .i64 0] 28 (0,0)))=w1 at *;generalize w.heap.size+1+1=g at *;generalize w.heap.size+1=d at *;generalize w.heap.size=p at *;have v:=i.to (by ac_rfl:_=dS x b A k*(pt p (cQ b n)*(pt d (W #[S X 0 0] 76 (0,0))*(pt g (W #[Z .i64 0] 28 (0,0))*F))));refine (EH v J.out).mono ?_;rintro e c ⟨y,rfl,C,E,c0,d0,s,u⟩;have o:(ints y.l).size=20:=by rw [dO,Nd.cells C]
 have l:=u.alloc (W #[Z .i64 0,Z .i64 0,Z .i64 0,Z .i64 0,Z .i64 0,Z .i64 0,Z .i64 0,Z .i64 0,Z .i64 0,Z .i64 0,Z .i64 0,Z .i64 0,Z .i64 0,Z .i64 0,Z .i64 0,Z .i64 0,Z .i64 0,Z .i64 0,Z .i64 0,Z .i64 0] 65 (0,0));have P:=ae l.heap;have m:=l.setRow (cs':=ints y.l);have G:=ae (((t.trans s).alloc (W #[Z .i64 0,Z .i64 0,Z .i64 0,Z .i64 0,Z .i64 0,Z .i64 0,Z .i64 0,Z .i64 0,Z .i64 0,Z .i64 0,Z .i64 0,Z .i64 0,Z .i64 0,Z .i64 0,Z .i64 0,Z .i64 0,Z .i64 0,Z .i64 0,Z .i64 0,Z .i64 0] 65 (0,0))).setRow c.heap.size (ints y.l));have O:Hid ((ints y.l).all (·.oneCell')=Z'):=by simp [RowKit.Hid,ints,Value.oneCell']
 have N:Hid ((prog.info? 65).map (·.size)=Y (ints y.l).size):=by show _=_;rw [o];exact bE
 have M:=ae o;have n0:((c.alloc (W #[Z .i64 0,Z .i64 0,Z .i64 0,Z .i64 0,Z .i64 0,Z .i64 0,Z .i64 0,Z .i64 0,Z .i64 0,Z .i64 0,Z .i64 0,Z .i64 0,Z .i64 0,Z .i64 0,Z .i64 0,Z .i64 0,Z .i64 0,Z .i64 0,Z .i64 0,Z .i64 0] 65 (0,0))).setRow c.heap.size (ints y.l)).cell? ⟨c.heap.size,0,X⟩=Y (Z .i64 1):=by rw [<- K.out,<- E];exact m.cell 0
 have a:=m.to (by ac_rfl:_=pt d (W #[S X 0 0] 76 (0,0))*(pt g (W #[Z .i64 0] 28 (0,0))*((dS x b A k*F)*(pt c.heap.size (W (ints y.l) 65 (0,0))*pt p (cQ b n)))));have z0:=a.cell 0;have z1:=a.ah.cell 0;have f0:=a.frozen 0;have f1:=a.ah.frozen 0;have b0:¬ (d=g):=ag.ne a;have e0:¬ (g=d):=fun h=>b0 h.symm;have I:=ae ((a.setCell 0 (S X 0 0)).ah.setCell 0 (Z .i64 8));have H:=ae ((G.out.setCell ⟨d,0,X⟩ (S X 0 0)).setCell ⟨g,0,X⟩ (Z .i64 8));simp at z0 z1;clear i v u l m a o C E c0 d0 s t q r
 go_wp2_with (refine wpList_store_row (by exact rfl) 65 (.tmp 6) (.tmp 15) (by exact rfl) c.heap.size (ints y.l) (by exact rfl) (by exact rfl) 65 _ (by with_reducible exact P.out) N.out (by rw [M.out];rfl) O.out ?_)
 have j:=I.out.ah;simp only [List.setIfInBounds_toArray,List.set_cons_zero] at j;refine ⟨_,oK rfl rfl j,rfl,H.out,?_⟩;exact (j.to (by ac_rfl:_=(pt d (W #[S X 0 0] 76 (0,0))*(pt g (W #[Z .i64 8] 28 (0,0))*(pt c.heap.size (W (ints y.l) 65 (0,0))*pt p (cQ b n))))*(dS x b A k*F))).right
theorem GF (h:ag w (dS x b A k*F)) (d:A id=Y f) (g:f.kd=1) :
  Calls R 102 #[fS b n,Z .i64 (id:Int),V (str nm)] w (YI x b A k 0 8 F w):=by
 refine aJ fun q l=>?_;have a:=h.alloc (cQ b n);have o:=ae ((aj.refl w).alloc (cQ b n));have i:=ae (FX a.ah d g);have s:(w.alloc (cQ b n)).cell? ⟨w.heap.size,0,X⟩=Y (U (Y ⟨b,0,X⟩)):=a.cell 0;clear h a d g;unfold fS
 go_enter func102,ntmps102
 go_wp2_with fail
 refine i.out.mono ?_;generalize w.alloc (cQ b n)=t at *;generalize w.heap.size=p at *;rintro r u ⟨rfl,m,c⟩;have j:=ae (c.to (by ac_rfl:_=pt p (cQ b n)*(dS x b A k*F))).right;clear i c
 go_wp2_with fail
 exact l.out _ _ ⟨by simp,o.out.trans m,j.out⟩
end
def _root_.Go.SL.Dj (w:Q) (v:Value) (l:List (List UInt8)):Prop:=
 (∃ x c,v = S x 0 c/\l=[])\/∃ g o c,v = S (Y ⟨g,o,X⟩) l.length c/\l.length<=c/\c<=maxLen/\∀ k,k<l.length->w.cell? ⟨g,o+k,X⟩=Y (V (str (l.getD k [])))
section
variable {n:Nat} {x:Fx n} {b k id:Nat} {T:Tr} {w:Q} {D F:ai} {nm:List UInt8}
theorem xL (j:Tidy n T) {y:tQ} (a:T id=Y y) (h:ag w (dS x b (fR T) k*F)) :
  Calls R 102 #[fS b n,Z .i64 (id:Int),V (str nm)] w (YI x b (fR T) k ((ee (T id) nm).2:Nat) (ee (T id) nm).1 F w):=by
 cases y with
 | file f=>rw [a];exact GF h (ld a) (j.files _ _ a)
 | dir L=>
  have d:=j.pC _ _ a;rw [a]
  cases c:iz L nm with
  | none=>rw [mu c];exact OH h (kJ a) d.ok d.len c
  | some i=>
   rw [jS c];have g:=vq c;have:=KR h (kJ a) d.ok d.len c g;rw [show L.getD i aH.no=L[i] by rw [B1,H1 g];rfl];exact this
def Tm (n:Nat) (T:Tr) (ps:List (List UInt8)) (P:ai) (w0:Q) (u v:Value) (wr:Q):Prop:=
 ∃ (j id:Nat) (y:tQ),j<=ps.length/\u = Z .i64 (j:Int)/\v = Z .i64 (id:Int)/\T id=Y y/\aT T 1 ps=aT T id (ps.drop j)/\aj w0 wr/\ag wr P
theorem drop_cons {ps:List (List UInt8)} {j:Nat} (h:j<ps.length):ps.drop j=ps.getD j [] :: ps.drop (j+1):=by
 rw [List.drop_eq_getElem_cons h,B1,H1 h];rfl
theorem I1 (y:Tidy n T) {v:Value} {ps:List (List UInt8)} (hl:ps.length<=1000) (s:∀ d0 r0,ag d0 (D*r0)->Dj d0 v ps) (f0:ag w (dS x b (fR T) k*(D*F))) :
  Calls R 80 #[fS b n,v] w (YI x b (fR T) k ((aT T 1 ps).2:Nat) (aT T 1 ps).1 (D*F) w):=by
 refine aJ fun G0 G=>?_;have r:=(f0.alloc (cQ b n)).to (by ac_rfl:_=D*(dS x b (fR T) k*(pt w.heap.size (cQ b n)*F)));have dA:=(aj.refl w).alloc (cQ b n);obtain ⟨L0,l0⟩:=y.root
 obtain ⟨va,vc,rfl⟩:∃ a c,v = S a ps.length c:=by
  rcases s _ _ r with ⟨a,c,rfl,rfl⟩|⟨e0,p0,c,rfl,-⟩
  .exact ⟨a,c,rfl⟩
  .exact ⟨_,_,rfl⟩
 have E:=ae r;have B:=ae dA;have HD:=ae s;have J:=ae y;have H:=ae l0;obtain ⟨m,t⟩:∃ m,ps.length=m:=⟨_,rfl⟩
 have d:=ae t;have N0:(m:Int)<=1000:=by omega
 rw [t];clear f0 r dA s y l0 t hl;unfold fS
 go_enter func80,ntmps80
 go_wp2_with fail
 go_loopw [6,13] (fun F0 v wr=>Tm n T ps (D*(dS x b (fR T) k*(pt w.heap.size (cQ b n)*F))) w v F0 wr) (fun _ v _=>m-(intOf v).toNat)
 case atStart=>exact ⟨0,1,_,Nat.zero_le _,rfl,rfl,H.out,rfl,B.out,E.out⟩
 case round=>
  obtain ⟨j,id,R0,hj,rfl,rfl,l,i,p,h⟩:=hrel;rw [d.out] at hj;have I:=ae h;have K:=ae i;have N:=ae l;have c0:wr.cell? ⟨w.heap.size,0,X⟩=Y (U (Y ⟨b,0,X⟩)):=h.aw.cell 0;have c1:wr.cell? ⟨w.heap.size,1,X⟩=Y (Z .i64 (n:Int)):=h.aw.cell 1;clear E B H
  by_cases u0:j<m
  .have K0:(j:Int)<(m:Int):=by omega
   obtain ⟨nm,u⟩:∃ nm,ps.getD j []=nm:=⟨_,rfl⟩
   rcases HD.out _ _ h with ⟨a,c,e,e2⟩|⟨e0,p0,c,e,s0,g0,h0⟩
   .rw [e2] at d;exact absurd u0 (by have:=d.out;simp at this;omega)
   simp only [Value.slice.injEq] at e;obtain ⟨rfl,-,rfl⟩:=e;have H0:wr.cell? ⟨e0,p0+j,X⟩=Y (V (str nm)):=by rw [<- u];exact h0 j (by have:=d.out;omega)
   have k1:(m:Int)<=(vc:Int):=by have:=d.out;omega
   have k2:(vc:Int)<=9223372036854775807:=by unfold maxLen at g0;omega
   have i0:ps.drop j=nm :: ps.drop (j+1):=by rw [<- u];exact drop_cons (by have:=d.out;omega)
   have m0:aT T 1 ps=aT T id (nm :: ps.drop (j+1)):=by rw [<- i0];exact i
   have hf:=xL (nm:=nm) J.out l (h.to (by ac_rfl:_=dS x b (fR T) k*(D*(pt w.heap.size (cQ b n)*F))));have o0:=fun g=>(iP (T:=T) (id:=id) (nm:=nm) (ps:=ps.drop (j+1)) g)
   have k0:=fun g=>(rj (T:=T) (id:=id) (nm:=nm) (ps:=ps.drop (j+1)) g)
   have j0:=fun g=>J.out.find l (nm:=nm) g;have q:=ae hf;have b0:=ae o0;have P:=ae k0;have O:=ae j0;have M:=ae m0;have o:=ae p;generalize hq:ee (T id) nm=D0 at *;obtain ⟨c',x0⟩:=D0;dsimp only at q b0 P O;clear h i l hf o0 k0 j0 h0 s0 g0 i0 m0 u I K N p hq
   go_wp2_with fail
   refine q.out.mono ?_;rintro e w2 ⟨rfl,d2,h2⟩;have C:=ae h2;have z:=ae (o.out.trans d2);clear h2 d2 q o
   by_cases g:c'=0
   .subst g
    obtain ⟨y',n0⟩:=O.out rfl;have Hy:=ae n0;clear n0
    go_wp2_with fail
    go_roundw
    case rel=>exact ⟨j+1,x0,y',by rw [d.out];omega,by go_num,rfl,Hy.out,M.out.trans (b0.out trivial),z.out,C.out.to (by ac_rfl)⟩
    case measure=>simp [intOf];omega
   .go_wp2_with fail
    have e:=M.out.trans (P.out g);refine G.out _ _ ⟨by rw [e];rfl,z.out,?_⟩;exact (C.out.to (by ac_rfl:_=pt w.heap.size (cQ b n)*(dS x b (fR T) k*(D*F)))).right
  .obtain rfl:j=m:=by omega
   have e:aT T 1 ps=(0,id):=by rw [i,<- d.out,List.drop_length];rfl
   have q0:=ae e;have o:=ae p;clear h i l e p K N
   go_wp2_with fail
   refine G.out _ _ ⟨by rw [q0.out];rfl,o.out,?_⟩;exact (I.out.to (by ac_rfl:_=pt w.heap.size (cQ b n)*(dS x b (fR T) k*(D*F)))).right
end
end Go.Proofs.Fs
namespace Go.SL
open RowKit
theorem xz {c:Type} (z:c):∀ (L:List c) (i:Nat),i<L.length->(L.set i z).Perm (z :: L.eraseIdx i)
 | [],i,h=>absurd h (Nat.not_lt_zero _)
 | a :: L,0,_=>List.Perm.refl _
 | a :: L,i+1,h=>by
  have:=xz z L i (by simpa using h);exact (this.cons a).trans (List.Perm.swap z a _)
theorem JW {L:List aH} {i:Nat} (a:i<L.length):(kZ L i).Perm (L.eraseIdx i):=by
 obtain ⟨M,z,rfl⟩:∃ M z,L=M++[z]:=by
  rcases List.eq_nil_or_concat L with rfl|⟨M,z,h⟩
  .simp at a
  .exact ⟨M,z,by rw [h,List.concat_eq_append]⟩
 have c:(M++[z]).length-1=M.length:=by simp
 unfold kZ;rw [c,show (M++[z]).getD M.length aH.no=z by simp [B1]];rw [A1,D1] at a
 by_cases h:i=M.length
 .subst h
  rw [List.set_append_right _ _ (L1 _),Nat.sub_self,List.set_cons_zero,List.take_left',List.eraseIdx_append_of_length_le (L1 _)]
  .simp
  .rfl
 .rw [List.set_append_left _ _ (by omega),List.take_left' (by rw [E1]),List.eraseIdx_append_of_lt_length (by omega)]
  exact (xz z M i (by omega)).trans (List.perm_append_singleton z _).symm
theorem RQ {L:List aH} {e:aH} (o:(L.map aH.nm).Nodup) (g:e ∈ L):∃ i,iz L e.nm=Y i/\L[i]?=Y e:=by
 cases a:iz L e.nm with
 | none=>
  unfold iz at a;rw [U1] at a;exact absurd (a e g) (by simp)
 | some i=>
  refine ⟨i,rfl,?_⟩;unfold iz at a;rw [T1] at a;obtain ⟨c,m,-⟩:=a;obtain ⟨j,l,rfl⟩:=List.getElem_of_mem g;have d:L[i].nm=L[j].nm:=by simpa using m
  have:i=j:=by
   have:=(List.nodup_iff_pairwise_ne.1 o)
   rw [List.pairwise_iff_getElem] at this;rcases Nat.lt_trichotomy i j with h|h|h
   .exact absurd (by rw [N1,N1];exact d) (this i j (by simpa using c) (by simpa using l) h)
   .exact h
   .exact absurd (by rw [N1,N1];exact d.symm) (this j i (by simpa using l) (by simpa using c) h)
  subst this;rw [H1 c]
theorem QJ {L:List aH} {nm:List UInt8} (h:∀ e ∈ L,e.nm≠nm):iz L nm=X:=by
 unfold iz;rw [U1];exact fun e a=>decide_eq_false (h e a)
end Go.SL

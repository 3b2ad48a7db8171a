/- Steps. -/
import Derived.Test.YtiomanbgcfjblaaGreatDoorLP35
import Derived.Test.YtiomanbgcfjblaaGreatDoorLP19
set_option linter.all false
set_option maxRecDepth 99999
set_option maxHeartbeats 0
open Go.SL
open Go.Value renaming int->Z,slice->S,pointer->Q,string->X
open Go.IntKind renaming i64->Y
open Go.Obj renaming cells->V
open Go renaming World->P
open Go.Proofs.Tryz renaming prog->R
open Option renaming some->W,none->U
open Go.SL renaming Om0->Z'
open Go.Proofs.Tryz
open List renaming length_append->A1,length_singleton->B3,range->D9,getD->D6,nil_append->D4,getElem?_append_left->D2,getElem?_eq_getElem->D1,getElem?_eq_none->E5
namespace Go.SL
open RowKit
def QV {e:aM} (h:e.ok=true):bB 32 ((cO e.nd 2++cO e.nm.length 1)++e.nm)=e.enc:=by
 have a:=q9.1 (aM.mZ.1 h).2.2;unfold bB aM.enc;rw [List.take_append,List.take_of_length_le (by simp only [A1,aT];omega)];simp only [List.append_assoc];congr 3;unfold zs;rw [List.take_replicate];congr 1;simp only [A1,aT];omega
end Go.SL
namespace Go.Proofs.Fs
open RowKit SL Proofs.Ba
def VF (e:aM) (w0:P) (F:ai) (v u:Value) (wr:P):Prop:=
 ∃ k:Nat,k<=1/\u = Z Y (k:Int)/\ak w0 wr/\ah wr (bs 5 v (if k=0 then [] else e.enc)*F)
def XY (l:List UInt8) (F:ai) (w:P) (e:Ending) (a:P):Prop:=∃ v,e = .returned (.tuple #[v,Z Y 0])/\ah a (bs 5 v l*F)/\ak w a
def C3 (w:P) (g:Nat) (j:Nat × Nat) (e:aM) (N:e.ok=true) (F:ai) (k0:ah w (pt g (V #[Z Y (e.nd:Int),X (str e.nm)] 90 j)*F)) :
  Calls R 288 #[S (W ⟨g,0,U⟩) 1 1] w (XY (bB 480 e.enc) (pt g (V #[Z Y (e.nd:Int),X (str e.nm)] 90 j)*F) w):=by
 refine aK fun W0 HQ=>?_;obtain ⟨o1,o2,o3⟩:=aM.mZ.1 N;have S0:=q9.1 o3;have u0:ah w (bs 5 (S U 0 0) []*(pt g (V #[Z Y (e.nd:Int),X (str e.nm)] 90 j)*F)):=k0.dR _ _;have e0:=ae u0;have B:=ae N;have q1:(e.nd:Int)<=3839:=Z'
 have q0:(0:Int)<=(e.nd:Int):=Z'
 obtain ⟨m,hm⟩:∃ m,e.nm.length=m:=⟨_,rfl⟩
 have a1:m<=28:=Z'
 have b1:(m:Int)<=28:=Z'
 have M:=ae hm;have N0:=iV e.nm;rw [hm] at N0;clear k0 u0 N o3 S0 hm
 go_in
 go_wp2_with fail
 go_loopw [4,13] (fun v b0 wr=>VF e w (pt g (V #[Z Y (e.nd:Int),X (str e.nm)] 90 j)*F) v b0 wr) (fun _ b0 _=>1-(intOf b0).toNat)
 case atStart=>exact ⟨0,De0,rfl,ak.refl w,e0.o⟩
 case round=>
  obtain ⟨k,hk,rfl,s0,a⟩:=hrel;clear e0
  by_cases L0:k=0
  .subst L0
   rw [if_pos rfl] at a;have c0:wr.cell? ⟨g,0,U⟩=W (Z Y (e.nd:Int)):=a.aj.cell 0;have c1:wr.cell? ⟨g,1,U⟩=W (X (str e.nm)):=a.aj.cell 1;have hA:=a.alloc (V #[Z Y (e.nd:Int),X (str e.nm)] 90 (0,0));have dA:=ae (s0.alloc (V #[Z Y (e.nd:Int),X (str e.nm)] 90 (0,0)));have hr:=vg (wr.alloc (V #[Z Y (e.nd:Int),X (str e.nm)] 90 (0,0))) e;rw [B.o] at hr;have Hr:=ae hr;have HA:=ae hA;have R0:=az a;obtain ⟨p,q,rfl⟩:=R0;clear a hA hr
   go_wp2_with fail
   refine Hr.o.mono ?_;generalize wr.alloc (V #[Z Y (e.nd:Int),X (str e.nm)] 90 (0,0))=w1 at *;generalize wr.heap.size=i at *;rintro r w2 ⟨rfl,h2,d2⟩;have H:=h2.cU HA.o;have D3:=ae (dA.o.trans d2);have t0:w2.cell? ⟨i,0,U⟩=W (Z Y (e.nd:Int)):=H.cell 0;have t1:w2.cell? ⟨i,1,U⟩=W (X (str e.nm)):=H.cell 1;have o:=fA w2 (S U 0 0) [] 2 (e.nd:Int) ⟨rfl,.inl ⟨rfl,rfl⟩⟩ De0 De0 Z' Z';rw [D4] at o;have Hp:=ae o;have H3:=ae H;clear o H h2 Hr HA c0 c1 d2 dA
   go_wp2_with fail
   refine Hp.o.mono ?_;rintro r w4 ⟨v4,rfl,h4,d4⟩;have h5:=h4.under H3.o;have D5:=ae (D3.o.trans d4);have t0:w4.cell? ⟨i,0,U⟩=W (Z Y (e.nd:Int)):=h5.aj.cell 0;have t1:w4.cell? ⟨i,1,U⟩=W (X (str e.nm)):=h5.aj.cell 1;have o:=fA w4 v4 (cO e.nd 2) 1 (m:Int) h5.ny (by rw [aT];omega) De0 Z' Z';have f0:=ae o;have H5:=ae h5;obtain ⟨T0,V0,rfl⟩:=az h5;clear o h4 h5 Hp H3 D3 d4
   go_wp2_with fail
   refine f0.o.mono ?_;rintro r w6 ⟨v6,rfl,h6,d6⟩;have l:=h6.under H5.o;obtain ⟨h,J⟩:∃ h,cO (e.nd:Int) 2++cO (m:Int) 1=h:=⟨_,rfl⟩
   have z:h.length=3:=by rw [<- J,A1,aT,aT]
   rw [J] at l;have d0:=ae J;have D7:=D5.o.trans d6;have t0:w6.cell? ⟨i,0,U⟩=W (Z Y (e.nd:Int)):=l.au.cell 0;have t1:w6.cell? ⟨i,1,U⟩=W (X (str e.nm)):=l.au.cell 1;obtain ⟨i0,hi,hz,r0,n0⟩:=info_parts gW;obtain ⟨v7,K,d,I,d8⟩:=ah.Qo (P:=R) (t:=23) (u:=9) (ty:=23) underlying23 underlying9 hi hz r0 n0 l e.nm (by rw [M.o,z];omega);have D8:=ae (D7.trans d8);obtain ⟨e1,f1,rfl⟩:=az l;have c:=oU K v7 _ I.ny 32 De0;have p0:bB 32 (h++e.nm)=e.enc:=by rw [<- d0.o,<- M.o];exact QV B.o
   rw [p0] at c;obtain ⟨x0,D0,rfl⟩:=az I;have o0:(h++e.nm).length=3+m:=by rw [A1,z,M.o]
   rw [o0] at c d;rw [z] at d;have y:Calls R 230 #[S x0 (3+m) D0,Z Y 32] K (zQ e.enc K):=c
   have m0:ah K (bs 5 (S p 0 q) []*(pt g (V #[Z Y (e.nd:Int),X (str e.nm)] 90 j)*F)):=by
    exact (I.to (by ac_rfl:_=(bs 5 (S x0 (h++e.nm).length D0) (h++e.nm)*(bs 5 (S T0 (cO (e.nd:Int) 2).length V0) (cO (e.nd:Int) 2)*pt i (V #[Z Y (e.nd:Int),X (str e.nm)] 90 (0,0))))*(bs 5 (S p 0 q) []*(pt g (V #[Z Y (e.nd:Int),X (str e.nm)] 90 j)*F)))).right
   have s:=ae y;have g0:=ae d;have H8:=ae m0;rw [z];clear hi hz r0 n0 c y d I m0 l h6 H5 f0 D5 D7 d6 d8 p0 o0 z J
   go_wp2_with (at_builtin;refine qa g0.o _ _ rfl rfl rfl rfl rfl ?_)
   refine s.o.mono ?_;rintro r w9 ⟨v9,rfl,t,C⟩;have u:=aM.cV B.o;have E:=t.under H8.o;obtain ⟨g1,h1,rfl⟩:=az E;have O:=u;obtain ⟨d1,i1,d,G,h0,Y0,Z0,rfl⟩:=gx (l:=[]) (m:=e.enc) (v:=S p 0 q) (E.aj) E.ny De0 Z';rw [D4] at G;simp only [List.length_nil,Nat.zero_add,O] at d G;have K0:=ae d;have F0:=ae ((D8.o.trans C).trans h0);have l0:=G.fT;have H0:=ae l0;rw [O];clear g0 d G l0 E t H8 s D8 C h0 u O d0
   go_wp2_with (at_builtin;refine wpList_append_run K0.o _ _ rfl rfl rfl rfl rfl ?_)
   go_roundw
   case rel=>exact ⟨1,Nat.le_refl _,by go_num,F0.o,by rw [if_neg De0];exact H0.o⟩
   case measure=>simp [intOf]
  .obtain rfl:k=1:=Z'
   rw [if_neg De0] at a;have u:=aM.cV B.o;obtain ⟨p,q,rfl⟩:=az a;have c:=oU wr (S p e.enc.length q) e.enc a.ny 480 De0;rw [u] at c ⊢;have y:Calls R 230 #[S p 32 q,Z Y 480] wr (zQ (bB 480 e.enc) wr):=c;have s:=ae y;have HS:=ae a.right;clear c y a u
   go_wp2_with fail
   refine s.o.mono ?_;rintro r w9 ⟨v9,rfl,t,C⟩;have G0:=ae (t.under HS.o);clear t s
   go_wp2_with fail
   exact HQ.o _ _ ⟨v9,Si0,G0.o,s0.trans C⟩
end Go.Proofs.Fs
namespace Go.SL
open RowKit
def iJ (lk:Int) (L:List aM):AF:=⟨2,lk,32*L.length,fun p=>(ee L).getD p 0,fun i=>decide (15*i<L.length)⟩
def P8:kO 2=iJ 1 []:=by
 unfold kO iJ;congr 1
abbrev DP (L:List aM):Prop:=∀ e ∈ L,e.ok=true
def BQ {L:List aM} {e:aM} (h:DP L) (c:e.ok=true):DP (L++[e]):=fun x d=>by
 rcases List.mem_append.1 d with a|a
 .exact h x a
 .rw [List.mem_singleton.1 a];exact c
def j0 {lk:Int} {L:List aM} (h:DP L) (a:L.length<=3840):Lz (iJ lk L) L:=⟨rfl,rfl,h,fun p _=>rfl,a⟩
def sk:∀ {L:List aM} (_:DP L) (p:Nat),(ee L).getD p 0=((L[p/32]?).map fun e=>e.enc.getD (p%32) 0).getD 0
 | [],_,p=>by simp [ee]
 | e :: L,h,p=>by
  have g:=aM.cV (h e List.mem_cons_self);have d:ee (e :: L)=e.enc++ee L:=rfl;rw [d]
  by_cases l:p<32
  .have a:p/32=0:=Z'
   have c:p%32=p:=Z'
   rw [a,c,List.getElem?_cons_zero,Option.map_some,Option.getD_some,D6,D2 Z'];rfl
  .have j:=sk (L:=L) (fun x i=>h x (List.mem_cons_of_mem _ i)) (p-32)
   have a:p/32=(p-32)/32+1:=Z'
   have c:p%32=(p-32)%32:=Z'
   rw [a,c,List.getElem?_cons_succ,<- j,D6,List.getElem?_append_right Z',g];rfl
def L7 {f:AF} {lk:Int} {L:List aM} (g:f.kd=2) (h:f.lk=lk) (j:f.sz=32*L.length) (h4:∀ p,f.ti p=(ee L).getD p 0) (h5:∀ i,f.pr i=decide (15*i<L.length)):f=iJ lk L:=by
 obtain ⟨a,b,c,d,e⟩:=f;dsimp only at g h j h4 h5;subst g h j;unfold iJ;congr 1
 .funext p;exact h4 p
 .funext p;exact h5 p
def wJ {lk:Int} {L:List aM} {e:aM} (h:DP L) (c:e.ok=true):(iJ lk L).wr (32*L.length) e.enc=iJ lk (L++[e]):=by
 have a:=aM.cV c;refine L7 rfl rfl ?_ (fun p=>?_) fun i=>?_
 .show (if e.enc.length=0 then 32*L.length else max (32*L.length) (32*L.length+e.enc.length))=_
  rw [if_neg Z',a,A1,B3];omega
 .show (if 32*L.length<=p/\p<32*L.length+e.enc.length then e.enc.getD (p-32*L.length) 0 else (ee L).getD p 0)=_
  rw [sk (BQ h c),sk h,a]
  split
  .rename_i l
   have d:p/32=L.length:=Z'
   have g:p%32=p-32*L.length:=Z'
   rw [d,g];simp
  .rename_i l
   by_cases j:p/32<L.length
   .rw [D2 j]
   .rw [E5 Z',E5 (by rw [A1,B3];omega)]
 .show (decide (15*i<L.length) || cP (32*L.length) e.enc.length i)=decide (15*i<(L++[e]).length)
  rw [a,A1,B3,Bool.eq_iff_iff,Bool.or_eq_true,cI,decide_eq_true_iff,decide_eq_true_iff];omega
def nk (f:Nat):∀ m,(D9 m).countP (fun i=>decide (i<f))=min f m
 | 0=>Si0
 | m+1=>by
  rw [List.range_succ,List.countP_append,nk f m];simp only [List.countP_cons,List.countP_nil,Nat.zero_add]
  by_cases h:m<f
  .rw [if_pos (decide_eq_true h)];omega
  .rw [if_neg (by simpa using h)];omega
def cE (l:Nat):Nat:=1+(l+14)/15+if 240<l then 1 else 0
def oH {lk:Int} {L:List aM} (g:L.length<=3840):cF (iJ lk L).pr=cE L.length:=by
 unfold cF cE
 have c:lJ (iJ lk L).pr=(L.length+14)/15:=by
  have:lJ (iJ lk L).pr=lJ fun i=>decide (i<(L.length+14)/15):=qz fun i _=>by
   show decide (15*i<L.length)=_
   rw [Bool.eq_iff_iff,decide_eq_true_iff,decide_eq_true_iff];omega
  rw [this];unfold lJ;rw [nk];omega
 rw [c];congr 1
 by_cases h:240<L.length
 .rw [if_pos h,if_pos (gT.2 ⟨16,Z',Z',decide_eq_true Z'⟩)]
 .rw [if_neg h,if_neg]
  intro a;obtain ⟨i,d,h4,h5⟩:=gT.1 a;have:15*i<L.length:=of_decide_eq_true h5;omega
def UE {w:P} {o:Option Addr} {g n m:Nat} {l:List UInt8} (r:l.length=m) (v:m<=n) (h:Rd w (S o n g) (bB n l)):Rd w (S o m g) l:=by
 obtain ⟨t,p⟩:=h;rcases p with ⟨d,h4⟩|⟨a,c,d,h4⟩
 .rw [bT] at h4
  simp only [Value.slice.injEq] at d;obtain ⟨rfl,rfl,rfl⟩:=d;have s:l.length=0:=Z'
  obtain rfl:m=0:=Z'
  exact ⟨Si0,.inl ⟨rfl,s⟩⟩
 .simp only [Value.slice.injEq] at d
  obtain ⟨rfl,-,rfl⟩:=d;refine ⟨Si0,.inr ⟨a,g,by rw [r],fun j u i=>h4 j u ?_⟩⟩
  have q:j<l.length:=by
   have:=List.getElem?_eq_some_iff.1 i;obtain ⟨h5,_⟩:=this
   rwa [List.length_map] at h5
  rw [List.getElem?_map] at i ⊢;rw [<- i];unfold bB;rw [List.getElem?_take,if_pos Z',D2 q]
end Go.SL
namespace Go.Proofs.Fs
open RowKit SL Proofs.Ba
section
variable {n:Nat} {x x':Fx n} {b k id:Nat} {A:Nat->Option AF} {f:AF} {lk:Int} {L:List aM} {w:P} {F:ai}
def BX (e:aM) (y:e.ok=true) (m:Nat) (i0:m<=3840) {r:Nat->Option AF} {s:Nat} {c:Int} (h:ah w (eK x b A k*F))
  (l:∀ (t:P) (q:Option Addr) (d:Nat) (D G:ai),(∀ g o,ah g (D*o)->Rd g (S q e.enc.length d) e.enc)->e.enc.length<=d->ah t (eK x b A k*(D*G)) ->
   Calls R 68 #[iH b n,Z Y (id:Int),Z Y ((32*m:Nat):Int),S q e.enc.length d] t (YE x' b r s c (D*G) t)) :
  Calls R 225 #[iH b n,Z Y (id:Int),Z Y (m:Int),.agg #[Z Y (e.nd:Int),X (str e.nm)]] w (YE x' b r s c F w):=by
 refine aK fun f0 HQ=>?_;have z:=aM.cV y;rw [z] at l;have J:((32*m:Nat):Int)=(m:Int)*32:=Z'
 rw [J] at l;have u:=((h.alloc (dx b n)).alloc (V #[Z Y (e.nd:Int),X (str e.nm)] 90 (0,0))).alloc (V #[Z Y (e.nd:Int),X (str e.nm)] 90 (0,0));have dA:=ae ((((ak.refl w).alloc (dx b n)).alloc (V #[Z Y (e.nd:Int),X (str e.nm)] 90 (0,0))).alloc (V #[Z Y (e.nd:Int),X (str e.nm)] 90 (0,0)));simp only [World.size_alloc] at u;have b0:=C3 _ _ _ e y _ u;have E:=ae b0;have H:=ae l;have HL:=ae z;have HE:=ae y;clear h l z J b0 u;unfold iH
 go_in
 go_wp2_with fail
 apply E.o.mono;generalize ((w.alloc (dx b n)).alloc (V #[Z Y (e.nd:Int),X (str e.nm)] 90 (0,0))).alloc (V #[Z Y (e.nd:Int),X (str e.nm)] 90 (0,0))=t at *;generalize w.heap.size+1+1=M at *;generalize w.heap.size+1=K at *;generalize w.heap.size=i at *;rintro e0 B ⟨v,rfl,p,d2⟩;clear E;have s0:B.cell? ⟨i,0,U⟩=W (Q (W ⟨b,0,U⟩)):=p.aC.cell 0;have s1:B.cell? ⟨i,1,U⟩=W (Z Y (n:Int)):=p.aC.cell 1;have O:∀ g o,ah g (bs 5 v (bB 480 e.enc)*o)->Rd g v (bB 480 e.enc):=fun g o h=>h.ny
 obtain ⟨q,d,rfl⟩:∃ a c,v = S a 480 c:=by
  obtain ⟨a,c,e⟩:=az p;rw [bT] at e;exact ⟨a,c,e⟩
 have N:480<=d/\(d:Int)<=9223372036854775807:=by
  rcases p.cH with ⟨j,h4,_⟩|⟨h0,c,g0,j,h4,h5,h6,h7⟩
  .rw [bT] at h4;omega
  .simp only [Value.slice.injEq] at j
   obtain ⟨-,-,rfl⟩:=j;rw [bT] at h4;unfold maxLen at h5;omega
 obtain ⟨N,l0⟩:=N;have k0:(32:Int)<=(d:Int):=Z'
 have l:=H.o B.drew q d (bs 5 (S q 480 d) (bB 480 e.enc)) (pt M (V #[Z Y (e.nd:Int),X (str e.nm)] 90 (0,0))*(pt K (V #[Z Y (e.nd:Int),X (str e.nm)] 90 (0,0))*(pt i (dx b n)*F)))
  (fun g o h=>UE HL.o De0 (O g o h)) Z' (p.drew.u00)
 rw [<- (show IntKind.i64.wrap ((m:Int)*32)=(m:Int)*32 by rw [IntKind.wrap_i64];omega)] at l;have I:=ae l;clear l H p O
 go_wp2_with fail
 go_region_held3 (fun w'=>w'.cell? ⟨i,0,U⟩=W (Q (W ⟨b,0,U⟩))/\w'.cell? ⟨i,1,U⟩=W (Z Y (n:Int)))
  (first|exact ⟨s0,s1⟩|exact d0|go_keep)
  (first|(go_at_call 68;apply I.o.mono;rintro e0 C ⟨rfl,d3,j⟩;have d0:C.cell? ⟨i,0,U⟩=W (Q (W ⟨b,0,U⟩))/\C.cell? ⟨i,1,U⟩=W (Z Y (n:Int)):=⟨j.aI.cell 0,j.aI.cell 1⟩))
 rename_i c0;clear c0;have h4:ah C (eK x' b r s*F):=(j.t00 ((bs 5 (S q 480 d) (bB 480 e.enc)*(pt M (V #[Z Y (e.nd:Int),X (str e.nm)] 90 (0,0))*(pt K (V #[Z Y (e.nd:Int),X (str e.nm)] 90 (0,0))*pt i (dx b n))))*(eK x' b r s*F))).right;have H4:=ae h4;clear j h4 I
 exact Zz (HQ.o _ _ ⟨rfl,(dA.o.trans d2).drew.trans d3,H4.o⟩)
end
end Go.Proofs.Fs
namespace Go.SL
open RowKit
def Ee {L:List aM} {nm:List UInt8} {i:Nat} (h:kZ L nm=W i):i<L.length:=by
 unfold kZ at h;rw [List.findIdx?_eq_some_iff_getElem] at h;exact h.1
def zw {L:List aM} {nm:List UInt8} {i:Nat} (h:kZ L nm=W i):vM L nm=(i:Int):=by unfold vM;rw [h]
def sG {L:List aM} {nm:List UInt8} (h:kZ L nm=U):vM L nm=-1:=by unfold vM;rw [h]
end Go.SL
namespace Go.Proofs.Fs
open RowKit SL Proofs.Ba
section
variable {n:Nat} {x x':Fx n} {b k id:Nat} {A:Nat->Option AF} {f:AF} {lk:Int} {L:List aM} {w:P} {F:ai} {nm:List UInt8}
def Pc {e:aM} (a:e.ok=true) (g:DP L) (r:L.length<3840) (m:A id=W (iJ lk L)) (o:cE (L.length+1)<=k+cE L.length) (h:ah w (eK x b A k*F)) :
  Calls R 225 #[iH b n,Z Y (id:Int),Z Y (L.length:Int),.agg #[Z Y (e.nd:Int),X (str e.nm)]] w (YE (x.more 5) b (fH A id (W (iJ lk (L++[e])))) (k+cE L.length-cE (L.length+1)) 0 F w):=by
 have q:=aM.cV a;have d:=oH (lk:=lk) (L:=L) Z';have c:=oH (lk:=lk) (L:=L++[e]) (by rw [A1,B3];omega);rw [A1,B3] at c;refine BX e a L.length Z' h fun t s p D G j l i=>?_;have:=Iw m (32*L.length) j l Z' Z' (by rw [wJ g a,d,c];exact o) i;rw [wJ g a,d,c,show e.enc.length/480+5=5 by omega] at this;exact this
def RV {e:aM} (a:e.ok=true) (o:DP L) (r:L.length<3840) (l:A id=W (iJ lk L)) (m:k+cE L.length<cE (L.length+1)) (h:ah w (eK x b A k*F)) :
  Calls R 225 #[iH b n,Z Y (id:Int),Z Y (L.length:Int),.agg #[Z Y (e.nd:Int),X (str e.nm)]] w (YE x b A k 7 F w):=by
 have q:=aM.cV a;have d:=oH (lk:=lk) (L:=L) Z';have c:=oH (lk:=lk) (L:=L++[e]) (by rw [A1,B3];omega);rw [A1,B3] at c;refine BX e a L.length Z' h fun t s p D G i j g=>?_;exact PY l (32*L.length) i j Z' Z' (by rw [wJ o a,d,c];exact m) g
def Pw (h:ah w (eK x b A k*F)) (s:A id=W (iJ lk L)) (v:DP L) (p:L.length<=3840) {i:Nat} (t:kZ L nm=W i) (M:i<L.length) :
  Calls R 146 #[iH b n,Z Y (id:Int),X (str nm)] w (YI x b A k ((L[i]).nd) 0 F w):=by
 refine aK fun d0 G=>?_;have o:=h.alloc (dx b n);have J:=ae ((ak.refl w).alloc (dx b n));have z:=ae (kg o.aj s (j0 v p));have y:=zw t;obtain ⟨m,u⟩:∃ m,L.length=m:=⟨_,rfl⟩
 have c0:(w.alloc (dx b n)).cell? ⟨w.heap.size,0,U⟩=W (Q (W ⟨b,0,U⟩)):=o.cell 0;have E:=ae y;have q:=ae u;have f0:(m:Int)<=3840:=Z'
 have e0:(i:Int)<(m:Int):=Z'
 have C:=ae p;clear h o s v y u p t;unfold iH
 go_in
 go_wp2_with fail
 refine z.o.mono ?_;generalize w.alloc (dx b n)=w1 at *;generalize w.heap.size=K at *;rintro r w2 ⟨b0,rfl,H,l⟩;have d:=de w2 b0 L nm _ C.o l;unfold si at d;rw [E.o] at d;have j:=ae d;obtain ⟨ua,uc,rfl⟩:=az l;rw [q.o] at j ⊢;clear z d l
 go_wp2_with fail
 refine j.o.mono ?_;rintro r w3 ⟨rfl,a,I⟩;rw [<- q.o] at a;obtain ⟨g,c,e,e1,e2,N,O⟩:=uW a M;simp only [Value.slice.injEq] at e;obtain ⟨rfl,-,rfl⟩:=e;have B:=ae a;clear a j N O
 go_wp2_with fail
 exact G.o _ _ ⟨Si0,(J.o.trans H).trans I,(B.o.to (by ac_rfl:_=(sl 90 2 (S (W ⟨g,0,U⟩) L.length uc) L.length (bE L)*pt K (dx b n))*(eK x b A k*F))).right⟩
def Rg (h:ah w (eK x b A k*F)) (l:A id=W (iJ lk L)) (q:DP L) (i:L.length<=3840) (o:kZ L nm=U) :
  Calls R 146 #[iH b n,Z Y (id:Int),X (str nm)] w (YI x b A k 0 5 F w):=by
 refine aK fun N C=>?_;have g:=h.alloc (dx b n);have H:=ae ((ak.refl w).alloc (dx b n));have t:=ae (kg g.aj l (j0 q i));have s:=sG o;obtain ⟨m,p⟩:∃ m,L.length=m:=⟨_,rfl⟩
 have O:(w.alloc (dx b n)).cell? ⟨w.heap.size,0,U⟩=W (Q (W ⟨b,0,U⟩)):=g.cell 0;have B:=ae s;have z:=ae p;have b0:(m:Int)<=3840:=Z'
 have y:=ae i;clear h g l q s p i o;unfold iH
 go_in
 go_wp2_with fail
 refine t.o.mono ?_;generalize w.alloc (dx b n)=w1 at *;generalize w.heap.size=I at *;rintro r M ⟨u,rfl,E,d⟩;have a:=de M u L nm _ y.o d;unfold si at a;rw [B.o] at a;have c:=ae a;obtain ⟨J,K,rfl⟩:=az d;rw [z.o] at c ⊢;clear t a d
 go_wp2_with fail
 refine c.o.mono ?_;rintro r w3 ⟨rfl,j,G⟩;have v:=ae j;clear j c
 go_wp2_with fail
 exact C.o _ _ ⟨Si0,(H.o.trans E).trans G,(v.o.to (by ac_rfl:_=(sl 90 2 (S J m K) m (bE L)*pt I (dx b n))*(eK x b A k*F))).right⟩
def KB {a:Nat} (M:1<=a) (N:a<=3839) (h:ah w (eK x b A k*F)) (s:A id=W (iJ lk L)) (y:DP L) (l:L.length<=3840) (t:cG nm=true) {i:Nat} (o:kZ L nm=W i) :
  Calls R 147 #[iH b n,Z Y (id:Int),X (str nm),Z Y (a:Int)] w (YE x b A k 6 F w):=by
 refine aK fun b0 G=>?_;have j:=h.alloc (dx b n);have J:=ae ((ak.refl w).alloc (dx b n));have z:=ae (kg j.aj s (j0 y l));obtain ⟨m,v⟩:∃ m,L.length=m:=⟨_,rfl⟩
 have c0:(w.alloc (dx b n)).cell? ⟨w.heap.size,0,U⟩=W (Q (W ⟨b,0,U⟩)):=j.cell 0;have E:=ae v;have O:=ae (zw o);have e0:(m:Int)<=3840:=Z'
 have d0:(i:Int)<(m:Int):=by have:=Ee o;omega
 have C:=ae l;have p:=ae fun w=>rH w nm;rw [t] at p;have g1:¬ ((a:Int)<1):=Z'
 have g2:¬ ((3839:Int)<(a:Int)):=Z'
 clear h j s y v l t o M N;unfold iH
 go_in
 go_wp2_with fail
 refine z.o.mono ?_;generalize w.alloc (dx b n)=w1 at *;generalize w.heap.size=K at *;rintro r w2 ⟨u,rfl,H,g⟩;have c:=de w2 u L nm _ C.o g;unfold si at c;rw [O.o] at c;have d:=ae c;obtain ⟨ua,uc,rfl⟩:=az g;rw [E.o] at d ⊢;clear z g c
 go_wp2_with fail
 refine (p.o _).mono ?_;rintro r w3 ⟨rfl,rfl⟩
 go_wp2_with fail
 refine d.o.mono ?_;rintro r w3 ⟨rfl,q,I⟩;have B:=ae q;clear q d
 go_wp2_with fail
 exact G.o _ _ ⟨Si0,(J.o.trans H).trans I,(B.o.to (by ac_rfl:_=(sl 90 2 (S ua m uc) m (bE L)*pt K (dx b n))*(eK x b A k*F))).right⟩
def GV {a:Nat} {o:Nat->Option AF} {v:Nat} {c:Int} (d0:1<=a) (e0:a<=3839) (h:ah w (eK x b A k*F)) (B:A id=W (iJ lk L)) (H:DP L) (E:L.length<3840) (C:cG nm=true) (I:kZ L nm=U)
  (u:∀ j G,ah j (eK x b A k*G)->Calls R 225 #[iH b n,Z Y (id:Int),Z Y (L.length:Int),.agg #[Z Y (a:Int),X (str nm)]] j (YE x' b o v c G j)) :
  Calls R 147 #[iH b n,Z Y (id:Int),X (str nm),Z Y (a:Int)] w (YE x' b o v c F w):=by
 refine aK fun h0 HQ=>?_;have s:=h.alloc (dx b n);have dA:=ae ((ak.refl w).alloc (dx b n));have J:=ae (kg s.aj B (j0 H Z'));obtain ⟨m,t⟩:∃ m,L.length=m:=⟨_,rfl⟩
 have c0:(w.alloc (dx b n)).cell? ⟨w.heap.size,0,U⟩=W (Q (W ⟨b,0,U⟩)):=s.cell 0;rw [t] at u;have b0:=ae u;have HM:=ae t;have f0:=ae (sG I);have i0:(m:Int)<3840:=Z'
 have O:Hid (L.length<=3840):=Nat.le_of_lt E;have z:=ae fun w=>rH w nm;rw [C] at z;have g1:¬ ((a:Int)<1):=Z'
 have g2:¬ ((3839:Int)<(a:Int)):=Z'
 clear h s B H t E C I d0 e0 u;unfold iH
 go_in
 go_wp2_with fail
 refine J.o.mono ?_;generalize w.alloc (dx b n)=j at *;generalize w.heap.size=d at *;rintro r w2 ⟨g0,rfl,d2,q⟩;have i:=de w2 g0 L nm _ O.o q;unfold si at i;rw [f0.o] at i;have p:=ae i;obtain ⟨K,M,rfl⟩:=az q;rw [HM.o] at p ⊢;clear J q i
 go_wp2_with fail
 refine (z.o _).mono ?_;rintro r l ⟨rfl,rfl⟩
 go_wp2_with fail
 refine p.o.mono ?_;rintro r l ⟨rfl,g,d3⟩;have c0:l.cell? ⟨d,0,U⟩=W (Q (W ⟨b,0,U⟩)):=g.au.cell 0;have c1:l.cell? ⟨d,1,U⟩=W (Z Y (n:Int)):=g.au.cell 1;have y:=ae g;clear g p
 go_wp2_with fail
 refine (b0.o l _ (y.o.to (by ac_rfl:_=eK x b A k*((sl 90 2 (S K m M) m (bE L)*pt d (dx b n))*F)))).mono ?_;rintro r w4 ⟨rfl,d4,h4⟩;have N:=ae (h4.to (by ac_rfl:_=(sl 90 2 (S K m M) m (bE L)*pt d (dx b n))*(eK x' b o v*F))).right;clear h4 y
 go_wp2_with fail
 exact HQ.o _ _ ⟨Si0,((dA.o.trans d2).trans d3).trans d4,N.o⟩
def uN {a:Nat} (c:1<=a) (d:a<=3839) (h:ah w (eK x b A k*F)) (g:A id=W (iJ lk L)) (l:DP L) (j:L.length<3840) (i:cG nm=true) (p:kZ L nm=U) (o:cE (L.length+1)<=k+cE L.length) :
  Calls R 147 #[iH b n,Z Y (id:Int),X (str nm),Z Y (a:Int)] w (YE (x.more 5) b (fH A id (W (iJ lk (L++[⟨a,nm⟩])))) (k+cE L.length-cE (L.length+1)) 0 F w):=
 GV c d h g l j i p fun q G m=>Pc (e:=⟨a,nm⟩) (aM.mZ.2 ⟨c,d,sA i⟩) l j g o m
def UB {a:Nat} (c:1<=a) (d:a<=3839) (h:ah w (eK x b A k*F)) (g:A id=W (iJ lk L)) (l:DP L) (j:L.length<3840) (i:cG nm=true) (p:kZ L nm=U) (o:k+cE L.length<cE (L.length+1)) :
  Calls R 147 #[iH b n,Z Y (id:Int),X (str nm),Z Y (a:Int)] w (YE x b A k 7 F w):=
 GV c d h g l j i p fun q G m=>RV (e:=⟨a,nm⟩) (aM.mZ.2 ⟨c,d,sA i⟩) l j g o m
end
end Go.Proofs.Fs
namespace Go.SL
open RowKit
inductive xM where
 | file (f:AF)
 | dir (L:List aM)
def xM.af:xM->AF
 | .file f=>f
 | .dir L=>iJ 1 L
abbrev Tr:=Nat->Option xM
def gJ (T:Tr):Nat->Option AF:=fun id=>(T id).map xM.af
def Af (T:Tr) (id:Nat) (x:xM):fH (gJ T) id (W x.af)=gJ (fH T id (W x)):=by
 funext b;unfold gJ fH;split <;> rfl
def rP {T:Tr} {id:Nat} {f:AF} (h:T id=W (.file f)):gJ T id=W f:=by unfold gJ;rw [h];rfl
def mL {T:Tr} {id:Nat} {L:List aM} (h:T id=W (.dir L)):gJ T id=W (iJ 1 L):=by unfold gJ;rw [h];rfl
def eJ:Tr:=fun id=>if id=1 then W (.dir []) else U
structure sn (L:List aM):Prop where
 ok:DP L
 len:L.length<=3840
 nd:(L.map aM.nm).Nodup
 nm:∀ e ∈ L,cG e.nm=true
def fq:Option xM->List aM
 | some (.dir L)=>L
 | _=>[]
def cS (ps:List (List UInt8)):List UInt8:=ps.getD (ps.length-1) []
def refs (n:Nat) (T:Tr) (id:Nat):Nat:=((D9 n).map fun d=>(fq (T d)).countP fun e=>e.nd == id).sum
def MO (id:Nat):Option xM->Int
 | some (.file f)=>f.lk
 | some (.dir _)=>if id=1 then 0 else 1
 | none=>0
structure Tidy (n:Nat) (T:Tr):Prop where
 root:∃ L,T 1=some (.dir L)
 te:∀ id L,T id=some (.dir L)->sn L
 files:∀ id f,T id=some (.file f)->f.kd=1
 ref:∀ id,(refs n T id:Int)=MO id (T id)
 out:∀ id,n<=id->T id=none
def fg (x:Option xM) (nm:List UInt8):Int × Nat:=match x with
 | some (.dir L)=>(match kZ L nm with|some i=>(0,(L.getD i aM.no).nd)|none=>(5,0))
 | some (.file _)=>(8,0)
 | none=>(4,0)
def aV (T:Tr):Nat->List (List UInt8)->Int × Nat
 | id,[]=>(0,id)
 | id,nm :: ps=>if (fg (T id) nm).1=0 then aV T (fg (T id) nm).2 ps else ((fg (T id) nm).1,0)
def JK (T:Tr) (id:Nat):aV T id []=(0,id):=rfl
def oz {T:Tr} {id:Nat} {nm:List UInt8} {ps:List (List UInt8)} (h:(fg (T id) nm).1=0):aV T id (nm :: ps)=aV T (fg (T id) nm).2 ps:=if_pos h
def Dg {T:Tr} {id:Nat} {nm:List UInt8} {ps:List (List UInt8)} (h:¬ (fg (T id) nm).1=0):aV T id (nm :: ps)=((fg (T id) nm).1,0):=if_neg h
def mw {L:List aM} {nm:List UInt8} {i:Nat} (h:kZ L nm=W i):fg (W (.dir L)) nm=(0,(L.getD i aM.no).nd):=by unfold fg;simp only [h]
def pZ {L:List aM} {nm:List UInt8} (h:kZ L nm=U):fg (W (.dir L)) nm=(5,0):=by unfold fg;simp only [h]
def Ug {l:List Nat} {a:Nat} (h:a ∈ l):a<=l.sum:=by
 induction l with
 | nil=>cases h
 | cons b l c=>
  rw [List.sum_cons];rcases List.mem_cons.1 h with rfl|h
  .omega
  .have:=c h;omega
def M7 {n:Nat} {T:Tr} {d:Nat} {L:List aM} {e:aM} (c:d<n) (a:T d=W (.dir L)) (g:e ∈ L):0<refs n T e.nd:=by
 have h:0<(fq (T d)).countP fun x=>x.nd == e.nd:=by rw [a];exact List.countP_pos_iff.2 ⟨e,g,Si0⟩
 have i:((fq (T d)).countP fun x=>x.nd == e.nd)<=refs n T e.nd:=Ug (List.mem_map.2 ⟨d,List.mem_range.2 c,rfl⟩);omega
section
variable {n:Nat} {T:Tr}
def Tidy.lt (h:Tidy n T) {id:Nat} {x:xM} (c:T id=W x):id<n:=by
 rcases Nat.lt_or_ge id n with a|a
 .exact a
 .rw [h.out id a] at c;cases c
def Tidy.has (h:Tidy n T) {d:Nat} {L:List aM} {e:aM} (c:T d=W (.dir L)) (g:e ∈ L):∃ x,T e.nd=W x:=by
 have j:=M7 (h.lt c) c g;have a:=h.ref e.nd
 cases i:T e.nd with
 | some x=>exact ⟨x,rfl⟩
 | none=>rw [i] at a;simp only [MO] at a;omega
def Tidy.find (h:Tidy n T) {id:Nat} {x:xM} (g:T id=W x) {nm:List UInt8} (a:(fg (T id) nm).1=0):∃ y,T (fg (T id) nm).2=W y:=by
 rw [g] at a ⊢
 cases x with
 | file f=>exact absurd a (show ¬ (8:Int)=0 by decide)
 | dir L=>
  cases c:kZ L nm with
  | none=>rw [pZ c] at a;exact absurd a De0
  | some i=>
   rw [mw c];have d:=Ee c;exact h.has g (e:=L.getD i aM.no) (by rw [D6,D1 d];exact List.getElem_mem d)
def Tidy.walk (h:Tidy n T):∀ (d:List (List UInt8)) {id:Nat} {x:xM},T id=W x->(aV T id d).1=0->∃ y,T (aV T id d).2=W y
 | [],id,x,g,_=>⟨x,g⟩
 | nm :: d,id,x,g,a=>by
  by_cases c:(fg (T id) nm).1=0
  .rw [oz c] at a ⊢
   obtain ⟨y,hy⟩:=h.find g c;exact h.walk d hy a
  .rw [Dg c] at a;exact absurd a c
def HU {f g:Nat->Nat} {d:Nat} (h:∀ i,i≠d->g i=f i):∀ m,d<m->((D9 m).map g).sum+f d=((D9 m).map f).sum+g d
 | m+1,c=>by
  rw [List.range_succ,List.map_append,List.map_append,List.sum_append,List.sum_append];simp only [List.map_cons,List.map_nil,List.sum_cons,List.sum_nil,Nat.add_zero]
  by_cases e:d=m
  .subst e
   have:(D9 d).map g=(D9 d).map f:=List.map_congr_left fun i a=>h i (by have:=List.mem_range.1 a;omega);rw [this];omega
  .have:=HU h m Z'
   rw [h m Z'];omega
def rS {d:Nat} (a:d<n) (x:Option xM) (id:Nat):refs n (fH T d x) id+(fq (T d)).countP (fun e=>e.nd == id)=refs n T id+(fq x).countP fun e=>e.nd == id:=by
 have:=HU (f:=fun j=>(fq (T j)).countP fun e=>e.nd == id) (g:=fun j=>(fq (fH T d x j)).countP fun e=>e.nd == id) (d:=d) (fun i c=>by rw [aQ _ _ c]) n a;simp only [bR] at this;exact this
end
end Go.SL
namespace Go.Proofs.Fs
open RowKit SL Proofs.Ba
attribute [local go_sem] Oper.semAt_some
section
variable {n:Nat} {x:Fx n} {b k id:Nat} {A:Nat->Option AF} {f:AF} {lk:Int} {L:List aM} {w:P} {F:ai} {nm:List UInt8}
def XF (x:Fx n) (b:Nat) (A:Nat->Option AF) (k:Nat) (c:Int) (F:ai) (w:P) (e:Ending) (a:P):Prop:=
 e = .returned (.tuple #[S U 0 0,Z Y c])/\ak w a/\ah a (eK x b A k*F)
def Lk (h:ah w (eK x b A k*F)) (z:A id=W f) (B:f.kd=1) :
  Calls R 98 #[iH b n,Z Y (id:Int)] w (XF x b A k 8 F w):=by
 have i:=(((h.alloc (dx b n)).alloc (V #[S U 0 0] 80 (0,0))).alloc (V #[Z Y 0] 31 (0,0)))
 have t:=(((ak.refl w).alloc (dx b n)).alloc (V #[S U 0 0] 80 (0,0))).alloc (V #[Z Y 0] 31 (0,0));simp only [World.size_alloc] at i;have K:=ae B;have J:=ae z;clear h B z;unfold iH;refine (callsIn_wide (n:=9)).1 ?_;refine callsIn_of_wp_marks func98 rfl trivial ?_ rfl;simp only [ntmps98,List.size_toArray,List.length_cons,List.length_nil,Nat.reduceAdd,Nat.reduceSub,Array.replicate_succ,Array.replicate_zero,List.push_toArray,List.append_toArray,D4,List.cons_append];have q:=i.au.cell 0;have r:=i.au.cell 1;simp at q r;refine wpIn_wide.2 ?_
 go_wp2_with fail
 generalize (((w.alloc (dx b n)).alloc (V #[S U 0 0] 80 (0,0))).alloc (V #[Z Y 0] 31 (0,0)))=w1 at *;generalize w.heap.size+1+1=g at *;generalize w.heap.size+1=d at *;generalize w.heap.size=p at *;have v:=i.t00 (eK x b A k*(pt p (dx b n)*(pt d (V #[S U 0 0] 80 (0,0))*(pt g (V #[Z Y 0] 31 (0,0))*F))));apply (E0 v J.o).mono;rintro e c ⟨y,rfl,C,E,c0,d0,s,u⟩;have o:(ints y.l).size=20:=by rw [ed,Nd.cells C]
 have l:=u.alloc (V #[Z Y 0,Z Y 0,Z Y 0,Z Y 0,Z Y 0,Z Y 0,Z Y 0,Z Y 0,Z Y 0,Z Y 0,Z Y 0,Z Y 0,Z Y 0,Z Y 0,Z Y 0,Z Y 0,Z Y 0,Z Y 0,Z Y 0,Z Y 0] 75 (0,0));have Hz:=ae l.heap;have m:=l.setRow (cs':=ints y.l);have G:=ae (((t.trans s).alloc (V #[Z Y 0,Z Y 0,Z Y 0,Z Y 0,Z Y 0,Z Y 0,Z Y 0,Z Y 0,Z Y 0,Z Y 0,Z Y 0,Z Y 0,Z Y 0,Z Y 0,Z Y 0,Z Y 0,Z Y 0,Z Y 0,Z Y 0,Z Y 0] 75 (0,0))).setRow c.heap.size (ints y.l));have O:Hid ((ints y.l).all (·.oneCell')=true):=by simp [RowKit.Hid,ints,Value.oneCell']
 have N:Hid ((prog.info? 75).map (·.size)=W (ints y.l).size):=by show _=_;rw [o];exact bd
 have M:=ae o;have n0:((c.alloc (V #[Z Y 0,Z Y 0,Z Y 0,Z Y 0,Z Y 0,Z Y 0,Z Y 0,Z Y 0,Z Y 0,Z Y 0,Z Y 0,Z Y 0,Z Y 0,Z Y 0,Z Y 0,Z Y 0,Z Y 0,Z Y 0,Z Y 0,Z Y 0] 75 (0,0))).setRow c.heap.size (ints y.l)).cell? ⟨c.heap.size,0,U⟩=W (Z Y 1):=by rw [<- K.o,<- E];exact m.cell 0
 have a:=m.t00 (pt d (V #[S U 0 0] 80 (0,0))*(pt g (V #[Z Y 0] 31 (0,0))*((eK x b A k*F)*(pt c.heap.size (V (ints y.l) 75 (0,0))*pt p (dx b n)))));have z0:=a.cell 0;have z1:=a.aj.cell 0;have f0:=a.frozen 0;have f1:=a.aj.frozen 0;have b0:¬ (d=g):=ah.ne a;have e0:¬ (g=d):=fun h=>b0 h.symm;have I:=ae ((a.setCell 0 (S U 0 0)).aj.setCell 0 (Z Y 8));have H:=ae ((G.o.setCell ⟨d,0,U⟩ (S U 0 0)).setCell ⟨g,0,U⟩ (Z Y 8));simp at z0 z1;clear i v u l m a o C E c0 d0 s t q r
 go_wp2_with (refine wpList_store_row (by exact rfl) 75 (.tmp 6) (.tmp 15) (by exact rfl) c.heap.size (ints y.l) (by exact rfl) (by exact rfl) 75 _ (by with_reducible exact Hz.o) N.o (by rw [M.o];rfl) O.o ?_)
 have j:=I.o.aj;simp only [List.setIfInBounds_toArray,List.set_cons_zero] at j;refine ⟨_,pT rfl rfl j,rfl,H.o,?_⟩;exact (j.t00 ((pt d (V #[S U 0 0] 80 (0,0))*(pt g (V #[Z Y 8] 31 (0,0))*(pt c.heap.size (V (ints y.l) 75 (0,0))*pt p (dx b n))))*(eK x b A k*F))).right
def Ki (h:ah w (eK x b A k*F)) (d:A id=W f) (g:f.kd=1) :
  Calls R 146 #[iH b n,Z Y (id:Int),X (str nm)] w (YI x b A k 0 8 F w):=by
 refine aK fun q l=>?_;have a:=h.alloc (dx b n);have o:=ae ((ak.refl w).alloc (dx b n));have i:=ae (Lk a.aj d g);have s:(w.alloc (dx b n)).cell? ⟨w.heap.size,0,U⟩=W (Q (W ⟨b,0,U⟩)):=a.cell 0;clear h a d g;unfold iH
 go_in
 go_wp2_with fail
 refine i.o.mono ?_;generalize w.alloc (dx b n)=t at *;generalize w.heap.size=p at *;rintro r u ⟨rfl,m,c⟩;have j:=ae (c.to (by ac_rfl:_=pt p (dx b n)*(eK x b A k*F))).right;clear i c
 go_wp2_with fail
 exact l.o _ _ ⟨Si0,o.o.trans m,j.o⟩
end
def _root_.Go.SL.IB (w:P) (v:Value) (l:List (List UInt8)):Prop:=
 (∃ x c,v = S x 0 c/\l=[])\/∃ g o c,v = S (W ⟨g,o,U⟩) l.length c/\l.length<=c/\c<=maxLen/\∀ k,k<l.length->w.cell? ⟨g,o+k,U⟩=W (X (str (l.getD k [])))
section
variable {n:Nat} {x:Fx n} {b k id:Nat} {T:Tr} {w:P} {D F:ai} {nm:List UInt8}
def yv (g:Tidy n T) {y:xM} (hy:T id=W y) (h:ah w (eK x b (gJ T) k*F)) :
  Calls R 146 #[iH b n,Z Y (id:Int),X (str nm)] w (YI x b (gJ T) k ((fg (T id) nm).2:Nat) (fg (T id) nm).1 F w):=by
 cases y with
 | file f=>rw [hy];exact Ki h (rP hy) (g.files _ _ hy)
 | dir L=>
  have c:=g.te _ _ hy;rw [hy]
  cases a:kZ L nm with
  | none=>rw [pZ a];exact Rg h (mL hy) c.ok c.len a
  | some i=>
   rw [mw a];have d:=Ee a;have:=Pw h (mL hy) c.ok c.len a d;rw [show L.getD i aM.no=L[i] by rw [D6,D1 d];rfl];exact this
def Xj (n:Nat) (T:Tr) (ps:List (List UInt8)) (a:ai) (w0:P) (u v:Value) (wr:P):Prop:=
 ∃ (j id:Nat) (y:xM),j<=ps.length/\u = Z Y (j:Int)/\v = Z Y (id:Int)/\T id=W y/\aV T 1 ps=aV T id (ps.drop j)/\ak w0 wr/\ah wr a
def drop_cons {ps:List (List UInt8)} {j:Nat} (h:j<ps.length):ps.drop j=ps.getD j [] :: ps.drop (j+1):=by
 rw [List.drop_eq_getElem_cons h,D6,D1 h];rfl
def Jt (y:Tidy n T) {v:Value} {ps:List (List UInt8)} (hl:ps.length<=1000) (s:∀ e0 s0,ah e0 (D*s0)->IB e0 v ps) (g0:ah w (eK x b (gJ T) k*(D*F))) :
  Calls R 96 #[iH b n,v] w (YI x b (gJ T) k ((aV T 1 ps).2:Nat) (aV T 1 ps).1 (D*F) w):=by
 refine aK fun H0 G=>?_;have r:=(g0.alloc (dx b n)).t00 (D*(eK x b (gJ T) k*(pt w.heap.size (dx b n)*F)));have dA:=(ak.refl w).alloc (dx b n);obtain ⟨L0,n0⟩:=y.root
 obtain ⟨va,vc,rfl⟩:∃ a c,v = S a ps.length c:=by
  rcases s _ _ r with ⟨a,c,rfl,rfl⟩|⟨f0,o,c,rfl,-⟩
  .exact ⟨a,c,rfl⟩
  .exact ⟨_,_,rfl⟩
 have E:=ae r;have B:=ae dA;have HD:=ae s;have J:=ae y;have H:=ae n0;obtain ⟨m,t⟩:=Nm ps.length
 have d:=ae t;have R0:(m:Int)<=1000:=Z'
 rw [t];clear g0 r dA s y n0 t hl;unfold iH
 go_in
 go_wp2_with fail
 go_loopw [6,13] (fun G0 v wr=>Xj n T ps (D*(eK x b (gJ T) k*(pt w.heap.size (dx b n)*F))) w v G0 wr) (fun _ v _=>m-(intOf v).toNat)
 case atStart=>exact ⟨0,1,_,Nat.zero_le _,rfl,rfl,H.o,rfl,B.o,E.o⟩
 case round=>
  obtain ⟨j,id,S0,hj,rfl,rfl,hy,i,p,h⟩:=hrel;rw [d.o] at hj;have I:=ae h;have K:=ae i;have N:=ae hy;have c0:wr.cell? ⟨w.heap.size,0,U⟩=W (Q (W ⟨b,0,U⟩)):=h.au.cell 0;have c1:wr.cell? ⟨w.heap.size,1,U⟩=W (Z Y (n:Int)):=h.au.cell 1;clear E B H
  by_cases x0:j<m
  .have N0:(j:Int)<(m:Int):=Z'
   obtain ⟨nm,u⟩:=Nm (ps.getD j [])
   rcases HD.o _ _ h with ⟨a,c,e,e2⟩|⟨f0,o,c,e,u0,h0,i0⟩
   .rw [e2] at d;exact absurd x0 (by have:=d.o;simp at this;omega)
   simp only [Value.slice.injEq] at e;obtain ⟨rfl,-,rfl⟩:=e;have K0:wr.cell? ⟨f0,o+j,U⟩=W (X (str nm)):=by rw [<- u];exact i0 j (by have:=d.o;omega)
   have k1:(m:Int)<=(vc:Int):=by have:=d.o;omega
   have k2:(vc:Int)<=9223372036854775807:=by unfold maxLen at h0;omega
   have k0:ps.drop j=nm :: ps.drop (j+1):=by rw [<- u];exact drop_cons (by have:=d.o;omega)
   have o0:aV T 1 ps=aV T id (nm :: ps.drop (j+1)):=by rw [<- k0];exact i
   have hf:=yv (nm:=nm) J.o hy (h.t00 (eK x b (gJ T) k*(D*(pt w.heap.size (dx b n)*F))));have q0:=fun g=>(oz (T:=T) (id:=id) (nm:=nm) (ps:=ps.drop (j+1)) g)
   have m0:=fun g=>(Dg (T:=T) (id:=id) (nm:=nm) (ps:=ps.drop (j+1)) g)
   have l0:=fun g=>J.o.find hy (nm:=nm) g;have q:=ae hf;have d0:=ae q0;have b0:=ae m0;have O:=ae l0;have M:=ae o0;have l:=ae p;generalize hq:fg (T id) nm=F0 at *;obtain ⟨c',D0⟩:=F0;dsimp only at q d0 b0 O;clear h i hy hf q0 m0 l0 i0 u0 h0 k0 o0 u I K N p hq
   go_wp2_with fail
   apply q.o.mono;rintro e w2 ⟨rfl,d2,h2⟩;have C:=ae h2;have z:=ae (l.o.trans d2);clear h2 d2 q l
   by_cases g:c'=0
   .subst g
    obtain ⟨y',p0⟩:=O.o rfl;have Hy:=ae p0;clear p0
    go_wp2_with fail
    go_roundw
    case rel=>exact ⟨j+1,D0,y',by rw [d.o];omega,by go_num,rfl,Hy.o,M.o.trans (d0.o trivial),z.o,C.o.u00⟩
    case measure=>simp [intOf];omega
   .go_wp2_with fail
    have e:=M.o.trans (b0.o g);refine G.o _ _ ⟨by rw [e];rfl,z.o,?_⟩;exact (C.o.t00 (pt w.heap.size (dx b n)*(eK x b (gJ T) k*(D*F)))).right
  .obtain rfl:j=m:=Z'
   have e:aV T 1 ps=(0,id):=by rw [i,<- d.o,List.drop_length];rfl
   have r0:=ae e;have l:=ae p;clear h i hy e p K N
   go_wp2_with fail
   refine G.o _ _ ⟨by rw [r0.o];rfl,l.o,?_⟩;exact (I.o.t00 (pt w.heap.size (dx b n)*(eK x b (gJ T) k*(D*F)))).right
end
end Go.Proofs.Fs

/- Steps. -/
import Derived.Test.YtdickhgiahcnaaaGreatDoorNP28
import Derived.Test.YtdickhgiahcnaaaGreatDoorNP14
set_option linter.all false
set_option maxRecDepth 99999
set_option maxHeartbeats 0
open Go.SL
open Go.Value renaming int->Z,slice->R,pointer->S,string->U
open Go.IntKind renaming i64->Y
open Go.Obj renaming cells->V
open Go renaming World->P
open Go.Proofs.Tryz renaming prog->Q
open Option renaming some->X,none->W
open Bool renaming true->Z'
open Go.SL renaming Om0->O
open Go.Proofs.Tryz
open List renaming length_append->A3,getD->A2,length_singleton->A1,length_set->B3,range->B2,getElem?_eq_getElem->B1,nil_append->D2,getElem?_append_left->D1,getElem?_eq_none->E5
open Bool renaming eq_iff_iff->D9
namespace Go.SL
open RowKit
def P9 {e:aL} (h:e.ok=Z'):bY 32 ((dD e.nd 2++dD e.nm.length 1)++e.nm)=e.enc:=by
 have a:=rU.1 (aL.mH.1 h).2.2;unfold bY aL.enc;rw [List.take_append,List.take_of_length_le (by simp only [A3,bp];omega)];simp only [List.append_assoc];congr 3;unfold zs;rw [List.take_replicate];congr 1;simp only [A3,bp];omega
end Go.SL
namespace Go.Proofs.Fs
open RowKit SL Proofs.Ba
def Uc (e:aL) (w0:P) (F:ai) (v u:Value) (wr:P):Prop:=
 ∃ k:Nat,k<=1/\u = Z Y (k:Int)/\aj w0 wr/\ag wr (bs 5 v (if k=0 then [] else e.enc)*F)
def WC (l:List UInt8) (F:ai) (w:P) (e:Ending) (a:P):Prop:=∃ v,e = .returned (.tuple #[v,Z Y 0])/\ag a (bs 5 v l*F)/\aj w a
def Bq (w:P) (g:Nat) (j:Nat × Nat) (e:aL) (N:e.ok=Z') (F:ai) (k0:ag w (pt g (V #[Z Y (e.nd:Int),U (str e.nm)] 81 j)*F)) :
  Calls Q 214 #[R (X ⟨g,0,W⟩) 1 1] w (WC (bY 480 e.enc) (pt g (V #[Z Y (e.nd:Int),U (str e.nm)] 81 j)*F) w):=by
 refine aF fun W0 HQ=>?_;obtain ⟨o1,o2,o3⟩:=aL.mH.1 N;have S0:=rU.1 o3;have u0:ag w (bs 5 (R W 0 0) []*(pt g (V #[Z Y (e.nd:Int),U (str e.nm)] 81 j)*F)):=k0.eU _ _;have f0:=ae u0;have B:=ae N;have q1:(e.nd:Int)<=3839:=O
 have q0:(0:Int)<=(e.nd:Int):=O
 obtain ⟨m,hm⟩:∃ m,e.nm.length=m:=⟨_,rfl⟩
 have Z0:m<=28:=O
 have a1:(m:Int)<=28:=O
 have M:=ae hm;have N0:=iH e.nm;rw [hm] at N0;clear k0 u0 N o3 S0 hm
 go_in
 go_wp2_with fail
 go_loopw [4,13] (fun v d0 wr=>Uc e w (pt g (V #[Z Y (e.nd:Int),U (str e.nm)] 81 j)*F) v d0 wr) (fun _ d0 _=>1-(intOf d0).toNat)
 case atStart=>exact ⟨0,De0,rfl,aj.refl w,f0.o⟩
 case round=>
  obtain ⟨k,hk,rfl,s0,a⟩:=hrel;clear f0
  by_cases L0:k=0
  .subst L0
   rw [if_pos rfl] at a;have c0:wr.cell? ⟨g,0,W⟩=X (Z Y (e.nd:Int)):=a.ah.cell 0;have c1:wr.cell? ⟨g,1,W⟩=X (U (str e.nm)):=a.ah.cell 1;have hA:=a.alloc (V #[Z Y (e.nd:Int),U (str e.nm)] 81 (0,0));have dA:=ae (s0.alloc (V #[Z Y (e.nd:Int),U (str e.nm)] 81 (0,0)));have hr:=xg (wr.alloc (V #[Z Y (e.nd:Int),U (str e.nm)] 81 (0,0))) e;rw [B.o] at hr;have Hr:=ae hr;have HA:=ae hA;have R0:=aC a;obtain ⟨p,q,rfl⟩:=R0;clear a hA hr
   go_wp2_with fail
   refine Hr.o.mono ?_;generalize wr.alloc (V #[Z Y (e.nd:Int),U (str e.nm)] 81 (0,0))=w1 at *;generalize wr.heap.size=i at *;rintro r w2 ⟨rfl,h2,d2⟩;have H:=h2.cM HA.o;have D3:=ae (dA.o.trans d2);have t0:w2.cell? ⟨i,0,W⟩=X (Z Y (e.nd:Int)):=H.cell 0;have t1:w2.cell? ⟨i,1,W⟩=X (U (str e.nm)):=H.cell 1;have o:=fp w2 (R W 0 0) [] 2 (e.nd:Int) ⟨rfl,.inl ⟨rfl,rfl⟩⟩ De0 De0 O O;rw [D2] at o;have Hp:=ae o;have H3:=ae H;clear o H h2 Hr HA c0 c1 d2 dA
   go_wp2_with fail
   refine Hp.o.mono ?_;rintro r w4 ⟨v4,rfl,h4,d4⟩;have h5:=h4.under H3.o;have D5:=ae (D3.o.trans d4);have t0:w4.cell? ⟨i,0,W⟩=X (Z Y (e.nd:Int)):=h5.ah.cell 0;have t1:w4.cell? ⟨i,1,W⟩=X (U (str e.nm)):=h5.ah.cell 1;have o:=fp w4 v4 (dD e.nd 2) 1 (m:Int) h5.oa (by rw [bp];omega) De0 O O;have g0:=ae o;have H5:=ae h5;obtain ⟨T0,V0,rfl⟩:=aC h5;clear o h4 h5 Hp H3 D3 d4
   go_wp2_with fail
   refine g0.o.mono ?_;rintro r w6 ⟨v6,rfl,h6,d6⟩;have l:=h6.under H5.o;obtain ⟨h,J⟩:∃ h,dD (e.nd:Int) 2++dD (m:Int) 1=h:=⟨_,rfl⟩
   have z:h.length=3:=by rw [<- J,A3,bp,bp]
   rw [J] at l;have e0:=ae J;have D7:=D5.o.trans d6;have t0:w6.cell? ⟨i,0,W⟩=X (Z Y (e.nd:Int)):=l.au.cell 0;have t1:w6.cell? ⟨i,1,W⟩=X (U (str e.nm)):=l.au.cell 1;obtain ⟨i0,hi,hz,r0,n0⟩:=info_parts gO;obtain ⟨v7,K,d,I,d8⟩:=ag.PI (P:=Q) (t:=23) (u:=9) (ty:=23) underlying23 underlying9 hi hz r0 n0 l e.nm (by rw [M.o,z];omega);have D8:=ae (D7.trans d8);obtain ⟨d1,e1,rfl⟩:=aC l;have c:=oY K v7 _ I.oa 32 De0;have p0:bY 32 (h++e.nm)=e.enc:=by rw [<- e0.o,<- M.o];exact P9 B.o
   rw [p0] at c;obtain ⟨x0,D0,rfl⟩:=aC I;have o0:(h++e.nm).length=3+m:=by rw [A3,z,M.o]
   rw [o0] at c d;rw [z] at d;have y:Calls Q 168 #[R x0 (3+m) D0,Z Y 32] K (zg e.enc K):=c
   have m0:ag K (bs 5 (R p 0 q) []*(pt g (V #[Z Y (e.nd:Int),U (str e.nm)] 81 j)*F)):=by
    exact (I.to (by ac_rfl:_=(bs 5 (R x0 (h++e.nm).length D0) (h++e.nm)*(bs 5 (R T0 (dD (e.nd:Int) 2).length V0) (dD (e.nd:Int) 2)*pt i (V #[Z Y (e.nd:Int),U (str e.nm)] 81 (0,0))))*(bs 5 (R p 0 q) []*(pt g (V #[Z Y (e.nd:Int),U (str e.nm)] 81 j)*F)))).right
   have s:=ae y;have h0:=ae d;have H8:=ae m0;rw [z];clear hi hz r0 n0 c y d I m0 l h6 H5 g0 D5 D7 d6 d8 p0 o0 z J
   go_wp2_with (at_builtin;refine qv h0.o _ _ rfl rfl rfl rfl rfl ?_)
   refine s.o.mono ?_;rintro r w9 ⟨v9,rfl,t,C⟩;have u:=aL.dK B.o;have E:=t.under H8.o;obtain ⟨f1,g1,rfl⟩:=aC E;have b0:=u;obtain ⟨b1,h1,d,G,j0,X0,Y0,rfl⟩:=iG (l:=[]) (m:=e.enc) (v:=R p 0 q) (E.ah) E.oa De0 O;rw [D2] at G;simp only [List.length_nil,Nat.zero_add,b0] at d G;have K0:=ae d;have F0:=ae ((D8.o.trans C).trans j0);have l0:=G.iD;have H0:=ae l0;rw [b0];clear h0 d G l0 E t H8 s D8 C j0 u b0 e0
   go_wp2_with (at_builtin;refine wpList_append_run K0.o _ _ rfl rfl rfl rfl rfl ?_)
   go_roundw
   case rel=>exact ⟨1,Nat.le_refl _,by go_num,F0.o,by rw [if_neg De0];exact H0.o⟩
   case measure=>simp [intOf]
  .obtain rfl:k=1:=O
   rw [if_neg De0] at a;have u:=aL.dK B.o;obtain ⟨p,q,rfl⟩:=aC a;have c:=oY wr (R p e.enc.length q) e.enc a.oa 480 De0;rw [u] at c ⊢;have y:Calls Q 168 #[R p 32 q,Z Y 480] wr (zg (bY 480 e.enc) wr):=c;have s:=ae y;have HS:=ae a.right;clear c y a u
   go_wp2_with fail
   refine s.o.mono ?_;rintro r w9 ⟨v9,rfl,t,C⟩;have G0:=ae (t.under HS.o);clear t s
   go_wp2_with fail
   exact HQ.o _ _ ⟨v9,Si0,G0.o,s0.trans C⟩
end Go.Proofs.Fs
namespace Go.SL
open RowKit
def eC (lk:Int) (L:List aL):AF:=⟨2,lk,32*L.length,fun p=>(dU L).getD p 0,fun i=>decide (15*i<L.length)⟩
def KO:lx 2=eC 1 []:=by
 unfold lx eC;congr 1
abbrev rX (L:List aL):Prop:=∀ e ∈ L,e.ok=Z'
def An {L:List aL} {e:aL} (h:rX L) (c:e.ok=Z') (i:Nat):rX (L.set i e):=fun x d=>by
 rcases List.mem_or_eq_of_mem_set d with a|rfl
 .exact h x a
 .exact c
def AT {L:List aL} {e:aL} (h:rX L) (c:e.ok=Z'):rX (L++[e]):=fun x d=>by
 rcases List.mem_append.1 d with a|a
 .exact h x a
 .rw [List.mem_singleton.1 a];exact c
def Bv {L:List aL} (h:rX L) (m:Nat):rX (L.take m):=fun x a=>h x (List.mem_of_mem_take a)
def je {lk:Int} {L:List aL} (h:rX L) (a:L.length<=3840):Jl (eC lk L) L:=⟨rfl,rfl,h,fun p _=>rfl,a⟩
def jd:∀ {L:List aL} (_:rX L) (p:Nat),(dU L).getD p 0=((L[p/32]?).map fun e=>e.enc.getD (p%32) 0).getD 0
 | [],_,p=>by simp [dU]
 | e :: L,h,p=>by
  have g:=aL.dK (h e List.mem_cons_self);have d:dU (e :: L)=e.enc++dU L:=rfl;rw [d]
  by_cases l:p<32
  .have a:p/32=0:=O
   have c:p%32=p:=O
   rw [a,c,List.getElem?_cons_zero,Option.map_some,Option.getD_some,A2,D1 O];rfl
  .have j:=jd (L:=L) (fun x i=>h x (List.mem_cons_of_mem _ i)) (p-32)
   have a:p/32=(p-32)/32+1:=O
   have c:p%32=(p-32)%32:=O
   rw [a,c,List.getElem?_cons_succ,<- j,A2,List.getElem?_append_right O,g];rfl
def uL {f:AF} {lk:Int} {L:List aL} (g:f.kd=2) (h:f.lk=lk) (j:f.sz=32*L.length) (h4:∀ p,f.uq p=(dU L).getD p 0) (h5:∀ i,f.pr i=decide (15*i<L.length)):f=eC lk L:=by
 obtain ⟨a,b,c,d,e⟩:=f;dsimp only at g h j h4 h5;subst g h j;unfold eC;congr 1
 .funext p;exact h4 p
 .funext p;exact h5 p
def uW {lk:Int} {L:List aL} {e:aL} (h:rX L) (c:e.ok=Z'):(eC lk L).wr (32*L.length) e.enc=eC lk (L++[e]):=by
 have a:=aL.dK c;refine uL rfl rfl ?_ (fun p=>?_) fun i=>?_
 .show (if e.enc.length=0 then 32*L.length else max (32*L.length) (32*L.length+e.enc.length))=_
  rw [if_neg O,a,A3,A1];omega
 .show (if 32*L.length<=p/\p<32*L.length+e.enc.length then e.enc.getD (p-32*L.length) 0 else (dU L).getD p 0)=_
  rw [jd (AT h c),jd h,a]
  split
  .rename_i l
   have d:p/32=L.length:=O
   have g:p%32=p-32*L.length:=O
   rw [d,g];simp
  .rename_i l
   by_cases j:p/32<L.length
   .rw [D1 j]
   .rw [E5 O,E5 (by rw [A3,A1];omega)]
 .show (decide (15*i<L.length) || cW (32*L.length) e.enc.length i)=decide (15*i<(L++[e]).length)
  rw [a,A3,A1,D9,Bool.or_eq_true,cJ,decide_eq_true_iff,decide_eq_true_iff];omega
def Ct {lk:Int} {L:List aL} {e:aL} (h:rX L) (c:e.ok=Z') {i:Nat} (l:i<L.length):(eC lk L).wr (32*i) e.enc=eC lk (L.set i e):=by
 have a:=aL.dK c;refine uL rfl rfl ?_ (fun p=>?_) fun j=>?_
 .show (if e.enc.length=0 then 32*L.length else max (32*L.length) (32*i+e.enc.length))=_
  rw [if_neg O,a,B3];omega
 .show (if 32*i<=p/\p<32*i+e.enc.length then e.enc.getD (p-32*i) 0 else (dU L).getD p 0)=_
  rw [jd (An h c i),jd h,a]
  split
  .rename_i m
   have d:p/32=i:=O
   have g:p%32=p-32*i:=O
   rw [d,g,List.getElem?_set_self l];rfl
  .rename_i m
   rw [List.getElem?_set_ne O]
 .show (decide (15*j<L.length) || cW (32*i) e.enc.length j)=decide (15*j<(L.set i e).length)
  rw [a,B3,D9,Bool.or_eq_true,cJ,decide_eq_true_iff];omega
def CI {lk:Int} {L:List aL} (h:rX L) {m:Nat} (c:m<=L.length):(eC lk L).cut (32*m)=eC lk (L.take m):=by
 have a:(L.take m).length=m:=by rw [List.length_take];omega
 refine uL rfl rfl ?_ (fun p=>?_) fun j=>?_
 .show 32*m=_;rw [a]
 .show (if p<32*m then (dU L).getD p 0 else 0)=_
  rw [jd (Bv h m),jd h,List.getElem?_take]
  split
  .rw [if_pos O]
  .rw [if_neg O];rfl
 .show (decide (15*j<L.length) && decide (480*j<32*m))=decide (15*j<(L.take m).length)
  rw [a,D9,Bool.and_eq_true,decide_eq_true_iff,decide_eq_true_iff,decide_eq_true_iff];omega
def na (f:Nat):∀ m,(B2 m).countP (fun i=>decide (i<f))=min f m
 | 0=>Si0
 | m+1=>by
  rw [List.range_succ,List.countP_append,na f m];simp only [List.countP_cons,List.countP_nil,Nat.zero_add]
  by_cases h:m<f
  .rw [if_pos (decide_eq_true h)];omega
  .rw [if_neg (by simpa using h)];omega
def aY (l:Nat):Nat:=1+(l+14)/15+if 240<l then 1 else 0
def fN {lk:Int} {L:List aL} (g:L.length<=3840):bE (eC lk L).pr=aY L.length:=by
 unfold bE aY
 have c:j9 (eC lk L).pr=(L.length+14)/15:=by
  have:j9 (eC lk L).pr=j9 fun i=>decide (i<(L.length+14)/15):=pY fun i _=>by
   show decide (15*i<L.length)=_
   rw [D9,decide_eq_true_iff,decide_eq_true_iff];omega
  rw [this];unfold j9;rw [na];omega
 rw [c];congr 1
 by_cases h:240<L.length
 .rw [if_pos h,if_pos (gN.2 ⟨16,O,O,decide_eq_true O⟩)]
 .rw [if_neg h,if_neg]
  intro a;obtain ⟨i,d,h4,h5⟩:=gN.1 a;have:15*i<L.length:=of_decide_eq_true h5;omega
def Tl {w:P} {o:Option Addr} {g n m:Nat} {l:List UInt8} (r:l.length=m) (v:m<=n) (h:Rd w (R o n g) (bY n l)):Rd w (R o m g) l:=by
 obtain ⟨t,p⟩:=h;rcases p with ⟨d,h4⟩|⟨a,c,d,h4⟩
 .rw [cu] at h4
  simp only [Value.slice.injEq] at d;obtain ⟨rfl,rfl,rfl⟩:=d;have s:l.length=0:=O
  obtain rfl:m=0:=O
  exact ⟨Si0,.inl ⟨rfl,s⟩⟩
 .simp only [Value.slice.injEq] at d
  obtain ⟨rfl,-,rfl⟩:=d;refine ⟨Si0,.inr ⟨a,g,by rw [r],fun j u i=>h4 j u ?_⟩⟩
  have q:j<l.length:=by
   have:=List.getElem?_eq_some_iff.1 i;obtain ⟨h5,_⟩:=this
   rwa [List.length_map] at h5
  rw [List.getElem?_map] at i ⊢;rw [<- i];unfold bY;rw [List.getElem?_take,if_pos O,D1 q]
end Go.SL
namespace Go.Proofs.Fs
open RowKit SL Proofs.Ba
section
variable {n:Nat} {x x':Fx n} {b k id:Nat} {A:Nat->Option AF} {f:AF} {lk:Int} {L:List aL} {w:P} {F:ai}
def uI (e:aL) (y:e.ok=Z') (m:Nat) (j0:m<=3840) {r:Nat->Option AF} {s:Nat} {c:Int} (h:ag w (dx x b A k*F))
  (l:∀ (t:P) (q:Option Addr) (d:Nat) (D G:ai),(∀ g o,ag g (D*o)->Rd g (R q e.enc.length d) e.enc)->e.enc.length<=d->ag t (dx x b A k*(D*G)) ->
   Calls Q 45 #[fI b n,Z Y (id:Int),Z Y ((32*m:Nat):Int),R q e.enc.length d] t (YE x' b r s c (D*G) t)) :
  Calls Q 161 #[fI b n,Z Y (id:Int),Z Y (m:Int),.agg #[Z Y (e.nd:Int),U (str e.nm)]] w (YE x' b r s c F w):=by
 refine aF fun g0 HQ=>?_;have z:=aL.dK y;rw [z] at l;have J:((32*m:Nat):Int)=(m:Int)*32:=O
 rw [J] at l;have u:=((h.alloc (cH b n)).alloc (V #[Z Y (e.nd:Int),U (str e.nm)] 81 (0,0))).alloc (V #[Z Y (e.nd:Int),U (str e.nm)] 81 (0,0));have dA:=ae ((((aj.refl w).alloc (cH b n)).alloc (V #[Z Y (e.nd:Int),U (str e.nm)] 81 (0,0))).alloc (V #[Z Y (e.nd:Int),U (str e.nm)] 81 (0,0)));simp only [World.size_alloc] at u;have c0:=Bq _ _ _ e y _ u;have E:=ae c0;have H:=ae l;have HL:=ae z;have HE:=ae y;clear h l z J c0 u;unfold fI
 go_in
 go_wp2_with fail
 apply E.o.mono;generalize ((w.alloc (cH b n)).alloc (V #[Z Y (e.nd:Int),U (str e.nm)] 81 (0,0))).alloc (V #[Z Y (e.nd:Int),U (str e.nm)] 81 (0,0))=t at *;generalize w.heap.size+1+1=M at *;generalize w.heap.size+1=K at *;generalize w.heap.size=i at *;rintro f0 B ⟨v,rfl,p,d2⟩;clear E;have s0:B.cell? ⟨i,0,W⟩=X (S (X ⟨b,0,W⟩)):=p.aA.cell 0;have s1:B.cell? ⟨i,1,W⟩=X (Z Y (n:Int)):=p.aA.cell 1;have b0:∀ g o,ag g (bs 5 v (bY 480 e.enc)*o)->Rd g v (bY 480 e.enc):=fun g o h=>h.oa
 obtain ⟨q,d,rfl⟩:∃ a c,v = R a 480 c:=by
  obtain ⟨a,c,e⟩:=aC p;rw [cu] at e;exact ⟨a,c,e⟩
 have N:480<=d/\(d:Int)<=9223372036854775807:=by
  rcases p.dq with ⟨j,h4,_⟩|⟨i0,c,h0,j,h4,h5,h6,h7⟩
  .rw [cu] at h4;omega
  .simp only [Value.slice.injEq] at j
   obtain ⟨-,-,rfl⟩:=j;rw [cu] at h4;unfold maxLen at h5;omega
 obtain ⟨N,l0⟩:=N;have k0:(32:Int)<=(d:Int):=O
 have l:=H.o B.drew q d (bs 5 (R q 480 d) (bY 480 e.enc)) (pt M (V #[Z Y (e.nd:Int),U (str e.nm)] 81 (0,0))*(pt K (V #[Z Y (e.nd:Int),U (str e.nm)] 81 (0,0))*(pt i (cH b n)*F)))
  (fun g o h=>Tl HL.o De0 (b0 g o h)) O (p.drew.u00)
 rw [<- (show IntKind.i64.wrap ((m:Int)*32)=(m:Int)*32 by rw [IntKind.wrap_i64];omega)] at l;have I:=ae l;clear l H p b0
 go_wp2_with fail
 go_region_held3 (fun w'=>w'.cell? ⟨i,0,W⟩=X (S (X ⟨b,0,W⟩))/\w'.cell? ⟨i,1,W⟩=X (Z Y (n:Int)))
  (first|exact ⟨s0,s1⟩|exact e0|go_keep)
  (first|(go_at_call 45;apply I.o.mono;rintro f0 C ⟨rfl,d3,j⟩;have e0:C.cell? ⟨i,0,W⟩=X (S (X ⟨b,0,W⟩))/\C.cell? ⟨i,1,W⟩=X (Z Y (n:Int)):=⟨j.aJ.cell 0,j.aJ.cell 1⟩))
 rename_i d0;clear d0;have h4:ag C (dx x' b r s*F):=(j.t00 ((bs 5 (R q 480 d) (bY 480 e.enc)*(pt M (V #[Z Y (e.nd:Int),U (str e.nm)] 81 (0,0))*(pt K (V #[Z Y (e.nd:Int),U (str e.nm)] 81 (0,0))*pt i (cH b n))))*(dx x' b r s*F))).right;have H4:=ae h4;clear j h4 I
 exact Zz (HQ.o _ _ ⟨rfl,(dA.o.trans d2).drew.trans d3,H4.o⟩)
end
end Go.Proofs.Fs
namespace Go.SL
open RowKit
def vJ {L:List aL} {nm:List UInt8} {i:Nat} (h:iE L nm=X i):i<L.length:=by
 unfold iE at h;rw [List.findIdx?_eq_some_iff_getElem] at h;exact h.1
def sZ {L:List aL} {nm:List UInt8} {i:Nat} (h:iE L nm=X i):wZ L nm=(i:Int):=by unfold wZ;rw [h]
def sa {L:List aL} {nm:List UInt8} (h:iE L nm=W):wZ L nm=-1:=by unfold wZ;rw [h]
end Go.SL
namespace Go.Proofs.Fs
open RowKit SL Proofs.Ba
section
variable {n:Nat} {x x':Fx n} {b k id:Nat} {A:Nat->Option AF} {f:AF} {lk:Int} {L:List aL} {w:P} {F:ai} {nm:List UInt8}
def Oy {e:aL} (a:e.ok=Z') (g:rX L) (r:L.length<3840) (m:A id=X (eC lk L)) (o:aY (L.length+1)<=k+aY L.length) (h:ag w (dx x b A k*F)) :
  Calls Q 161 #[fI b n,Z Y (id:Int),Z Y (L.length:Int),.agg #[Z Y (e.nd:Int),U (str e.nm)]] w (YE (x.more 5) b (df A id (X (eC lk (L++[e])))) (k+aY L.length-aY (L.length+1)) 0 F w):=by
 have q:=aL.dK a;have d:=fN (lk:=lk) (L:=L) O;have c:=fN (lk:=lk) (L:=L++[e]) (by rw [A3,A1];omega);rw [A3,A1] at c;refine uI e a L.length O h fun t s p D G j l i=>?_;have:=zt m (32*L.length) j l O O (by rw [uW g a,d,c];exact o) i;rw [uW g a,d,c,show e.enc.length/480+5=5 by omega] at this;exact this
def QK {e:aL} (a:e.ok=Z') (o:rX L) (r:L.length<3840) (l:A id=X (eC lk L)) (m:k+aY L.length<aY (L.length+1)) (h:ag w (dx x b A k*F)) :
  Calls Q 161 #[fI b n,Z Y (id:Int),Z Y (L.length:Int),.agg #[Z Y (e.nd:Int),U (str e.nm)]] w (YE x b A k 7 F w):=by
 have q:=aL.dK a;have d:=fN (lk:=lk) (L:=L) O;have c:=fN (lk:=lk) (L:=L++[e]) (by rw [A3,A1];omega);rw [A3,A1] at c;refine uI e a L.length O h fun t s p D G i j g=>?_;exact Cy l (32*L.length) i j O O (by rw [uW o a,d,c];exact m) g
def Mn {e:aL} (a:e.ok=Z') (j:rX L) (s:L.length<=3840) (p:A id=X (eC lk L)) {i:Nat} (g:i<L.length) (h:ag w (dx x b A k*F)) :
  Calls Q 161 #[fI b n,Z Y (id:Int),Z Y (i:Int),.agg #[Z Y (e.nd:Int),U (str e.nm)]] w (YE (x.more 5) b (df A id (X (eC lk (L.set i e)))) k 0 F w):=by
 have r:=aL.dK a;have d:=fN (lk:=lk) (L:=L) O;have c:=fN (lk:=lk) (L:=L.set i e) (by rw [B3];omega);rw [B3] at c;refine uI e a i O h fun u t q D G m o l=>?_;have:=zt p (32*i) m o O O (by rw [Ct j a g,d,c];omega) l;rw [Ct j a g,d,c,Nat.add_sub_cancel,show e.enc.length/480+5=5 by omega] at this;exact this
def Mj (h:ag w (dx x b A k*F)) (r:A id=X (eC lk L)) (u:rX L) (p:L.length<=3840) {i:Nat} (s:iE L nm=X i) (K:i<L.length) :
  Calls Q 99 #[fI b n,Z Y (id:Int),U (str nm)] w (YI x b A k ((L[i]).nd) 0 F w):=by
 refine aF fun e0 E=>?_;have o:=h.alloc (cH b n);have I:=ae ((aj.refl w).alloc (cH b n));have y:=ae (jc o.ah r (je u p));have v:=sZ s;obtain ⟨m,t⟩:∃ m,L.length=m:=⟨_,rfl⟩
 have c0:(w.alloc (cH b n)).cell? ⟨w.heap.size,0,W⟩=X (S (X ⟨b,0,W⟩)):=o.cell 0;have C:=ae v;have q:=ae t;have g0:(m:Int)<=3840:=O
 have f0:(i:Int)<(m:Int):=O
 have B:=ae p;clear h o r u v t p s;unfold fI
 go_in
 go_wp2_with fail
 refine y.o.mono ?_;generalize w.alloc (cH b n)=w1 at *;generalize w.heap.size=J at *;rintro b0 w2 ⟨d0,rfl,G,l⟩;have d:=dS w2 d0 L nm _ B.o l;unfold qd at d;rw [C.o] at d;have j:=ae d;obtain ⟨ua,uc,rfl⟩:=aC l;rw [q.o] at j ⊢;clear y d l
 go_wp2_with fail
 refine j.o.mono ?_;rintro b0 w3 ⟨rfl,a,H⟩;rw [<- q.o] at a;obtain ⟨g,c,e,e1,e2,M,N⟩:=oD a K;simp only [Value.slice.injEq] at e;obtain ⟨rfl,-,rfl⟩:=e;have z:=ae a;clear a j M N
 go_wp2_with fail
 exact E.o _ _ ⟨Si0,(I.o.trans G).trans H,(z.o.to (by ac_rfl:_=(sl 81 2 (R (X ⟨g,0,W⟩) L.length uc) L.length (bG L)*pt J (cH b n))*(dx x b A k*F))).right⟩
def O0 (h:ag w (dx x b A k*F)) (l:A id=X (eC lk L)) (q:rX L) (i:L.length<=3840) (o:iE L nm=W) :
  Calls Q 99 #[fI b n,Z Y (id:Int),U (str nm)] w (YI x b A k 0 5 F w):=by
 refine aF fun N C=>?_;have g:=h.alloc (cH b n);have H:=ae ((aj.refl w).alloc (cH b n));have t:=ae (jc g.ah l (je q i));have s:=sa o;obtain ⟨m,p⟩:∃ m,L.length=m:=⟨_,rfl⟩
 have c0:(w.alloc (cH b n)).cell? ⟨w.heap.size,0,W⟩=X (S (X ⟨b,0,W⟩)):=g.cell 0;have B:=ae s;have z:=ae p;have b0:(m:Int)<=3840:=O
 have y:=ae i;clear h g l q s p i o;unfold fI
 go_in
 go_wp2_with fail
 refine t.o.mono ?_;generalize w.alloc (cH b n)=w1 at *;generalize w.heap.size=I at *;rintro r M ⟨u,rfl,E,d⟩;have a:=dS M u L nm _ y.o d;unfold qd at a;rw [B.o] at a;have c:=ae a;obtain ⟨J,K,rfl⟩:=aC d;rw [z.o] at c ⊢;clear t a d
 go_wp2_with fail
 refine c.o.mono ?_;rintro r w3 ⟨rfl,j,G⟩;have v:=ae j;clear j c
 go_wp2_with fail
 exact C.o _ _ ⟨Si0,(H.o.trans E).trans G,(v.o.to (by ac_rfl:_=(sl 81 2 (R J m K) m (bG L)*pt I (cH b n))*(dx x b A k*F))).right⟩
def GZ {a:Nat} (K:1<=a) (M:a<=3839) (h:ag w (dx x b A k*F)) (s:A id=X (eC lk L)) (v:rX L) (l:L.length<=3840) (t:cK nm=Z') {i:Nat} (o:iE L nm=X i) :
  Calls Q 100 #[fI b n,Z Y (id:Int),U (str nm),Z Y (a:Int)] w (YE x b A k 6 F w):=by
 refine aF fun d0 E=>?_;have j:=h.alloc (cH b n);have I:=ae ((aj.refl w).alloc (cH b n));have y:=ae (jc j.ah s (je v l));obtain ⟨m,u⟩:∃ m,L.length=m:=⟨_,rfl⟩
 have c0:(w.alloc (cH b n)).cell? ⟨w.heap.size,0,W⟩=X (S (X ⟨b,0,W⟩)):=j.cell 0;have C:=ae u;have N:=ae (sZ o);have f0:(m:Int)<=3840:=O
 have e0:(i:Int)<(m:Int):=by have:=vJ o;omega
 have B:=ae l;have p:=ae fun w=>qG w nm;rw [t] at p;have g1:¬ ((a:Int)<1):=O
 have g2:¬ ((3839:Int)<(a:Int)):=O
 clear h j s v u l t o K M;unfold fI
 go_in
 go_wp2_with fail
 refine y.o.mono ?_;generalize w.alloc (cH b n)=w1 at *;generalize w.heap.size=J at *;rintro r w2 ⟨b0,rfl,G,g⟩;have c:=dS w2 b0 L nm _ B.o g;unfold qd at c;rw [N.o] at c;have d:=ae c;obtain ⟨ua,uc,rfl⟩:=aC g;rw [C.o] at d ⊢;clear y g c
 go_wp2_with fail
 refine (p.o _).mono ?_;rintro r w3 ⟨rfl,rfl⟩
 go_wp2_with fail
 refine d.o.mono ?_;rintro r w3 ⟨rfl,q,H⟩;have z:=ae q;clear q d
 go_wp2_with fail
 exact E.o _ _ ⟨Si0,(I.o.trans G).trans H,(z.o.to (by ac_rfl:_=(sl 81 2 (R ua m uc) m (bG L)*pt J (cH b n))*(dx x b A k*F))).right⟩
def FY {a:Nat} {o:Nat->Option AF} {v:Nat} {c:Int} (d0:1<=a) (e0:a<=3839) (h:ag w (dx x b A k*F)) (B:A id=X (eC lk L)) (H:rX L) (E:L.length<3840) (C:cK nm=Z') (I:iE L nm=W)
  (u:∀ j G,ag j (dx x b A k*G)->Calls Q 161 #[fI b n,Z Y (id:Int),Z Y (L.length:Int),.agg #[Z Y (a:Int),U (str nm)]] j (YE x' b o v c G j)) :
  Calls Q 100 #[fI b n,Z Y (id:Int),U (str nm),Z Y (a:Int)] w (YE x' b o v c F w):=by
 refine aF fun h0 HQ=>?_;have s:=h.alloc (cH b n);have dA:=ae ((aj.refl w).alloc (cH b n));have J:=ae (jc s.ah B (je H O));obtain ⟨m,t⟩:∃ m,L.length=m:=⟨_,rfl⟩
 have c0:(w.alloc (cH b n)).cell? ⟨w.heap.size,0,W⟩=X (S (X ⟨b,0,W⟩)):=s.cell 0;rw [t] at u;have b0:=ae u;have HM:=ae t;have f0:=ae (sa I);have i0:(m:Int)<3840:=O
 have HL:Hid (L.length<=3840):=Nat.le_of_lt E;have z:=ae fun w=>qG w nm;rw [C] at z;have g1:¬ ((a:Int)<1):=O
 have g2:¬ ((3839:Int)<(a:Int)):=O
 clear h s B H t E C I d0 e0 u;unfold fI
 go_in
 go_wp2_with fail
 refine J.o.mono ?_;generalize w.alloc (cH b n)=j at *;generalize w.heap.size=d at *;rintro r w2 ⟨g0,rfl,d2,q⟩;have i:=dS w2 g0 L nm _ HL.o q;unfold qd at i;rw [f0.o] at i;have p:=ae i;obtain ⟨K,M,rfl⟩:=aC q;rw [HM.o] at p ⊢;clear J q i
 go_wp2_with fail
 refine (z.o _).mono ?_;rintro r l ⟨rfl,rfl⟩
 go_wp2_with fail
 refine p.o.mono ?_;rintro r l ⟨rfl,g,d3⟩;have c0:l.cell? ⟨d,0,W⟩=X (S (X ⟨b,0,W⟩)):=g.au.cell 0;have c1:l.cell? ⟨d,1,W⟩=X (Z Y (n:Int)):=g.au.cell 1;have y:=ae g;clear g p
 go_wp2_with fail
 refine (b0.o l _ (y.o.to (by ac_rfl:_=dx x b A k*((sl 81 2 (R K m M) m (bG L)*pt d (cH b n))*F)))).mono ?_;rintro r w4 ⟨rfl,d4,h4⟩;have N:=ae (h4.to (by ac_rfl:_=(sl 81 2 (R K m M) m (bG L)*pt d (cH b n))*(dx x' b o v*F))).right;clear h4 y
 go_wp2_with fail
 exact HQ.o _ _ ⟨Si0,((dA.o.trans d2).trans d3).trans d4,N.o⟩
def uB {a:Nat} (c:1<=a) (d:a<=3839) (h:ag w (dx x b A k*F)) (g:A id=X (eC lk L)) (l:rX L) (j:L.length<3840) (i:cK nm=Z') (p:iE L nm=W) (o:aY (L.length+1)<=k+aY L.length) :
  Calls Q 100 #[fI b n,Z Y (id:Int),U (str nm),Z Y (a:Int)] w (YE (x.more 5) b (df A id (X (eC lk (L++[⟨a,nm⟩])))) (k+aY L.length-aY (L.length+1)) 0 F w):=
 FY c d h g l j i p fun q G m=>Oy (e:=⟨a,nm⟩) (aL.mH.2 ⟨c,d,sk i⟩) l j g o m
def SZ {a:Nat} (c:1<=a) (d:a<=3839) (h:ag w (dx x b A k*F)) (g:A id=X (eC lk L)) (l:rX L) (j:L.length<3840) (i:cK nm=Z') (p:iE L nm=W) (o:k+aY L.length<aY (L.length+1)) :
  Calls Q 100 #[fI b n,Z Y (id:Int),U (str nm),Z Y (a:Int)] w (YE x b A k 7 F w):=
 FY c d h g l j i p fun q G m=>QK (e:=⟨a,nm⟩) (aL.mH.2 ⟨c,d,sk i⟩) l j g o m
end
end Go.Proofs.Fs
namespace Go.SL
open RowKit
def mn (L:List aL) (i:Nat):List aL:=(L.set i (L.getD (L.length-1) aL.no)).take (L.length-1)
def ke {L:List aL} {i:Nat}:(mn L i).length=L.length-1:=by
 unfold mn;rw [List.length_take,B3];omega
def MW {L:List aL}:mn L (L.length-1)=L.take (L.length-1):=by
 unfold mn;rw [List.take_set_of_le (Nat.le_refl _)]
def F4 {L:List aL} (h:rX L) {i:Nat} (a:i<L.length):(L.getD i aL.no).ok=Z':=by
 rw [A2,B1 a];exact h _ (List.getElem_mem a)
def O5 {L:List aL} (h:rX L) {i:Nat} (a:i<L.length):rX (mn L i):=Bv (An h (F4 h O) i) _
end Go.SL
namespace Go.Proofs.Fs
open RowKit SL Proofs.Ba
section
variable {n:Nat} {x:Fx n} {b k id:Nat} {A:Nat->Option AF} {f:AF} {lk:Int} {L:List aL} {w:P} {F:ai} {nm:List UInt8}
def Fx.fork {n:Nat} (x:Fx n) (j:Nat) (M:gD x.σ):Fx n:=
 ⟨x.σ,x.c,x.V0,x.I,x.ok,x.Ki,x.h4,x.hn,fun a=>aU 177 5 a j x.c.rd M.err M.W M.D*x.R a,fun a c e h p=>by
  obtain ⟨g,i,l,m,d,rfl⟩:=p;exact ⟨g,i,kY e _ l,x.hR a c e _ m,d,rfl⟩,x.C⟩
def Tq (x:Fx n) (b:Nat) (A:Nat->Option AF) (k:Nat) (F:ai) (w:P) (e:Ending) (a:P):Prop:=
 ∃ g M,e = .returned (az g)/\aj w a/\ag a (dx (x.fork b M) g A k*F)
def yL (h:ag w (dx x b A k*F)):Calls Q 146 #[az b] w (Tq x b A k F w):=by
 obtain ⟨M,o,i⟩:=ag.kV h;obtain ⟨c,j⟩:=ag.np i;refine (BS w c b x.c.rd M.err M.W M.D (x.c.RI M.s*(x.R c*F)) (j.to (by unfold dG;ac_rfl)) ⟨_,_,rfl⟩).mono ?_;rintro e p ⟨a,g,m,rfl,l,d⟩;refine ⟨g,M,rfl,d,?_⟩;have h4:=(l.t00 (x.R c*(aU 177 5 a g x.c.rd M.err M.W M.D*(aU 177 5 a b x.c.rd M.err M.W M.D*(al a*(x.c.RI M.s*F)))))).gZ (x.hR c a m);refine ag.nQ (x:=x.fork b M) o ?_;refine ag.aw.2 ⟨a,?_⟩;exact h4.to (by show _=(dG x.c a g M*(al a*(aU 177 5 a b x.c.rd M.err M.W M.D*x.R a)))*F;unfold dG;ac_rfl)
def RE (x:Fx n) (b:Nat) (A:Nat->Option AF) (k:Nat) (F:ai) (w:P) (e:Ending) (a:P):Prop:=
 e = .returned (.tuple #[])/\aj w a/\ag a (dx x b A k*F)
def yB {M:gD x.σ} {g:Nat} (h:ag w (dx (x.fork b M) g A k*F)):Calls Q 147 #[az b,az g] w (RE x b A k F w):=by
 obtain ⟨c,o,i⟩:=ag.kV h;obtain ⟨a,j⟩:=ag.aw.1 i
 have l:ag w (aU 177 5 a b x.c.rd M.err M.W M.D*(aU 177 5 a g x.c.rd c.err c.W c.D*(al a*(x.c.RI c.s*(x.R a*F))))):=
  j.to (by show (dG x.c a g c*(al a*(aU 177 5 a b x.c.rd M.err M.W M.D*x.R a)))*F=_;unfold dG;ac_rfl)
 apply (Ce w a b g x.c.rd x.c.rd c.err M.err c.W c.D M.W M.D _ l ⟨_,_,rfl⟩).mono;rintro e q ⟨p,m,rfl,h4,d⟩;refine ⟨rfl,d,?_⟩;have h5:=h4.iD;exact ag.nQ (x:=x) o (ag.qN m (h5.to (by unfold dG;ac_rfl)))
def R6 {m q a:Nat} {p:Nat} {E:aL} (h:ag w (sl 81 2 (R (X ⟨a,0,W⟩) m p) m (bG L)*F)) (o:L.length=m) (j:q<L.length) (l:L[q]'j=E) :
  w.cell? ⟨a,q*2,W⟩=X (Z Y (E.nd:Int))/\w.cell? ⟨a,q*2+1,W⟩=X (U (str E.nm)):=by
 obtain ⟨g,c,e,d,i,r,s⟩:=oD (L:=L) (k:=q) (h.to (by rw [o])) j;simp only [Value.slice.injEq,Option.some.injEq,Addr.mk.injEq] at e;obtain ⟨⟨rfl,-⟩,-⟩:=e;rw [l] at d i;exact ⟨d,i⟩
def QQ (x:Fx n) (b:Nat) (A:Nat->Option AF) (k h:Nat) (d F:ai) (w:P) (u:Value) (c:P):Prop:=
 ∃ (g:Nat) (M:gD x.σ) (a:Nat),u=az a/\aj w c/\ag c (pt a (V #[az g,Z Y (n:Int)] 76 (0,0))*(dx (x.fork b M) g A k*(d*(pt h (cH b n)*F))))
def EW (D0:ag w (dx x b A k*F)) (hf:A id=X (eC lk L)) (n0:rX L) (hl:L.length<=3840) {i:Nat} (hi:iE L nm=X i) :
    Calls Q 102 #[fI b n,Z Y (id:Int),U (str nm)] w (YE (x.more 9) b (df A id (X (eC lk (mn L i)))) (k+aY L.length-aY (L.length-1)) 0 F w):=by
  refine aF fun W0 HQ=>?_;have hL:=vJ hi;have hA:=D0.alloc (cH b n);have dA:=ae ((aj.refl w).alloc (cH b n));have hr:=ae (jc hA.ah hf (je n0 hl));have hp:=sZ hi;obtain ⟨m,hm⟩:=Nm L.length
  have c0:(w.alloc (cH b n)).cell? ⟨w.heap.size,0,W⟩=X (S (X ⟨b,0,W⟩)):=hA.cell 0;have HP:=ae hp;have h:=ae hm;have HF:=ae hf;have K:=ae n0;have Y0:(m:Int)<=3840:=O
  have X0:(i:Int)<(m:Int):=O
  have y:=ae hl;clear D0 hA hf n0 hp hm hl hi;unfold fI
  go_in
  go_wp2_with fail
  apply hr.o.mono;generalize w.alloc (cH b n)=w1 at *;generalize w.heap.size=a at *;rintro r w2 ⟨p0,rfl,d2,h2⟩;have d0:=dS w2 p0 L nm _ y.o h2;unfold qd at d0;rw [HP.o] at d0;have k0:=ae d0;obtain ⟨I,o,rfl⟩:=aC h2;rw [h.o] at k0 ⊢;clear hr d0 h2
  go_wp2_with fail
  apply k0.o.mono;rintro r l ⟨rfl,G,d3⟩;have D3:=ae ((dA.o.trans d2).trans d3);have s0:l.cell? ⟨a,0,W⟩=X (S (X ⟨b,0,W⟩)):=G.au.cell 0;have s1:l.cell? ⟨a,1,W⟩=X (Z Y (n:Int)):=G.au.cell 1;have N:=G.alloc (V #[S W,Z Y 0] 76 (0,0));have r0:=ae ((D3.o.alloc (V #[S W,Z Y 0] 76 (0,0))).drew);have G0:=ae (yL (x:=x) (b:=b) (k:=k) (A:=A) (w:=(l.alloc (V #[S W,Z Y 0] 76 (0,0))).drew) (F:=pt l.heap.size (V #[S W,Z Y 0] 76 (0,0))*(sl 81 2 (R I m o) m (bG L)*(pt a (cH b n)*F))) (N.drew.u00));have H0:=ae (yL (x:=x) (b:=b) (k:=k) (A:=A) (w:=l.drew) (F:=(sl 81 2 (R I m o) m (bG L)*(pt a (cH b n)*F))) (G.drew.u00));have t0:(l.alloc (V #[S W,Z Y 0] 76 (0,0))).cell? ⟨a,0,W⟩=X (S (X ⟨b,0,W⟩)):=N.aA.cell 0;have t1:(l.alloc (V #[S W,Z Y 0] 76 (0,0))).cell? ⟨a,1,W⟩=X (Z Y (n:Int)):=N.aA.cell 1;clear G N k0 d3 d2 dA
  go_wp2_with fail
  go_cut [11] from 31 to 36 (fun p0 wx=>QQ x b A k a (sl 81 2 (R I m o) m (bG L)) F w p0 wx)
  case first=>
    go_region_held3 (fun v=>v.cell? ⟨a,0,W⟩=X (S (X ⟨b,0,W⟩))/\v.cell? ⟨a,1,W⟩=X (Z Y (n:Int)))
      (first|exact ⟨s0,s1⟩|exact ⟨t0,t1⟩|exact u|exact L0|exact V0|go_keep)
      (first | (go_at_call 146; apply G0.o.mono; rintro r d ⟨g, M, rfl, z, h4⟩; have u : d.cell? ⟨a, 0, W⟩ = X (S (X ⟨b, 0, W⟩)) /\ d.cell? ⟨a, 1, W⟩ = X (Z Y (n : Int)) := ⟨h4.aA.cell 0, h4.aA.cell 1⟩; have z0 : d.cell? ⟨l.heap.size, 0, W⟩ = X (S W) := h4.ah.cell 0; have z1 : d.cell? ⟨l.heap.size, 1, W⟩ = X (Z Y 0) := h4.ah.cell 1; have f0 := h4.ah.frozen 0; have f1 := h4.ah.frozen 1;
                have h5:=((h4.ah.setCell 0 (az g)).setCell 1 (Z Y (n:Int)));have L0:((d.setCell ⟨l.heap.size,0,W⟩ (az g)).setCell ⟨l.heap.size,1,W⟩ (Z Y (n:Int))).cell? ⟨a,0,W⟩=X (S (X ⟨b,0,W⟩))/\((d.setCell ⟨l.heap.size,0,W⟩ (az g)).setCell ⟨l.heap.size,1,W⟩ (Z Y (n:Int))).cell? ⟨a,1,W⟩=X (Z Y (n:Int)):=⟨h5.aA.cell 0,h5.aA.cell 1⟩)
             | (go_at_call 146;apply H0.o.mono;rintro r d ⟨g,M,rfl,z,h4⟩;have u:d.cell? ⟨a,0,W⟩=X (S (X ⟨b,0,W⟩))/\d.cell? ⟨a,1,W⟩=X (Z Y (n:Int)):=⟨h4.au.cell 0,h4.au.cell 1⟩;have l0:=h4.alloc (V #[S W,Z Y 0] 76 (0,0));have L0:(d.alloc (V #[S W,Z Y 0] 76 (0,0))).cell? ⟨a,0,W⟩=X (S (X ⟨b,0,W⟩))/\(d.alloc (V #[S W,Z Y 0] 76 (0,0))).cell? ⟨a,1,W⟩=X (Z Y (n:Int)):=⟨l0.aA.cell 0,l0.aA.cell 1⟩;
                have h5:=((l0.setCell 0 (az g)).setCell 1 (Z Y (n:Int)));have V0:(((d.alloc (V #[S W,Z Y 0] 76 (0,0))).setCell ⟨d.heap.size,0,W⟩ (az g)).setCell ⟨d.heap.size,1,W⟩ (Z Y (n:Int))).cell? ⟨a,0,W⟩=X (S (X ⟨b,0,W⟩))/\(((d.alloc (V #[S W,Z Y 0] 76 (0,0))).setCell ⟨d.heap.size,0,W⟩ (az g)).setCell ⟨d.heap.size,1,W⟩ (Z Y (n:Int))).cell? ⟨a,1,W⟩=X (Z Y (n:Int)):=⟨h5.aA.cell 0,h5.aA.cell 1⟩))
    all_goals go_wp2_with fail
    all_goals go_meet
    all_goals first
      | exact ⟨g,M,d.heap.size,rfl,((D3.o.drew.trans z).alloc (V #[az g,Z Y (n:Int)] 76 (0,0))),(h4.alloc (V #[az g,Z Y (n:Int)] 76 (0,0))).u00⟩
      | exact ⟨g,M,l.heap.size,rfl,((r0.o.trans z).setCell _ _).setCell _ _,h5.to (by show pt _ (V #[az g,Z Y (n:Int)] 76 (0,0))*_=_;ac_rfl)⟩
  case rest=>
    obtain ⟨g,M,j,rfl,g0,s⟩:=hcut;clear G0 H0 D3 r0 s0 s1 t0 t1 c0;have q0:wc.cell? ⟨j,0,W⟩=X (az g):=s.cell 0;have q1:wc.cell? ⟨j,1,W⟩=X (Z Y (n:Int)):=s.cell 1;rw [show (m:Int)-1=((m-1:Nat):Int) by omega];obtain ⟨q,hq⟩:=Nm (m-1)
    have u0:Hid (L.length-1=q):=by show _=_;rw [h.o,hq]
    have b1:(q:Int)<(m:Int):=O
    have e0:q+1=m:=O
    rw [hq]
    by_cases Z0:(i:Int)<(q:Int)
    · have a1:i<q:=O
      have b0:=F4 K.o (i:=q) (by have:=h.o;omega);obtain ⟨t,c,e,e1,e2,k1,k2⟩:=oD (L:=L) (k:=q) ((s.au).to (by rw [h.o])) (by have:=h.o;omega);simp only [Value.slice.injEq] at e;obtain ⟨rfl,-,rfl⟩:=e;have c1:(m:Int)<=(o:Int):=by have:=h.o;omega
      have d1:(o:Int)<=9223372036854775807:=O
      obtain ⟨E,hE⟩:=Nm (L.getD q aL.no)
      have F0:L[q]'(by have:=h.o;omega)=E:=by rw [<- hE,A2,B1 (by have:=h.o;omega)];rfl
      rw [F0] at e1 e2;rw [hE] at b0;have K0:=Mn (x:=x.fork b M) (b:=g) (k:=k) (id:=id) (A:=A) (w:=wc.drew) (e:=E) (F:=sl 81 2 (R (X ⟨t,0,W⟩) m o) m (bG L)*(pt a (cH b n)*(pt j (V #[az g,Z Y (n:Int)] 76 (0,0))*F))) b0 K.o y.o HF.o hL (s.drew.u00);have x0:=ae K0;have HS:=ae g0;have S0:=ae s;have HE:=ae hE;have N0:=ae b0;have R0:=ae e0;clear K0 g0 s hE b0 F0 k1 k2 hq e0
      go_wp2_with fail
      go_region_held3 (fun v=>v.cell? ⟨j,0,W⟩=X (az g)/\v.cell? ⟨j,1,W⟩=X (Z Y (n:Int))/\v.cell? ⟨t,q*2,W⟩=X (Z Y (E.nd:Int))/\v.cell? ⟨t,q*2+1,W⟩=X (U (str E.nm)))
        (first|exact ⟨q0,q1,e1,e2⟩|exact u|go_keep)
        (first|(go_at_call 161;apply x0.o.mono;rintro r d ⟨rfl,z,h4⟩;have u:d.cell? ⟨j,0,W⟩=X (az g)/\d.cell? ⟨j,1,W⟩=X (Z Y (n:Int))/\d.cell? ⟨t,q*2,W⟩=X (Z Y (E.nd:Int))/\d.cell? ⟨t,q*2+1,W⟩=X (U (str E.nm)):=⟨h4.aA.cell 0,h4.aA.cell 1,R6 h4.ah h.o (by have:=h.o;omega) (by rw [<- HE.o,A2,B1 (by have:=h.o;omega)];rfl)⟩))
      rename_i T0;clear T0;have D4:=ae (HS.o.drew.trans z);have q0:d.cell? ⟨j,0,W⟩=X (az g):=u.1;have q1:d.cell? ⟨j,1,W⟩=X (Z Y (n:Int)):=u.2.1;have h4:=h4.t00 (dx ((x.fork b M).more 5) g (df A id (X (eC lk (L.set i E)))) k*(pt j (V #[az g,Z Y (n:Int)] 76 (0,0))*(pt a (cH b n)*(sl 81 2 (R (X ⟨t,0,W⟩) m o) m (bG L)*F))));have m0:(L.set i E).length=L.length:=B3;have h0:Hid (q<=(L.set i E).length):=by show q<=(L.set i E).length;rw [m0,h.o];omega
      have i0:Hid ((L.set i E).length<=3840):=by show (L.set i E).length<=3840;rw [m0];exact y.o
      have j0:Hid ((mn L i).length<=3840):=by show (mn L i).length<=3840;rw [ke];have:=y.o;omega
      have o0:(L.set i E).take q=mn L i:=by unfold mn;rw [u0.o,HE.o]
      clear u z S0 x0;have p:=ae (Ae (x:=(x.fork b M).more 5) (b:=g) (k:=k) (id:=id) (A:=(df A id (X (eC lk (L.set i E))))) (w:=d) h4 (if_pos rfl) (32*q) O);rw [CI (An K.o N0.o i) h0.o,o0,fN i0.o,fN j0.o,ke,m0,h.o,RQ] at p;rw [show ((32*q:Nat):Int)=(q:Int)*32 by omega] at p
      go_wp2_with fail
      apply p.o.mono;rintro r J ⟨rfl,B,h5⟩;clear p;have v0:J.cell? ⟨j,0,W⟩=X (az g):=h5.ah.cell 0;have v1:J.cell? ⟨a,0,W⟩=X (S (X ⟨b,0,W⟩)):=h5.au.cell 0;have J0:=ae (yB (x:=x.more 9) (M:=M) h5);have D5:=ae (D4.o.trans B);clear B
      go_wp2_with fail
      apply J0.o.mono;rintro r w6 ⟨rfl,C,H⟩;have H6:=ae ((H.t00 ((pt j (V #[az g,Z Y (n:Int)] 76 (0,0))*(pt a (cH b n)*(sl 81 2 (R (X ⟨t,0,W⟩) m o) m (bG L))))*(dx (x.more 9) b (df A id (X (eC lk (mn L i)))) (k+aY m-aY (m-1))*F))).right);have D6:=ae (D5.o.trans C);clear h5 H J0 C v0 v1
      go_wp2_with fail
      exact HQ.o _ _ ⟨Si0,D6.o,by have:=H6.o;rw [<- h.o] at this;exact this⟩
    · obtain rfl:i=q:=O
      have h4:=s.t00 (dx (x.fork b M) g A k*(pt j (V #[az g,Z Y (n:Int)] 76 (0,0))*(pt a (cH b n)*(sl 81 2 (R I m o) m (bG L)*F))));have h0:Hid (i<=L.length):=by show i<=L.length;rw [h.o];omega
      have i0:Hid (L.length<=3840):=y.o;have j0:Hid ((mn L i).length<=3840):=by show (mn L i).length<=3840;rw [ke];have:=y.o;omega
      have o0:L.take i=mn L i:=by rw [<- u0.o,MW]
      have D4:=ae g0;have R0:=ae e0;clear s g0 hq e0
      go_wp2_with fail
      have p:=ae (Ae (x:=x.fork b M) (b:=g) (k:=k) (id:=id) (A:=A) (w:=wc) h4 HF.o (32*i) O);rw [CI K.o h0.o,o0,fN i0.o,fN j0.o,ke,h.o] at p;rw [show ((32*i:Nat):Int)=(i:Int)*32 by omega] at p
      go_wp2_with fail
      apply p.o.mono;rintro r J ⟨rfl,B,h5⟩;clear p;have v0:J.cell? ⟨j,0,W⟩=X (az g):=h5.ah.cell 0;have v1:J.cell? ⟨a,0,W⟩=X (S (X ⟨b,0,W⟩)):=h5.au.cell 0;have J0:=ae (yB (x:=x.more 4) (M:=M) h5);have D5:=ae (D4.o.trans B);clear B
      go_wp2_with fail
      apply J0.o.mono;rintro r w6 ⟨rfl,C,H⟩;have H6:=ae ((H.t00 ((pt j (V #[az g,Z Y (n:Int)] 76 (0,0))*(pt a (cH b n)*(sl 81 2 (R I m o) m (bG L))))*(dx (x.more 4) b (df A id (X (eC lk (mn L i)))) (k+aY m-aY (m-1))*F))).right |> ag.mY 5);have D6:=ae (D5.o.trans C);clear h5 H J0 C v0 v1
      go_wp2_with fail
      exact HQ.o _ _ ⟨Si0,D6.o,by have:=H6.o;rw [<- h.o] at this;exact this⟩
end
end Go.Proofs.Fs
namespace Go.SL
open RowKit
inductive sd where
 | file (f:AF)
 | dir (L:List aL)
def sd.af:sd->AF
 | .file f=>f
 | .dir L=>eC 1 L
abbrev Tr:=Nat->Option sd
def eH (T:Tr):Nat->Option AF:=fun id=>(T id).map sd.af
def qu (T:Tr) (id:Nat) (x:sd):df (eH T) id (X x.af)=eH (df T id (X x)):=by
 funext b;unfold eH df;split <;> rfl
def BB (T:Tr) (id:Nat):df (eH T) id W=eH (df T id W):=by
 funext b;unfold eH df;split <;> rfl
def gL {T:Tr} {id:Nat} {f:AF} (h:T id=X (.file f)):eH T id=X f:=by unfold eH;rw [h];rfl
def jG {T:Tr} {id:Nat} {L:List aL} (h:T id=X (.dir L)):eH T id=X (eC 1 L):=by unfold eH;rw [h];rfl
def gJ:Tr:=fun id=>if id=1 then X (.dir []) else W
structure nx (L:List aL):Prop where
 ok:rX L
 len:L.length<=3840
 nd:(L.map aL.nm).Nodup
 nm:∀ e ∈ L,cK e.nm=true
def dN:Option sd->List aL
 | some (.dir L)=>L
 | _=>[]
def bD (ps:List (List UInt8)):List UInt8:=ps.getD (ps.length-1) []
def refs (n:Nat) (T:Tr) (id:Nat):Nat:=((B2 n).map fun d=>(dN (T d)).countP fun e=>e.nd == id).sum
def C7 (id:Nat):Option sd->Int
 | some (.file f)=>f.lk
 | some (.dir _)=>if id=1 then 0 else 1
 | none=>0
structure Tidy (n:Nat) (T:Tr):Prop where
 root:∃ L,T 1=some (.dir L)
 mz:∀ id L,T id=some (.dir L)->nx L
 files:∀ id f,T id=some (.file f)->f.kd=1
 ref:∀ id,(refs n T id:Int)=C7 id (T id)
 out:∀ id,n<=id->T id=none
def eo (x:Option sd) (nm:List UInt8):Int × Nat:=match x with
 | some (.dir L)=>(match iE L nm with|some i=>(0,(L.getD i aL.no).nd)|none=>(5,0))
 | some (.file _)=>(8,0)
 | none=>(4,0)
def aO (T:Tr):Nat->List (List UInt8)->Int × Nat
 | id,[]=>(0,id)
 | id,nm :: ps=>if (eo (T id) nm).1=0 then aO T (eo (T id) nm).2 ps else ((eo (T id) nm).1,0)
def IB (T:Tr) (id:Nat):aO T id []=(0,id):=rfl
def iP {T:Tr} {id:Nat} {nm:List UInt8} {ps:List (List UInt8)} (h:(eo (T id) nm).1=0):aO T id (nm :: ps)=aO T (eo (T id) nm).2 ps:=if_pos h
def qZ {T:Tr} {id:Nat} {nm:List UInt8} {ps:List (List UInt8)} (h:¬ (eo (T id) nm).1=0):aO T id (nm :: ps)=((eo (T id) nm).1,0):=if_neg h
def jT {L:List aL} {nm:List UInt8} {i:Nat} (h:iE L nm=X i):eo (X (.dir L)) nm=(0,(L.getD i aL.no).nd):=by unfold eo;simp only [h]
def mM {L:List aL} {nm:List UInt8} (h:iE L nm=W):eo (X (.dir L)) nm=(5,0):=by unfold eo;simp only [h]
def SQ {l:List Nat} {a:Nat} (h:a ∈ l):a<=l.sum:=by
 induction l with
 | nil=>cases h
 | cons b l c=>
  rw [List.sum_cons];rcases List.mem_cons.1 h with rfl|h
  .omega
  .have:=c h;omega
def wQ {n:Nat} {T:Tr} {d:Nat} {L:List aL} {e:aL} (c:d<n) (a:T d=X (.dir L)) (g:e ∈ L):0<refs n T e.nd:=by
 have h:0<(dN (T d)).countP fun x=>x.nd == e.nd:=by rw [a];exact List.countP_pos_iff.2 ⟨e,g,Si0⟩
 have i:((dN (T d)).countP fun x=>x.nd == e.nd)<=refs n T e.nd:=SQ (List.mem_map.2 ⟨d,List.mem_range.2 c,rfl⟩);omega
section
variable {n:Nat} {T:Tr}
def Tidy.lt (h:Tidy n T) {id:Nat} {x:sd} (c:T id=X x):id<n:=by
 rcases Nat.lt_or_ge id n with a|a
 .exact a
 .rw [h.out id a] at c;cases c
def Tidy.has (h:Tidy n T) {d:Nat} {L:List aL} {e:aL} (c:T d=X (.dir L)) (g:e ∈ L):∃ x,T e.nd=X x:=by
 have j:=wQ (h.lt c) c g;have a:=h.ref e.nd
 cases i:T e.nd with
 | some x=>exact ⟨x,rfl⟩
 | none=>rw [i] at a;simp only [C7] at a;omega
def Tidy.find (h:Tidy n T) {id:Nat} {x:sd} (g:T id=X x) {nm:List UInt8} (a:(eo (T id) nm).1=0):∃ y,T (eo (T id) nm).2=X y:=by
 rw [g] at a ⊢
 cases x with
 | file f=>exact absurd a (show ¬ (8:Int)=0 by decide)
 | dir L=>
  cases c:iE L nm with
  | none=>rw [mM c] at a;exact absurd a De0
  | some i=>
   rw [jT c];have d:=vJ c;exact h.has g (e:=L.getD i aL.no) (by rw [A2,B1 d];exact List.getElem_mem d)
def Tidy.walk (h:Tidy n T):∀ (ps:List (List UInt8)) {id:Nat} {x:sd},T id=X x->(aO T id ps).1=0->∃ y,T (aO T id ps).2=X y
 | [],id,x,d,_=>⟨x,d⟩
 | nm :: ps,id,x,d,a=>by
  by_cases c:(eo (T id) nm).1=0
  .rw [iP c] at a ⊢
   obtain ⟨y,hy⟩:=h.find d c;exact h.walk ps hy a
  .rw [qZ c] at a;exact absurd a c
def Gz {f g:Nat->Nat} {d:Nat} (h:∀ i,i≠d->g i=f i):∀ m,d<m->((B2 m).map g).sum+f d=((B2 m).map f).sum+g d
 | m+1,c=>by
  rw [List.range_succ,List.map_append,List.map_append,List.sum_append,List.sum_append];simp only [List.map_cons,List.map_nil,List.sum_cons,List.sum_nil,Nat.add_zero]
  by_cases e:d=m
  .subst e
   have:(B2 d).map g=(B2 d).map f:=List.map_congr_left fun i a=>h i (by have:=List.mem_range.1 a;omega);rw [this];omega
  .have:=Gz h m O
   rw [h m O];omega
def rS {d:Nat} (a:d<n) (x:Option sd) (id:Nat):refs n (df T d x) id+(dN (T d)).countP (fun e=>e.nd == id)=refs n T id+(dN x).countP fun e=>e.nd == id:=by
 have:=Gz (f:=fun j=>(dN (T j)).countP fun e=>e.nd == id) (g:=fun j=>(dN (df T d x j)).countP fun e=>e.nd == id) (d:=d) (fun i c=>by rw [aI _ _ c]) n a;simp only [bA] at this;exact this
end
end Go.SL
namespace Go.Proofs.Fs
open RowKit SL Proofs.Ba
attribute [local go_sem] Oper.semAt_some
section
variable {n:Nat} {x:Fx n} {b k id:Nat} {A:Nat->Option AF} {f:AF} {lk:Int} {L:List aL} {w:P} {F:ai} {nm:List UInt8}
def Ug (x:Fx n) (b:Nat) (A:Nat->Option AF) (k:Nat) (c:Int) (F:ai) (w:P) (e:Ending) (a:P):Prop:=
 e = .returned (.tuple #[R W 0 0,Z Y c])/\aj w a/\ag a (dx x b A k*F)
def y0 (h:ag w (dx x b A k*F)) (z:A id=X f) (B:f.kd=1) :
  Calls Q 77 #[fI b n,Z Y (id:Int)] w (Ug x b A k 8 F w):=by
 have i:=(((h.alloc (cH b n)).alloc (V #[R W 0 0] 71 (0,0))).alloc (V #[Z Y 0] 31 (0,0)))
 have t:=(((aj.refl w).alloc (cH b n)).alloc (V #[R W 0 0] 71 (0,0))).alloc (V #[Z Y 0] 31 (0,0));simp only [World.size_alloc] at i;have K:=ae B;have J:=ae z;clear h B z;unfold fI;refine (callsIn_wide (n:=9)).1 ?_;refine callsIn_of_wp_marks func77 rfl trivial ?_ rfl;simp only [ntmps77,List.size_toArray,List.length_cons,List.length_nil,Nat.reduceAdd,Nat.reduceSub,Array.replicate_succ,Array.replicate_zero,List.push_toArray,List.append_toArray,D2,List.cons_append];have q:=i.au.cell 0;have r:=i.au.cell 1;simp at q r;refine wpIn_wide.2 ?_
 go_wp2_with fail
 generalize (((w.alloc (cH b n)).alloc (V #[R W 0 0] 71 (0,0))).alloc (V #[Z Y 0] 31 (0,0)))=w1 at *;generalize w.heap.size+1+1=g at *;generalize w.heap.size+1=d at *;generalize w.heap.size=p at *;have v:=i.t00 (dx x b A k*(pt p (cH b n)*(pt d (V #[R W 0 0] 71 (0,0))*(pt g (V #[Z Y 0] 31 (0,0))*F))));apply (DM v J.o).mono;rintro e c ⟨y,rfl,C,E,d0,e0,s,u⟩;have o:(ints y.l).size=20:=by rw [er,Nd.cells C]
 have l:=u.alloc (V #[Z Y 0,Z Y 0,Z Y 0,Z Y 0,Z Y 0,Z Y 0,Z Y 0,Z Y 0,Z Y 0,Z Y 0,Z Y 0,Z Y 0,Z Y 0,Z Y 0,Z Y 0,Z Y 0,Z Y 0,Z Y 0,Z Y 0,Z Y 0] 66 (0,0));have Hz:=ae l.heap;have m:=l.setRow (cs':=ints y.l);have G:=ae (((t.trans s).alloc (V #[Z Y 0,Z Y 0,Z Y 0,Z Y 0,Z Y 0,Z Y 0,Z Y 0,Z Y 0,Z Y 0,Z Y 0,Z Y 0,Z Y 0,Z Y 0,Z Y 0,Z Y 0,Z Y 0,Z Y 0,Z Y 0,Z Y 0,Z Y 0] 66 (0,0))).setRow c.heap.size (ints y.l));have b0:Hid ((ints y.l).all (·.oneCell')=Z'):=by simp [RowKit.Hid,ints,Value.oneCell']
 have N:Hid ((prog.info? 66).map (·.size)=X (ints y.l).size):=by show _=_;rw [o];exact bC
 have M:=ae o;have n0:((c.alloc (V #[Z Y 0,Z Y 0,Z Y 0,Z Y 0,Z Y 0,Z Y 0,Z Y 0,Z Y 0,Z Y 0,Z Y 0,Z Y 0,Z Y 0,Z Y 0,Z Y 0,Z Y 0,Z Y 0,Z Y 0,Z Y 0,Z Y 0,Z Y 0] 66 (0,0))).setRow c.heap.size (ints y.l)).cell? ⟨c.heap.size,0,W⟩=X (Z Y 1):=by rw [<- K.o,<- E];exact m.cell 0
 have a:=m.t00 (pt d (V #[R W 0 0] 71 (0,0))*(pt g (V #[Z Y 0] 31 (0,0))*((dx x b A k*F)*(pt c.heap.size (V (ints y.l) 66 (0,0))*pt p (cH b n)))));have z0:=a.cell 0;have z1:=a.ah.cell 0;have f0:=a.frozen 0;have f1:=a.ah.frozen 0;have c0:¬ (d=g):=ag.ne a;have g0:¬ (g=d):=fun h=>c0 h.symm;have I:=ae ((a.setCell 0 (R W 0 0)).ah.setCell 0 (Z Y 8));have H:=ae ((G.o.setCell ⟨d,0,W⟩ (R W 0 0)).setCell ⟨g,0,W⟩ (Z Y 8));simp at z0 z1;clear i v u l m a o C E d0 e0 s t q r
 go_wp2_with (refine wpList_store_row (by exact rfl) 66 (.tmp 6) (.tmp 15) (by exact rfl) c.heap.size (ints y.l) (by exact rfl) (by exact rfl) 66 _ (by with_reducible exact Hz.o) N.o (by rw [M.o];rfl) b0.o ?_)
 have j:=I.o.ah;simp only [List.setIfInBounds_toArray,List.set_cons_zero] at j;refine ⟨_,pN rfl rfl j,rfl,H.o,?_⟩;exact (j.t00 ((pt d (V #[R W 0 0] 71 (0,0))*(pt g (V #[Z Y 8] 31 (0,0))*(pt c.heap.size (V (ints y.l) 66 (0,0))*pt p (cH b n))))*(dx x b A k*F))).right
def JN (h:ag w (dx x b A k*F)) (d:A id=X f) (g:f.kd=1) :
  Calls Q 99 #[fI b n,Z Y (id:Int),U (str nm)] w (YI x b A k 0 8 F w):=by
 refine aF fun q l=>?_;have a:=h.alloc (cH b n);have o:=ae ((aj.refl w).alloc (cH b n));have i:=ae (y0 a.ah d g);have s:(w.alloc (cH b n)).cell? ⟨w.heap.size,0,W⟩=X (S (X ⟨b,0,W⟩)):=a.cell 0;clear h a d g;unfold fI
 go_in
 go_wp2_with fail
 refine i.o.mono ?_;generalize w.alloc (cH b n)=t at *;generalize w.heap.size=p at *;rintro r u ⟨rfl,m,c⟩;have j:=ae (c.to (by ac_rfl:_=pt p (cH b n)*(dx x b A k*F))).right;clear i c
 go_wp2_with fail
 exact l.o _ _ ⟨Si0,o.o.trans m,j.o⟩
end
def _root_.Go.SL.xz (w:P) (v:Value) (l:List (List UInt8)):Prop:=
 (∃ x c,v = R x 0 c/\l=[])\/∃ g o c,v = R (X ⟨g,o,W⟩) l.length c/\l.length<=c/\c<=maxLen/\∀ k,k<l.length->w.cell? ⟨g,o+k,W⟩=X (U (str (l.getD k [])))
section
variable {n:Nat} {x:Fx n} {b k id:Nat} {T:Tr} {w:P} {D F:ai} {nm:List UInt8}
def yu (g:Tidy n T) {y:sd} (hy:T id=X y) (h:ag w (dx x b (eH T) k*F)) :
  Calls Q 99 #[fI b n,Z Y (id:Int),U (str nm)] w (YI x b (eH T) k ((eo (T id) nm).2:Nat) (eo (T id) nm).1 F w):=by
 cases y with
 | file f=>rw [hy];exact JN h (gL hy) (g.files _ _ hy)
 | dir L=>
  have c:=g.mz _ _ hy;rw [hy]
  cases a:iE L nm with
  | none=>rw [mM a];exact O0 h (jG hy) c.ok c.len a
  | some i=>
   rw [jT a];have d:=vJ a;have:=Mj h (jG hy) c.ok c.len a d;rw [show L.getD i aL.no=L[i] by rw [A2,B1 d];rfl];exact this
def Ui (n:Nat) (T:Tr) (ps:List (List UInt8)) (a:ai) (w0:P) (u v:Value) (wr:P):Prop:=
 ∃ (j id:Nat) (y:sd),j<=ps.length/\u = Z Y (j:Int)/\v = Z Y (id:Int)/\T id=X y/\aO T 1 ps=aO T id (ps.drop j)/\aj w0 wr/\ag wr a
def drop_cons {ps:List (List UInt8)} {j:Nat} (h:j<ps.length):ps.drop j=ps.getD j [] :: ps.drop (j+1):=by
 rw [List.drop_eq_getElem_cons h,A2,B1 h];rfl
def GL (y:Tidy n T) {v:Value} {ps:List (List UInt8)} (hl:ps.length<=1000) (s:∀ f0 s0,ag f0 (D*s0)->xz f0 v ps) (h0:ag w (dx x b (eH T) k*(D*F))) :
  Calls Q 75 #[fI b n,v] w (YI x b (eH T) k ((aO T 1 ps).2:Nat) (aO T 1 ps).1 (D*F) w):=by
 refine aF fun H0 G=>?_;have r:=(h0.alloc (cH b n)).t00 (D*(dx x b (eH T) k*(pt w.heap.size (cH b n)*F)));have dA:=(aj.refl w).alloc (cH b n);obtain ⟨L0,n0⟩:=y.root
 obtain ⟨va,vc,rfl⟩:∃ a c,v = R a ps.length c:=by
  rcases s _ _ r with ⟨a,c,rfl,rfl⟩|⟨g0,o,c,rfl,-⟩
  .exact ⟨a,c,rfl⟩
  .exact ⟨_,_,rfl⟩
 have E:=ae r;have B:=ae dA;have HD:=ae s;have J:=ae y;have H:=ae n0;obtain ⟨m,t⟩:=Nm ps.length
 have d:=ae t;have R0:(m:Int)<=1000:=O
 rw [t];clear h0 r dA s y n0 t hl;unfold fI
 go_in
 go_wp2_with fail
 go_loopw [6,13] (fun G0 v wr=>Ui n T ps (D*(dx x b (eH T) k*(pt w.heap.size (cH b n)*F))) w v G0 wr) (fun _ v _=>m-(intOf v).toNat)
 case atStart=>exact ⟨0,1,_,Nat.zero_le _,rfl,rfl,H.o,rfl,B.o,E.o⟩
 case round=>
  obtain ⟨j,id,S0,hj,rfl,rfl,hy,i,p,h⟩:=hrel;rw [d.o] at hj;have I:=ae h;have K:=ae i;have N:=ae hy;have c0:wr.cell? ⟨w.heap.size,0,W⟩=X (S (X ⟨b,0,W⟩)):=h.au.cell 0;have c1:wr.cell? ⟨w.heap.size,1,W⟩=X (Z Y (n:Int)):=h.au.cell 1;clear E B H
  by_cases x0:j<m
  .have N0:(j:Int)<(m:Int):=O
   obtain ⟨nm,u⟩:=Nm (ps.getD j [])
   rcases HD.o _ _ h with ⟨a,c,e,e2⟩|⟨g0,o,c,e,u0,i0,j0⟩
   .rw [e2] at d;exact absurd x0 (by have:=d.o;simp at this;omega)
   simp only [Value.slice.injEq] at e;obtain ⟨rfl,-,rfl⟩:=e;have K0:wr.cell? ⟨g0,o+j,W⟩=X (U (str nm)):=by rw [<- u];exact j0 j (by have:=d.o;omega)
   have k1:(m:Int)<=(vc:Int):=by have:=d.o;omega
   have k2:(vc:Int)<=9223372036854775807:=by unfold maxLen at i0;omega
   have k0:ps.drop j=nm :: ps.drop (j+1):=by rw [<- u];exact drop_cons (by have:=d.o;omega)
   have o0:aO T 1 ps=aO T id (nm :: ps.drop (j+1)):=by rw [<- k0];exact i
   have hf:=yu (nm:=nm) J.o hy (h.t00 (dx x b (eH T) k*(D*(pt w.heap.size (cH b n)*F))));have q0:=fun g=>(iP (T:=T) (id:=id) (nm:=nm) (ps:=ps.drop (j+1)) g)
   have m0:=fun g=>(qZ (T:=T) (id:=id) (nm:=nm) (ps:=ps.drop (j+1)) g)
   have l0:=fun g=>J.o.find hy (nm:=nm) g;have q:=ae hf;have e0:=ae q0;have d0:=ae m0;have b0:=ae l0;have M:=ae o0;have l:=ae p;generalize hq:eo (T id) nm=F0 at *;obtain ⟨c',D0⟩:=F0;dsimp only at q e0 d0 b0;clear h i hy hf q0 m0 l0 j0 u0 i0 k0 o0 u I K N p hq
   go_wp2_with fail
   apply q.o.mono;rintro e w2 ⟨rfl,d2,h2⟩;have C:=ae h2;have z:=ae (l.o.trans d2);clear h2 d2 q l
   by_cases g:c'=0
   .subst g
    obtain ⟨y',p0⟩:=b0.o rfl;have Hy:=ae p0;clear p0
    go_wp2_with fail
    go_roundw
    case rel=>exact ⟨j+1,D0,y',by rw [d.o];omega,by go_num,rfl,Hy.o,M.o.trans (e0.o trivial),z.o,C.o.u00⟩
    case measure=>simp [intOf];omega
   .go_wp2_with fail
    have e:=M.o.trans (d0.o g);refine G.o _ _ ⟨by rw [e];rfl,z.o,?_⟩;exact (C.o.t00 (pt w.heap.size (cH b n)*(dx x b (eH T) k*(D*F)))).right
  .obtain rfl:j=m:=O
   have e:aO T 1 ps=(0,id):=by rw [i,<- d.o,List.drop_length];rfl
   have r0:=ae e;have l:=ae p;clear h i hy e p K N
   go_wp2_with fail
   refine G.o _ _ ⟨by rw [r0.o];rfl,l.o,?_⟩;exact (I.o.t00 (pt w.heap.size (cH b n)*(dx x b (eH T) k*(D*F)))).right
end
end Go.Proofs.Fs

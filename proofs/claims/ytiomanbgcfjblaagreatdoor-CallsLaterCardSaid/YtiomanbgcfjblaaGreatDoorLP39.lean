/- Steps. -/
import Derived.Test.YtiomanbgcfjblaaGreatDoorLP36
import Derived.Test.YtiomanbgcfjblaaGreatDoorLP24
import Derived.Test.YtiomanbgcfjblaaGreatDoorLP38
set_option linter.all false
set_option maxRecDepth 99999
set_option maxHeartbeats 0
open Go.SL
open Go.Value renaming int->Z,string->V
open Go.IntKind renaming i64->Y
open Go.Obj renaming cells->W
open Go.Ending renaming returned->O
open Go renaming World->Q
open Go.Proofs.Tryz renaming prog->R
open Option renaming some->U,none->S
open Go.Proofs.Tryz
open List renaming getD->A1,getElem?_eq_getElem->B3,length_dropLast->D9,setIfInBounds_toArray->D7
namespace Go.Proofs.Cl
open RowKit SL Proofs.Nn Proofs.Ba Proofs.Fs
attribute [local go_sem] Oper.semAt_some
variable {y:xM}
def vA {n:Nat} (x:Fx n) (b v:Nat) (T:Tr) (k:Nat):ai:=pt v (bV b n)*eK x b (gJ T) k
def Xo (X:ai) (c:Int) (r:Value) (w:Q) (e:Ending) (w':Q):Prop:=
 ((c=0/\e = O r)\/(c≠0/\e = .panicked (pF c)))/\ak w w'/\ah w' X
section
variable {n:Nat} {x:Fx n} {b v k id:Nat} {T:Tr} {w:Q} {D F:ai} {nm:List UInt8} {ps:List (List UInt8)} {pv:Value}
def rA (h:ah w (vA x b v T k*F)):ah w (pt v (bV b n)*(eK x b (gJ T) k*F)):=h.to (ar _ _ _)
def Hu (h:ah w (pt v (bV b n)*(eK x b (gJ T) k*F))):ah w (vA x b v T k*F):=h.to (ar _ _ _).symm
def gq (A:Tidy n T) (y:ps.length<=1000) (u:∀ q P,ah q (D*P)->IB q pv ps) (h:ah w (vA x b v T k*(D*F))) :
  Calls R 42 #[ax v,pv] w (Xo (vA x b v T k*(D*F)) (aV T 1 ps).1 (Z Y ((aV T 1 ps).2:Nat)) w):=by
 refine aK fun H j=>?_;have g:=rA h;have C:w.cell? ⟨v,0,S⟩=U (ax b):=g.cell 0;have E:w.cell? ⟨v,1,S⟩=U (Z Y (n:Int)):=g.cell 1;have m:=ae (Jt A y u (g.t00 (eK x b (gJ T) k*(D*(pt v (bV b n)*F)))));generalize aV T 1 ps=p at *;obtain ⟨c,r⟩:=p;dsimp only at m j;clear h g A y u
 go_in
 go_wp2_with fail
 apply m.o.mono;rintro e B ⟨rfl,s,t⟩;have o:=ae (Hu (t.t00 (pt v (bV b n)*(eK x b (gJ T) k*(D*F)))));clear m t C E
 by_cases l:c=0
 .subst l
  have a:=dK B
  go_wp2_with fail
  apply a.mono;rintro e G ⟨rfl,rfl⟩;clear a
  exact Zz (j.o _ _ ⟨.inl ⟨rfl,rfl⟩,s,o.o⟩)
 .have a:=eo B c l
  go_wp2_with fail
  apply a.mono;rintro e G ⟨rfl,rfl⟩;clear a
  go_wp2_with fail
  exact ⟨rfl,j.o _ _ ⟨.inr ⟨l,rfl⟩,s,o.o⟩⟩
def Yd (f:AF) (X:ai) (w:Q) (e:Ending) (w':Q):Prop:=
 ∃ y:Nd,e = O (.agg (ints y.l))/\y.dr.length=16/\y.kd=f.kd/\y.lk=f.lk/\y.sz=f.sz/\ak w w'/\ah w' X
def mq (hy:T id=U y) (h:ah w (vA x b v T k*F)) :
  Calls R 41 #[ax v,Z Y (id:Int)] w (Yd y.af (vA x b v T k*F) w):=by
 refine aK fun e0 G=>?_;have g:=(rA h).alloc (W pE 75 (0,0));have t:=ae ((ak.refl w).alloc (W pE 75 (0,0)));have P:(w.alloc (W pE 75 (0,0))).cell? ⟨v,0,S⟩=U (ax b):=g.aj.cell 0;have X:(w.alloc (W pE 75 (0,0))).cell? ⟨v,1,S⟩=U (Z Y (n:Int)):=g.aj.cell 1;have B:=ae (E0 (g.t00 (eK x b (gJ T) k*(pt w.heap.size (W pE 75 (0,0))*(pt v (bV b n)*F)))) (show gJ T id=U y.af by unfold gJ;rw [hy];rfl));clear h g hy;unfold pE at *
 go_in
 go_wp2_with fail
 apply B.o.mono;rintro e a ⟨z,rfl,C,b0,c0,d0,s,u⟩;have o:(ints z.l).size=20:=by rw [ed,Nd.cells C]
 have l:=u.alloc (W #[Z Y 0,Z Y 0,Z Y 0,Z Y 0,Z Y 0,Z Y 0,Z Y 0,Z Y 0,Z Y 0,Z Y 0,Z Y 0,Z Y 0,Z Y 0,Z Y 0,Z Y 0,Z Y 0,Z Y 0,Z Y 0,Z Y 0,Z Y 0] 75 (0,0));have J:=ae l.heap;have A:=l.setRow (cs':=ints z.l);have j:=A.t00 (pt w.heap.size (W #[Z Y 0,Z Y 0,Z Y 0,Z Y 0,Z Y 0,Z Y 0,Z Y 0,Z Y 0,Z Y 0,Z Y 0,Z Y 0,Z Y 0,Z Y 0,Z Y 0,Z Y 0,Z Y 0,Z Y 0,Z Y 0,Z Y 0,Z Y 0] 75 (0,0))*(pt a.heap.size (W (ints z.l) 75 (0,0))*(pt v (bV b n)*(eK x b (gJ T) k*F))));have K:=ae j.aj.heap;have M:=ae j.heap;have m:=j.setRow (cs':=ints z.l);have N:=ae m.heap;have I:=ae (Hu m.right.right);have E:=ae ((((t.o.trans s).alloc (W #[Z Y 0,Z Y 0,Z Y 0,Z Y 0,Z Y 0,Z Y 0,Z Y 0,Z Y 0,Z Y 0,Z Y 0,Z Y 0,Z Y 0,Z Y 0,Z Y 0,Z Y 0,Z Y 0,Z Y 0,Z Y 0,Z Y 0,Z Y 0] 75 (0,0))).setRow a.heap.size (ints z.l)).setRow w.heap.size (ints z.l));have r:Hid ((ints z.l).all (·.oneCell')=true):=by simp [RowKit.Hid,ints,Value.oneCell']
 have c:Hid ((prog.info? 75).map (·.size)=U (ints z.l).size):=by show _=_;rw [o];exact bd
 have q:=ae o;have H:=ae fun w=>dK w;clear B u l A j m o s t P X
 go_wp2_with (refine wpList_store_row (by exact rfl) 75 (.tmp 5) (.tmp 14) (by exact rfl) a.heap.size (ints z.l) (by exact rfl) (by exact rfl) 75 _ (by with_reducible exact J.o) c.o (by rw [q.o];rfl) r.o ?_)
 generalize (a.alloc (W #[Z Y 0,Z Y 0,Z Y 0,Z Y 0,Z Y 0,Z Y 0,Z Y 0,Z Y 0,Z Y 0,Z Y 0,Z Y 0,Z Y 0,Z Y 0,Z Y 0,Z Y 0,Z Y 0,Z Y 0,Z Y 0,Z Y 0,Z Y 0] 75 (0,0))).setRow a.heap.size (ints z.l)=w3 at *;apply (H.o w3).mono;rintro e w4 ⟨rfl,rfl⟩
 go_wp2_with (first
  | (refine wpList_load_row (by exact rfl) 75 (.tmp 5) (by exact rfl) a.heap.size (by exact rfl) 75 (ints z.l) (0,0) _ (by with_reducible exact K.o) underlying75 rfl (by with_reducible exact c.o) ?_)
  | (refine wpList_store_row (by exact rfl) 75 (.tmp 4) (.tmp 18) (by exact rfl) w.heap.size (ints z.l) (by exact rfl) (by exact rfl) 75 _ (by with_reducible exact M.o) c.o (by rw [q.o];rfl) r.o ?_))
 exact bodyPost_ret (results_cell_row rfl _ _ w.heap.size 75 (ints z.l) (0,0) _ rfl N.o underlying75 rfl c.o) rfl (G.o _ _ ⟨z,rfl,C,b0,c0,d0,E.o,I.o⟩)
 go_show
def Fj {f:AF} (m:T id=U (.file f)) (g a:Nat) (h:ah w (vA x b v T k*F)) :
  Calls R 50 #[ax v,Z Y (id:Int),Z Y (g:Int),Z Y (a:Int)] w fun e w'=>
   ∃ u,e = O u/\ak w w'/\ah w' (bs 5 u (f.sub g a)*(vA x b v T k*F)):=by
 refine aK fun B r=>?_;have c:=rA h;have s:w.cell? ⟨v,0,S⟩=U (ax b):=c.cell 0;have t:w.cell? ⟨v,1,S⟩=U (Z Y (n:Int)):=c.cell 1;have o:=ae (PE (c.t00 (eK x b (gJ T) k*(pt v (bV b n)*F))) (rP m) g a);clear h c m
 go_in
 go_wp2_with fail
 apply o.o.mono;rintro e A ⟨u,rfl,y,j⟩;have q:=ae (j.to (by unfold vA;ac_rfl:_=bs 5 u (f.sub g a)*(vA x b v T k*F)));clear o j s t;have l:=dK A
 go_wp2_with fail
 apply l.mono;rintro e C ⟨rfl,rfl⟩;clear l
 exact Zz (r.o _ _ ⟨u,rfl,y,q.o⟩)
def ei {p:List UInt8} {l:List (List UInt8)} (h:aW p=U l):Calls R 43 #[V (str p)] w fun e w'=>∃ u,e = O u/\ak w w'/\ah w' (fu u l*whole w):=by
 refine aK fun r m=>?_;have a:=ae (zf w p);unfold EG at a;rw [h] at a;clear h
 go_in
 go_wp2_with fail
 apply a.o.mono;rintro e q ⟨u,rfl,o,c⟩;have j:=ae c;clear a c;have g:=dK q
 go_wp2_with fail
 apply g.mono;rintro e s ⟨rfl,rfl⟩;clear g
 exact Zz (m.o _ _ ⟨u,rfl,o,j.o⟩)
def yD {p:List UInt8} (h:aW p=S):Calls R 43 #[V (str p)] w fun e w'=>e = .panicked (pF 1)/\ak w w'/\ah w' (whole w):=by
 refine aK fun q l=>?_;have a:=ae (zf w p);unfold EG at a;rw [h] at a;clear h
 go_in
 go_wp2_with fail
 apply a.o.mono;rintro e o ⟨u,rfl,m,c⟩;have j:=ae c.right;clear a c;have g:=eo o 1 De0
 go_wp2_with fail
 apply g.mono;rintro e r ⟨rfl,rfl⟩;clear g
 go_wp2_with fail
 exact ⟨rfl,l.o _ _ ⟨rfl,m,j.o⟩⟩
end
section
variable {n:Nat} {x:Fx n} {b v k id:Nat} {T:Tr} {w:Q} {D F:ai} {nm:List UInt8} {ps:List (List UInt8)} {pv:Value}
def V8 (c:Int) (X:ai) (w:Q) (e:Ending) (w':Q):Prop:=e = .panicked (pF c)/\ak w w'/\ah w' X
def qC {z:Nd} (h:z.dr.length=16):(ints z.l).size=20/\(ints z.l).all (·.oneCell')=true/\(prog.info? 75).map (·.size)=U (ints z.l).size:=by
 have a:(ints z.l).size=20:=by rw [ed,Nd.cells h]
 exact ⟨a,by simp [ints,Value.oneCell'],by rw [a];exact bd⟩
def V9 (f:AF) (X:ai) (w:Q) (e:Ending) (w':Q):Prop:=(f.kd=1/\Yd f X w e w')\/(f.kd≠1/\V8 8 X w e w')
def oA (hy:T id=U y) (h:ah w (vA x b v T k*F)) :
  Calls R 49 #[ax v,Z Y (id:Int)] w (V9 y.af (vA x b v T k*F) w):=by
 refine aK fun e0 r=>?_;have M:=(h.alloc (W pE 75 (0,0))).aj;have J:=ae ((ak.refl w).alloc (W pE 75 (0,0)));have X:=ae (mq hy M);generalize y.af=f at *
 go_in
 go_wp2_with fail
 apply X.o.mono;rintro e a ⟨z,rfl,C,E,c0,d0,I,K⟩;obtain ⟨N,b0,P⟩:=qC C;have A:=K.alloc (W pE 75 (0,0));have t:=ae A.heap;have m:=A.setRow (cs':=ints z.l);have n0:((a.alloc (W pE 75 (0,0))).setRow a.heap.size (ints z.l)).cell? ⟨a.heap.size,0,S⟩=U (Z Y f.kd):=by rw [<- E];exact m.cell 0
 have H:=ae m.heap;have g:=ae (m.to (by unfold pE;ac_rfl:_=pt w.heap.size (W pE 75 (0,0))*(pt a.heap.size (W (ints z.l) 75 (0,0))*(vA x b v T k*F))));have o:=ae (((J.o.trans I).alloc (W pE 75 (0,0))).setRow a.heap.size (ints z.l));have l:=ae b0;have c:=ae P;have j:=ae N;obtain ⟨kd,B⟩:=Nm f.kd
 rw [B] at n0;have s:=ae B;have G:=ae fun w=>eo w 8 De0
 by_cases u:kd=1
 .subst u
  go_wp2_with (first
   | (refine wpList_store_row (by exact rfl) 75 (.tmp 5) (.tmp 8) (by exact rfl) a.heap.size (ints z.l) (by exact rfl) (by exact rfl) 75 _ (by with_reducible exact t.o) c.o (by rw [j.o];rfl) l.o ?_)
   | (refine wpList_load_row (by exact rfl) 75 (.tmp 5) (by exact rfl) a.heap.size (by exact rfl) 75 (ints z.l) (0,0) _ (by with_reducible exact H.o) underlying75 rfl (by with_reducible exact c.o) ?_)
   | (refine wpList_store_row (by exact rfl) 75 (.tmp 4) (.tmp 13) (by exact rfl) w.heap.size (ints z.l) (by exact rfl) (by exact rfl) 75 _ (by with_reducible exact g.o.heap) c.o (by rw [j.o];rfl) l.o ?_))
  have q:=g.o.setRow (cs':=ints z.l);exact bodyPost_ret (results_cell_row rfl _ _ w.heap.size 75 (ints z.l) (0,0) _ rfl q.heap underlying75 rfl c.o) rfl (r.o _ _ (.inl ⟨s.o,z,rfl,C,E,c0,d0,o.o.setRow w.heap.size (ints z.l),q.right.right⟩))
 .go_wp2_with (first
   | (refine wpList_store_row (by exact rfl) 75 (.tmp 5) (.tmp 8) (by exact rfl) a.heap.size (ints z.l) (by exact rfl) (by exact rfl) 75 _ (by with_reducible exact t.o) c.o (by rw [j.o];rfl) l.o ?_)
   | fail)
  apply (G.o _).mono;rintro e w4 ⟨rfl,rfl⟩;exact ⟨rfl,r.o _ _ (.inr ⟨by rw [s.o];exact u,rfl,o.o,g.o.right.right⟩)⟩
def Dh {c:Func} {e:Array Value} {w:Q} {a:Nat} {r:Int} {nm:List UInt8} (g:c.results=#[.cell 4 138]:=by rfl) (h4:e[4]?=U (ax a)) (h:ah w (pt a (W #[Z Y r,V (str nm)] 138 (0,0))*F)) :
  (results c e).run R w = .ok (.agg #[Z Y r,V (str nm)]) w:=
 results_cell_row g _ _ a 138 _ (0,0) _ (by simp [h4]) h.heap underlying138 rfl Kr0
def Pn {q:Q} {g o c m:Nat} (l:ps.length=m+1) (h:IB q (.slice (U ⟨g,o,S⟩) (m+1) c) ps):IB q (.slice (U ⟨g,o,S⟩) m c) ps.dropLast:=by
 rcases h with ⟨a,r,e,s⟩|⟨A,C,r,e,B,y,t⟩
 .rw [s] at l;simp at l
 .simp only [Value.slice.injEq,Option.some.injEq,Addr.mk.injEq] at e
  obtain ⟨⟨rfl,rfl,-⟩,-,rfl⟩:=e;have j:ps.dropLast.length=m:=by rw [D9,l];rfl
  refine .inr ⟨g,o,c,by rw [j],by rw [j];omega,y,fun k u=>?_⟩;rw [j] at u;have:=t k Om0
  rwa [show ps.dropLast.getD k []=ps.getD k [] by
   rw [A1,A1,List.getElem?_dropLast,if_pos Om0]]
def Ji (ht:Tidy n T) (hl:ps.length<=1000) (b0:ps≠[]) (N:∀ a P,ah a (D*P)->IB a pv ps) (h:ah w (vA x b v T k*(D*F))) :
  Calls R 145 #[ax v,pv] w (Xo (vA x b v T k*(D*F)) (aV T 1 ps.dropLast).1 (.agg #[Z Y ((aV T 1 ps.dropLast).2:Nat),V (str (cS ps))]) w):=by
 refine aK fun g0 l=>?_;have k0:=List.length_pos_iff.2 b0;obtain ⟨m,A⟩:∃ m,ps.length=m+1:=⟨ps.length-1,Om0⟩
 have X:∀ a P,ah a (D*P)->∃ g o c,pv = .slice (U ⟨g,o,S⟩) (m+1) c/\m+1<=c/\c<=maxLen/\a.cell? ⟨g,o+m,S⟩=U (V (str (cS ps))):=fun a P j=>by
  rcases N a P j with ⟨h0,c,_,t⟩|⟨g,o,c,e,B,C,hc⟩
  .exact absurd t b0
  .rw [A] at e B
   refine ⟨g,o,c,e,B,C,?_⟩;have:=hc m Om0;unfold cS
   rwa [A,Nat.add_sub_cancel]
 obtain ⟨g,o,c,rfl,B,C,-⟩:=X _ _ h.aj;have c0:∀ a P,ah a (D*P)->IB a (.slice (U ⟨g,o,S⟩) m c) ps.dropLast:=fun a P j=>Pn A (N a P j)
 have u:∀ a P,ah a (D*P)->a.cell? ⟨g,o+m,S⟩=U (V (str (cS ps))):=fun a P j=>by
  obtain ⟨g',o',c',e,-,-,t⟩:=X a P j;obtain ⟨⟨rfl,rfl,-⟩,-,rfl⟩:=e;exact t
 obtain ⟨nm,d0⟩:∃ nm,cS ps=nm:=⟨_,rfl⟩
 rw [d0] at l u;have hA:=(h.alloc (W #[Z Y 0,.string ⟨#[]⟩] 138 (0,0)))
 have J:=ae ((ak.refl w).alloc (W #[Z Y 0,.string ⟨#[]⟩] 138 (0,0)));have hk:=fun w' (h':ah w' (vA x b v T k*(D*(pt w.heap.size (W #[Z Y 0,.string ⟨#[]⟩] 138 (0,0))*F))))=>gq (ps:=ps.dropLast) ht (by rw [D9];omega) c0 h';have M:=hA.to (by ac_rfl:_=vA x b v T k*(D*(pt w.heap.size (W #[Z Y 0,.string ⟨#[]⟩] 138 (0,0))*F)));have q1:=u _ _ M.aj;generalize aV T 1 ps.dropLast=p at *;obtain ⟨I,r⟩:=p;have H:=ae hk;have E:=ae M;have G:=ae u;have b2:(m:Int)<=(c:Int):=Om0
 have b3:(m:Int)<(m:Int)+1:=Om0
 have l0:((m:Int)+1)<=(c:Int):=Om0
 have m0:(c:Int)<=9223372036854775807:=by unfold maxLen at C;omega
 go_in
 go_wp2_with fail
 generalize w.heap.size=rc at *
 by_cases s:I=0
 .subst s
  go_region_held3 (fun w'=>w'.cell? ⟨g,o+m,S⟩=U (V (str nm)))
   (first|exact q1|exact q2|exact q3|go_keep)
   (first|(go_at_call 42;refine (H.o _ E.o.drew).mono ?_;rintro e w5 ⟨y,q,h5⟩;obtain rfl:e = O (Z Y (r:Int)):=y.elim (fun h=>h.2) (fun h=>absurd rfl h.1);have q2:=G.o _ _ h5.aj;have z0:=h5.au.cell 0;have z1:=h5.au.cell 1;have f0:=h5.au.frozen 0;have f1:=h5.au.frozen 1;have q3:=G.o _ _ ((h5.au.setCell 0 (Z Y (r:Int))).setCell 1 (V (str nm))).au;simp at z0 z1))
  have K:=((h5.au.setCell 0 (Z Y (r:Int))).setCell 1 (V (str nm)))
  have H6:=ae K;have H7:=ae (l.o _ _ ⟨.inl ⟨rfl,rfl⟩,((J.o.drew.trans q).setCell _ _).setCell _ _,K.right⟩)
  go_wp2_with fail
  exact bodyPost_ret (Dh rfl rfl H6.o) rfl H7.o
 .refine wp_region_held_drew (S:=fun w'=>w'.cell? ⟨g,o+m,S⟩=U (V (str nm))) Kr0 q1 (fun i0=>?_)
  refine tk 0 ?_;refine tk 1 ?_;refine tk 2 ?_;refine tk 3 ?_;refine tk 5 ?_;refine tk 6 ?_;refine tk 7 ?_;refine tk 8 ?_;refine tr 4 fun e0 hK=>?_
  go_simp
  go_wp2_with (go_at_call 42;refine (H.o _ E.o.drew).mono ?_;rintro e w5 ⟨y,q,h5⟩;obtain rfl:e = .panicked (pF I):=y.elim (fun h=>absurd h.1 s) (fun h=>h.2);exact ⟨rfl,l.o _ _ ⟨.inr ⟨s,rfl⟩,J.o.drew.trans q,(h5.to (by ac_rfl:_=pt rc (W #[Z Y 0,.string ⟨#[]⟩] 138 (0,0))*(vA x b v T k*(D*F)))).right⟩⟩)
def _root_.Go.SL.fM (T:Tr) (ps:List (List UInt8)):Int:=
 if ps=[] then 6 else if (aV T 1 ps.dropLast).1≠0 then (aV T 1 ps.dropLast).1 else if (fg (T (aV T 1 ps.dropLast).2) (cS ps)).1=0 then 6 else if (fg (T (aV T 1 ps.dropLast).2) (cS ps)).1=5 then 0 else (fg (T (aV T 1 ps.dropLast).2) (cS ps)).1
def _root_.Go.SL.fU (T:Tr) (ps:List (List UInt8)):Nat:=(aV T 1 ps.dropLast).2
def wg (u:Tidy n T) (hl:ps.length<=1000) (hs:∀ s P,ah s (D*P)->∃ a c,pv = .slice a ps.length c) (hD:∀ s P,ah s (D*P)->IB s pv ps) (h:ah w (vA x b v T k*(D*F))) :
  Calls R 70 #[ax v,pv] w (Xo (vA x b v T k*(D*F)) (fM T ps) (.agg #[Z Y (fU T ps:Nat),V (str (cS ps))]) w):=by
 refine aK fun d0 g=>?_;obtain ⟨a,c,rfl⟩:=hs _ _ h.aj;obtain ⟨m,H⟩:∃ m,ps.length=m:=⟨_,rfl⟩
 have hA:=h.alloc (W #[Z Y 0,.string ⟨#[]⟩] 138 (0,0));have E:=ae ((ak.refl w).alloc (W #[Z Y 0,.string ⟨#[]⟩] 138 (0,0)));have B:=ae fun (w:Q) (c:Int) (q:c≠0)=>eo w c q;have K:=ae (hA.to (by ac_rfl:_=vA x b v T k*(D*(pt w.heap.size (W #[Z Y 0,.string ⟨#[]⟩] 138 (0,0))*F))))
 by_cases r:ps=[]
 .have b0:m=0:=by rw [<- H,r];rfl
  have G:fM T ps=6:=if_pos r;rw [G] at g;rw [H,b0]
  go_in
  go_wp2_with fail
  refine (B.o _ 6 De0).mono ?_;rintro e w3 ⟨rfl,rfl⟩;exact ⟨rfl,g.o _ _ ⟨.inr ⟨De0,rfl⟩,E.o,(K.o.to (by ac_rfl:_=pt w.heap.size (W #[Z Y 0,.string ⟨#[]⟩] 138 (0,0))*(vA x b v T k*(D*F)))).right⟩⟩
 .have c0:=ae (Ji u hl r hD K.o)
  have b0:¬ ((m:Int)=0):=by have:=List.length_pos_iff.2 r;omega
  have G:fM T ps=if (aV T 1 ps.dropLast).1≠0 then (aV T 1 ps.dropLast).1 else if (fg (T (aV T 1 ps.dropLast).2) (cS ps)).1=0 then 6 else if (fg (T (aV T 1 ps.dropLast).2) (cS ps)).1=5 then 0 else (fg (T (aV T 1 ps.dropLast).2) (cS ps)).1:=if_neg r
  have hy:=fun (h0:(aV T 1 ps.dropLast).1=0)=>u.walk ps.dropLast (u.root.choose_spec) h0;rw [G] at g;unfold fU at g;rw [H] at c0 ⊢;generalize aV T 1 ps.dropLast=p at *;obtain ⟨cc,d⟩:=p;generalize cS ps=nm at *;have HY:=ae hy;have HT:=ae u
  go_in
  go_wp2_with fail
  refine c0.o.mono ?_;rintro e j ⟨he,M,X⟩;generalize w.heap.size=l at *;rcases he with ⟨rfl,rfl⟩|⟨q,rfl⟩
  .obtain ⟨g0,hy⟩:=HY.o rfl
   rw [if_neg De0] at g;have hB:=X.alloc (W #[Z Y (d:Int),V (str nm)] 138 (0,0));have dB:=ae ((E.o.trans M).alloc (W #[Z Y (d:Int),V (str nm)] 138 (0,0)));have o:=hB.to (by unfold vA;ac_rfl:_=pt v (bV b n)*(pt j.heap.size (W #[Z Y (d:Int),V (str nm)] 138 (0,0))*(eK x b (gJ T) k*(pt l (W #[Z Y 0,.string ⟨#[]⟩] 138 (0,0))*(D*F)))));have I:(j.alloc (W #[Z Y (d:Int),V (str nm)] 138 (0,0))).cell? ⟨v,0,S⟩=U (ax b)/\(j.alloc (W #[Z Y (d:Int),V (str nm)] 138 (0,0))).cell? ⟨v,1,S⟩=U (Z Y (n:Int))/\(j.alloc (W #[Z Y (d:Int),V (str nm)] 138 (0,0))).cell? ⟨j.heap.size,0,S⟩=U (Z Y (d:Int))/\(j.alloc (W #[Z Y (d:Int),V (str nm)] 138 (0,0))).cell? ⟨j.heap.size,1,S⟩=U (V (str nm)):=⟨o.cell 0,o.cell 1,o.aj.cell 0,o.aj.cell 1⟩
   have K0:=ae I;have hf:=ae fun w' (h':ah w' (eK x b (gJ T) k*(pt v (bV b n)*(pt j.heap.size (W #[Z Y (d:Int),V (str nm)] 138 (0,0))*(pt l (W #[Z Y 0,.string ⟨#[]⟩] 138 (0,0))*(D*F))))))=>yv (nm:=nm) HT.o hy h';have HC:=ae o.au;generalize fg (T d) nm=p at *;obtain ⟨C,e0⟩:=p
   go_wp2_with fail
   generalize j.heap.size=sc at *;have I:=K0.o
   go_region_held3 (fun w'=>w'.cell? ⟨v,0,S⟩=U (ax b)/\w'.cell? ⟨v,1,S⟩=U (Z Y (n:Int))/\w'.cell? ⟨sc,0,S⟩=U (Z Y (d:Int))/\w'.cell? ⟨sc,1,S⟩=U (V (str nm)))
    (first|exact I|exact k1|go_keep)
    (first|(go_at_call 146;refine (hf.o _ HC.o.drew).mono ?_;rintro e y ⟨rfl,d4,h4⟩;have k1:y.cell? ⟨v,0,S⟩=U (ax b)/\y.cell? ⟨v,1,S⟩=U (Z Y (n:Int))/\y.cell? ⟨sc,0,S⟩=U (Z Y (d:Int))/\y.cell? ⟨sc,1,S⟩=U (V (str nm)):=⟨h4.aj.cell 0,h4.aj.cell 1,h4.au.cell 0,h4.au.cell 1⟩))
   have h5:=h4.to (by unfold vA;ac_rfl:_=pt sc (W #[Z Y (d:Int),V (str nm)] 138 (0,0))*(pt l (W #[Z Y 0,.string ⟨#[]⟩] 138 (0,0))*(vA x b v T k*(D*F))));have s0:=h5.cell 0;have s1:=h5.cell 1;have z0:=h5.aj.cell 0;have z1:=h5.aj.cell 1;have f0:=h5.aj.frozen 0;have f1:=h5.aj.frozen 1;have h6:=ae ((h5.aj.setCell 0 (Z Y (d:Int))).setCell 1 (V (str nm)));have J:=ae h5.right.right;have A:=ae (dB.o.drew.trans d4)
   by_cases t:C=0
   .subst t
    rw [if_pos rfl] at g
    go_wp2_with fail
    refine (B.o _ 6 De0).mono ?_;rintro e w5 ⟨rfl,rfl⟩;exact ⟨rfl,g.o _ _ ⟨.inr ⟨De0,rfl⟩,A.o,J.o⟩⟩
   .rw [if_neg t] at g
    by_cases N:C=5
    .subst N
     rw [if_pos rfl] at g;have H7:=ae (g.o _ _ ⟨.inl ⟨rfl,rfl⟩,(A.o.setCell ⟨l,0,S⟩ (Z Y (d:Int))).setCell ⟨l,1,S⟩ (V (str nm)),h6.o.right.right⟩)
     go_wp2_with fail
     exact bodyPost_ret (Dh rfl rfl h6.o) rfl H7.o
    .rw [if_neg N] at g
     go_wp2_with fail
     refine (B.o _ C t).mono ?_;rintro e w5 ⟨rfl,rfl⟩;exact ⟨rfl,g.o _ _ ⟨.inr ⟨t,rfl⟩,A.o,J.o⟩⟩
  .refine ⟨rfl,g.o _ _ ⟨.inr ⟨?_,?_⟩,E.o.trans M,(X.to (by ac_rfl:_=pt l (W #[Z Y 0,.string ⟨#[]⟩] 138 (0,0))*(vA x b v T k*(D*F)))).right⟩⟩
   .rw [if_pos q];exact q
   .rw [if_pos q]
def BI:∀ {z:Nd} (_:z.dr.length=16) (w:Q),(Instr.field 75 (.agg (ints z.l)) 0).run R w = .ok (Z Y z.kd) w/\(Instr.field 75 (.agg (ints z.l)) 1).run R w = .ok (Z Y z.lk) w/\(Instr.field 75 (.agg (ints z.l)) 2).run R w = .ok (Z Y z.sz) w
 | ⟨a,c,e,[_,_,_,_,_,_,_,_,_,_,_,_,_,_,_,_],rw⟩,_,w=>⟨Kr0,Kr0,Kr0⟩
def _root_.Go.SL.rO (L:List aM):Int:=if 122880<=32*L.length then 9 else 0
def I3 {L:List aM} (hy:T id=U (.dir L)) (h:ah w (vA x b v T k*F)) :
  Calls R 110 #[ax v,.agg #[Z Y (id:Int),V (str nm)]] w (Xo (vA x b v T k*F) (rO L) (.tuple #[]) w):=by
 refine aK fun I a=>?_;have A:=h.alloc (W #[Z Y (id:Int),V (str nm)] 138 (0,0));have t:=ae ((ak.refl w).alloc (W #[Z Y (id:Int),V (str nm)] 138 (0,0)));have C:=ae (mq hy A.aj)
 go_in
 go_wp2_with fail
 apply C.o.mono;rintro e J ⟨z,rfl,G,M,N,H,s,u⟩;have B:=fun w=>(BI G w).2.2;have o:z.sz=((32*L.length:Nat):Int):=H;have m:=ae (u.t00 (pt w.heap.size (W #[Z Y (id:Int),V (str nm)] 138 (0,0))*(vA x b v T k*F))).right;have l:=ae (t.o.trans s);have r:=ae fun w=>eo w 9 De0;unfold rO at a;obtain ⟨q,E⟩:=Nm (32*L.length)
 rw [E] at o a;obtain ⟨g,j⟩:∃ g:Int,g=(q:Int):=⟨_,rfl⟩
 rw [o,<- j] at B
 by_cases c:122880<=q
 .rw [if_pos c] at a
  have y:(122880:Int)<=g:=Om0
  clear c j
  go_wp2_with fail
  apply (r.o _).mono;rintro e K ⟨rfl,rfl⟩;exact ⟨rfl,a.o _ _ ⟨.inr ⟨De0,rfl⟩,l.o,m.o⟩⟩
 .rw [if_neg c] at a
  have y:g<122880:=Om0
  clear c j
  exact Zy (a.o _ _ ⟨.inl ⟨rfl,rfl⟩,l.o,m.o⟩)
def _root_.Go.SL.lL (k:Nat) (L:List aM) (nm:List UInt8):Int:=if (kZ L nm).isSome then 6 else if 3840<=L.length then 9 else if k+cE L.length<cE (L.length+1) then 7 else 0
def _root_.Go.SL.mX (T:Tr) (d:Nat) (L:List aM):Tr:=fH T d (U (.dir L))
def OT {a:Nat} {A:Nat->Option AF} {X:Int} {L:List aM} (c0:1<=a) (d0:a<=3839) (h:ah w (eK x b A k*F)) (H:A id=U (iJ X L)) (K:DP L) (hl:L.length=3840) (I:cG nm=true) (M:kZ L nm=S) :
  Calls R 147 #[iH b n,Z Y (id:Int),V (str nm),Z Y (a:Int)] w (YE x b A k 9 F w):=by
 refine aK fun b0 s=>?_;have G:=h.alloc (dx b n);have B:=ae ((ak.refl w).alloc (dx b n));have P:=ae (kg G.aj H (j0 K Om0));obtain ⟨m,J⟩:∃ m,L.length=m:=⟨_,rfl⟩
 have q:=ae J;have N:=ae (sG M);have e0:(m:Int)=3840:=Om0
 have o:Hid (L.length<=3840):=by show L.length<=3840;omega
 have e:=ae fun w=>rH w nm;rw [I] at e;have g1:¬ ((a:Int)<1):=Om0
 have g2:¬ ((3839:Int)<(a:Int)):=Om0
 unfold iH
 go_in
 go_wp2_with fail
 refine P.o.mono ?_;generalize w.heap.size=C at *;rintro r w2 ⟨u,rfl,t,j⟩;have c:=Go.Proofs.Fs.de w2 u L nm _ o.o j;unfold si at c;rw [N.o] at c;have g:=ae c;obtain ⟨ua,uc,rfl⟩:=az j;rw [q.o] at g ⊢
 go_wp2_with fail
 refine (e.o _).mono ?_;rintro r w3 ⟨rfl,rfl⟩
 go_wp2_with fail
 refine g.o.mono ?_;rintro r w3 ⟨rfl,E,y⟩;have l:=ae (E.to (by ac_rfl:_=(sl 90 2 (.slice ua m uc) m (bE L)*pt C (dx b n))*(eK x b A k*F))).right
 go_wp2_with fail
 exact s.o _ _ ⟨Si0,(B.o.trans t).trans y,l.o⟩
def SM (x:Fx n) (b v:Nat) (T:Tr) (k id a:Nat) (nm:List UInt8) (L:List aM) (F:ai) (w:Q) (e:Ending) (w':Q):Prop:=
 (lL k L nm=0/\e = O (.tuple #[])/\ak w w'/\ah w' (vA (x.more 5) b v (mX T id (L++[⟨a,nm⟩])) (k+cE L.length-cE (L.length+1))*F)) \/
 (lL k L nm≠0/\V8 (lL k L nm) (vA x b v T k*F) w e w')
def M5 {a:Nat} {L:List aM} (g:1<=a) (j:a<=3839) (h:ah w (eK x b (gJ T) k*F)) (l:T id=U (.dir L)) (c:sn L) (m:cG nm=true) :
  Calls R 147 #[iH b n,Z Y (id:Int),V (str nm),Z Y (a:Int)] w fun e w'=>
   (lL k L nm=0/\YE (x.more 5) b (gJ (mX T id (L++[⟨a,nm⟩]))) (k+cE L.length-cE (L.length+1)) 0 F w e w')\/(lL k L nm≠0/\YE x b (gJ T) k (lL k L nm) F w e w'):=by
 unfold lL
 cases o:kZ L nm with
 | some i=>exact (KB g j h (mL l) c.ok c.len m o).mono fun e w' q=>.inr ⟨Si0,by simpa using q⟩
 | none=>
  by_cases s:3840<=L.length
  .rw [if_pos s]
   exact (OT g j h (mL l) c.ok (by have:=c.len;omega) m o).mono fun e w' q=>.inr ⟨De0,q⟩
  .rw [if_neg s]
   by_cases r:k+cE L.length<cE (L.length+1)
   .rw [if_pos r]
    exact (UB g j h (mL l) c.ok Om0 m o r).mono fun e w' q=>.inr ⟨De0,q⟩
   .rw [if_neg r]
    have:=uN g j h (mL l) c.ok Om0 m o Om0;rw [show fH (gJ T) id (U (iJ 1 (L++[⟨a,nm⟩])))=gJ (mX T id (L++[⟨a,nm⟩])) from Af T id (.dir (L++[(⟨a,nm⟩:aM)]))] at this;exact this.mono fun e w' q=>.inl ⟨rfl,q⟩
def CU {child:Nat} {L:List aM} (P:1<=child) (X:child<=3839) (hf:T id=U (.dir L)) (J:sn L) (hi:cG nm=true) (h:ah w (vA x b v T k*F)) :
  Calls R 71 #[ax v,.agg #[Z Y (id:Int),V (str nm)],Z Y (child:Int)] w (SM x b v T k id child nm L F w):=by
 refine aK fun b0 o=>?_;have I:=h.alloc (W #[Z Y (id:Int),V (str nm)] 138 (0,0));have u:=ae ((ak.refl w).alloc (W #[Z Y (id:Int),V (str nm)] 138 (0,0)));have g:=I.to (by unfold vA;ac_rfl:_=eK x b (gJ T) k*(pt v (bV b n)*(pt w.heap.size (W #[Z Y (id:Int),V (str nm)] 138 (0,0))*F)));have l:(w.alloc (W #[Z Y (id:Int),V (str nm)] 138 (0,0))).cell? ⟨v,0,S⟩=U (ax b)/\(w.alloc (W #[Z Y (id:Int),V (str nm)] 138 (0,0))).cell? ⟨v,1,S⟩=U (Z Y (n:Int))/\(w.alloc (W #[Z Y (id:Int),V (str nm)] 138 (0,0))).cell? ⟨w.heap.size,0,S⟩=U (Z Y (id:Int))/\(w.alloc (W #[Z Y (id:Int),V (str nm)] 138 (0,0))).cell? ⟨w.heap.size,1,S⟩=U (V (str nm)):=⟨g.aj.cell 0,g.aj.cell 1,g.au.cell 0,g.au.cell 1⟩
 have A:=ae fun w' (H:ah w' (eK x b (gJ T) k*(pt v (bV b n)*(pt w.heap.size (W #[Z Y (id:Int),V (str nm)] 138 (0,0))*F))))=>M5 P X H hf J hi;have C:=ae fun (w:Q) (c:Int) (N:c≠0)=>eo w c N;have E:=ae fun w=>dK w;have t:=ae g;have G:=ae l;unfold SM at o;generalize lL k L nm=c at *
 go_enter func71,ntmps71
 go_wp2_with fail
 generalize w.heap.size=sc at *;have l:=G.out
 by_cases j:c=0
 .subst j
  go_region_held3 (fun w'=>w'.cell? ⟨v,0,S⟩=U (ax b)/\w'.cell? ⟨v,1,S⟩=U (Z Y (n:Int))/\w'.cell? ⟨sc,0,S⟩=U (Z Y (id:Int))/\w'.cell? ⟨sc,1,S⟩=U (V (str nm)))
   (first|exact l|exact s|go_keep)
   (first
    | (go_at_call 147;refine (A.out _ t.out.drew).mono ?_;rintro e a r;obtain ⟨rfl,q,h4⟩:=r.elim (fun h=>h.2) (fun h=>absurd rfl h.1);have s:a.cell? ⟨v,0,S⟩=U (ax b)/\a.cell? ⟨v,1,S⟩=U (Z Y (n:Int))/\a.cell? ⟨sc,0,S⟩=U (Z Y (id:Int))/\a.cell? ⟨sc,1,S⟩=U (V (str nm)):=⟨h4.aj.cell 0,h4.aj.cell 1,h4.au.cell 0,h4.au.cell 1⟩)
    | (go_at_call 46;refine (E.out _).mono ?_;rintro e w5 ⟨rfl,rfl⟩))
  have B:=ae (u.out.drew.trans q);have m:=ae (h4.to (by unfold vA;ac_rfl:_=pt sc (W #[Z Y (id:Int),V (str nm)] 138 (0,0))*(vA (x.more 5) b v (mX T id (L++[⟨child,nm⟩])) (k+cE L.length-cE (L.length+1))*F))).right
  go_wp2_with fail
  go_end0
  exact o.out _ _ (.inl ⟨by simp,rfl,B.out,m.out⟩)
 .refine wp_region_held_drew (S:=fun w'=>w'.cell? ⟨v,0,S⟩=U (ax b)/\w'.cell? ⟨v,1,S⟩=U (Z Y (n:Int))/\w'.cell? ⟨sc,0,S⟩=U (Z Y (id:Int))/\w'.cell? ⟨sc,1,S⟩=U (V (str nm))) (by kernel_rfl) l (fun M=>?_)
  refine tk 0 ?_;refine tk 1 ?_;refine tk 2 ?_;refine tk 3 ?_;refine tk 4 ?_;refine tk 5 ?_;refine tk 6 ?_;refine tk 7 ?_;refine tk 8 ?_;refine tr 9 fun K y=>?_
  go_simp
  go_wp2_with (go_at_call 147;refine (A.out _ t.out.drew).mono ?_;rintro e a r;obtain ⟨rfl,q,h4⟩:=r.elim (fun h=>absurd h.1 j) (fun h=>h.2))
  have s:a.cell? ⟨v,0,S⟩=U (ax b)/\a.cell? ⟨v,1,S⟩=U (Z Y (n:Int))/\a.cell? ⟨sc,0,S⟩=U (Z Y (id:Int))/\a.cell? ⟨sc,1,S⟩=U (V (str nm)):=⟨h4.aj.cell 0,h4.aj.cell 1,h4.au.cell 0,h4.au.cell 1⟩
  have m:=(h4.to (by unfold vA;ac_rfl:_=pt sc (W #[Z Y (id:Int),V (str nm)] 138 (0,0))*(vA x b v T k*F))).right;refine y.out _ _ s (fun M=>?_);refine tr 10 fun K y=>?_
  go_simp
  go_wp2_with (go_at_call 46;refine (C.out _ c j).mono ?_;rintro e w5 ⟨rfl,rfl⟩;exact ⟨rfl,o.out _ _ (.inr ⟨j,rfl,u.out.drew.trans q,m⟩)⟩)
end
end Go.Proofs.Cl
namespace Go.SL
open RowKit
def nx (kd:Int):xM:=if kd=1 then .file (kO 1) else .dir []
def Ih {kd:Int} (h:kd=1\/kd=2):(nx kd).af=kO kd:=by
 rcases h with rfl|rfl
 .rfl
 .exact P8.symm
def CS (a:Int):fq (U (nx a))=[]:=by unfold nx;split <;> rfl
def QH {id:Nat} (h:id≠1) (a:Int):MO id (U (nx a))=1:=by
 unfold nx;split
 .rfl
 .show (if id=1 then (0:Int) else 1)=1;rw [if_neg h]
def sn.snoc {L:List aM} (h:sn L) {id:Nat} {nm:List UInt8} (m:1<=id) (o:id<=3839) (l:cG nm=true) (g:kZ L nm=S) (r:L.length<3840):sn (L++[⟨id,nm⟩]):=by
 refine ⟨BQ h.ok (aM.mZ.2 ⟨m,o,sA l⟩),by rw [List.length_append,List.length_singleton];omega,?_,fun e c=>?_⟩
 .rw [List.map_append,List.nodup_append]
  refine ⟨h.nd,Si0,fun a q b j=>?_⟩;obtain ⟨e,c,rfl⟩:=List.mem_map.1 q;simp only [List.map_cons,List.map_nil,List.mem_singleton] at j;subst j;unfold kZ at g;rw [List.findIdx?_eq_none_iff] at g;simpa using g e c
 .rcases List.mem_append.1 c with c|c
  .exact h.nm e c
  .rw [List.mem_singleton.1 c];exact l
def sn.nil:sn []:=⟨fun e a=>(by cases a),Nat.zero_le _,List.nodup_nil,fun e a=>(by cases a)⟩
variable {n d id:Nat} {T:Tr} {L:List aM} {nm:List UInt8}
def Tidy.Sv (h:Tidy n T) (a:T id=S):id≠1:=by
 rintro rfl;obtain ⟨L,c⟩:=h.root;rw [c] at a;cases a
def Qh (T:Tr) (d id:Nat) (nm:List UInt8) (a:Int):Tr:=Go.SL.fH (fH T id (U (nx a))) d (U (.dir (fq (T d)++[⟨id,nm⟩])))
def Tidy.make (h:Tidy n T) (l:T d=U (.dir L)) (m:T id=S) (y:0<id) (A:id<n) (P:n<=3840) {a:Int} (N:a=1\/a=2) (H:cG nm=true) (I:kZ L nm=S) (G:L.length<3840):Tidy n (Qh T d id nm a):=by
 have t:id≠d:=by rintro rfl;rw [l] at m;cases m
 have s:=h.Sv m;have B:fq (T d)=L:=by rw [l];rfl
 have E:=h.lt l;unfold Qh;rw [B];have o:∀ x,fH (fH T id (U (nx a))) d (U (.dir (L++[⟨id,nm⟩]))) x=if x=d then U (.dir (L++[⟨id,nm⟩])) else if x=id then U (nx a) else T x:=fun x=>rfl
 have J:∀ x,refs n (fH (fH T id (U (nx a))) d (U (.dir (L++[⟨id,nm⟩])))) x=refs n T x+if id=x then 1 else 0:=fun x=>by
  have r:=rS (T:=T) A (U (nx a)) x;have c:=rS (T:=fH T id (U (nx a))) E (U (.dir (L++[⟨id,nm⟩]))) x;rw [m,CS] at r;rw [aQ _ _ (Ne.symm t),l] at c;simp only [fq,List.countP_nil,List.countP_append,List.countP_cons,Nat.add_zero,Nat.zero_add] at r c
  by_cases q:id=x
  .rw [if_pos q];subst q;simp at c;omega
  .rw [if_neg q];simp [q] at c;omega
 refine ⟨?_,fun x M g=>?_,fun x f j=>?_,fun x=>?_,fun x K=>?_⟩
 .obtain ⟨u,C⟩:=h.root
  rw [o]
  by_cases e:1=d
  .exact ⟨_,if_pos e⟩
  .rw [if_neg e,if_neg (Ne.symm s)];exact ⟨u,C⟩
 .rw [o] at g
  split at g
  .cases g;exact (h.te _ _ l).snoc y (by omega) H I G
  .split at g
   .have:M=[]:=by rw [<- CS a];injection g with g;rw [g];rfl
    rw [this];exact sn.nil
   .exact h.te _ _ g
 .rw [o] at j
  split at j
  .cases j
  .split at j
   .unfold nx at j;split at j <;> cases j;rfl
   .exact h.files _ _ j
 .rw [J,o]
  have:=h.ref x
  by_cases e:x=d
  .subst e;rw [if_pos rfl,if_neg t];rw [l] at this;exact this
  .rw [if_neg e]
   by_cases c:x=id
   .subst c;rw [if_pos rfl,if_pos rfl,QH s];rw [m] at this;simp only [MO] at this;omega
   .rw [if_neg c,if_neg (Ne.symm c)];exact this
 .rw [o,if_neg (by omega),if_neg (by omega)];exact h.out x K
def gF (T:Tr) (k:Nat) (p:List UInt8):Int:=match aW p with
 | none=>1
 | some ps=>if fM T ps≠0 then fM T ps else if rO (fq (T (fU T ps)))≠0 then 9 else if k=0 then 7 else lL (k-1) (fq (T (fU T ps))) (cS ps)
def VG (k:Nat) (L:List aM):Nat:=k-1+cE L.length-cE (L.length+1)
end Go.SL
namespace Go.SL
open RowKit
structure kV (n:Nat) (T:Tr) (z:Nat->Int):Prop where
 root:∃ L,T 1=some (.dir L)
 te:∀ id L,T id=some (.dir L)->sn L
 files:∀ id f,T id=some (.file f)->f.kd=1
 ref:∀ id,(refs n T id:Int)=MO id (T id)+z id
 out:∀ id,n<=id->T id=none
section
variable {n d id i:Nat} {T:Tr} {L:List aM} {nm:List UInt8} {z:Nat->Int} {f f':AF}
def Tidy.w (h:Tidy n T):kV n T fun _=>0:=⟨h.root,h.te,h.files,fun id=>by rw [h.ref id];omega,h.out⟩
def kV.tidy (h:kV n T z) (a:∀ id,z id=0):Tidy n T:=⟨h.root,h.te,h.files,fun id=>by rw [h.ref id,a];omega,h.out⟩
def kV.lt (h:kV n T z) {x:xM} (a:T id=U x):id<n:=by
 by_cases c:id<n
 .exact c
 .rw [h.out id (by omega)] at a;cases a
def kV.set (h:kV n T z) {M:List aM} (g:T d=U (.dir L)) (r:sn M) {m:Nat->Int} (u:∀ x,((M.countP fun e=>e.nd == x:Nat):Int)-((L.countP fun e=>e.nd == x:Nat):Int)=m x-z x):kV n (mX T d M) m:=by
 have a:∀ x,mX T d M x=if x=d then U (.dir M) else T x:=fun x=>rfl
 refine ⟨?_,fun x N c=>?_,fun x f j=>?_,fun x=>?_,fun x t=>?_⟩
 .obtain ⟨o,q⟩:=h.root
  rw [a]
  by_cases e:1=d
  .exact ⟨_,if_pos e⟩
  .rw [if_neg e];exact ⟨o,q⟩
 .rw [a] at c
  split at c
  .cases c;exact r
  .exact h.te _ _ c
 .rw [a] at j
  split at j
  .cases j
  .exact h.files _ _ j
 .have l:=rS (T:=T) (h.lt g) (U (.dir M)) x
  rw [g] at l;simp only [fq] at l;have A:=u x;have y:=h.ref x
  have s:MO x (mX T d M x)=MO x (T x):=by
   rw [a]
   by_cases e:x=d
   .subst e;rw [if_pos rfl,g];rfl
   .rw [if_neg e]
  rw [s];unfold mX;omega
 .rw [a,if_neg (by have:=h.lt g;omega)]
  exact h.out x t
def kV.add (h:kV n T z) (c:T d=U (.dir L)) (a:sn (L++[⟨id,nm⟩])):kV n (mX T d (L++[⟨id,nm⟩])) fun x=>z x+if x=id then 1 else 0:=by
 refine h.set c a fun x=>?_;rw [List.countP_append]
 by_cases e:x=id
 .subst e;simp;omega
 .have:¬ id=x:=Ne.symm e
  simp [e,this]
def kV.leaf (h:kV n T z) {y:xM} {y':Option xM} (hy:T id=U y) (r:fq (U y)=[]) (s:fq y'=[]) (m:id≠1) (q:∀ L,y'≠U (.dir L)) (t:∀ f,y'=U (.file f)->f.kd=1):kV n (fH T id y') fun x=>z x+if x=id then MO id (U y)-MO id y' else 0:=by
 have a:∀ x,fH T id y' x=if x=id then y' else T x:=fun x=>rfl
 refine ⟨?_,fun x N c=>?_,fun x f g=>?_,fun x=>?_,fun x u=>?_⟩
 .obtain ⟨l,o⟩:=h.root
  exact ⟨l,by rw [a,if_neg (Ne.symm m)];exact o⟩
 .rw [a] at c
  split at c
  .exact absurd c (q N)
  .exact h.te _ _ c
 .rw [a] at g
  split at g
  .exact t f g
  .exact h.files _ _ g
 .have j:=rS (T:=T) (h.lt hy) y' x
  rw [hy,r,s] at j;simp only [List.countP_nil,Nat.add_zero] at j;rw [j,a,h.ref x]
  by_cases e:x=id
  .subst e;rw [if_pos rfl,if_pos rfl,hy];omega
  .rw [if_neg e,if_neg e];omega
 .rw [a,if_neg (by have:=h.lt hy;omega)]
  exact h.out x u
end
def dG {p:List UInt8} {l:List (List UInt8)} (h:aW p=U l):l.all cG=true/\l.length<=1000:=by
 unfold aW at h
 split at h
 .cases h
 .rename_i a
  split at h
  .cases h;exact ⟨rfl,Nat.zero_le _⟩
  .split at h
   .rename_i c;cases h
    exact ⟨c,Nat.le_trans (lP _ _) (Nat.le_of_not_lt fun q=>a (.inl q))⟩
   .cases h
def bL (T:Tr) (p:List UInt8):Int × Nat:=match aW p with
 | none=>(1,0)
 | some l=>aV T 1 l
def rU {T:Tr} {p:List UInt8} (h:aW p=S):bL T p=(1,0):=by unfold bL;rw [h]
def eR {T:Tr} {p:List UInt8} {l:List (List UInt8)} (h:aW p=U l):bL T p=aV T 1 l:=by unfold bL;rw [h]
def qM:Option xM->Int × Int × Int
 | some (.file f)=>(f.kd,f.lk,(f.sz:Int))
 | some (.dir L)=>(2,1,((32*L.length:Nat):Int))
 | none=>(0,0,0)
end Go.SL
namespace Go.Proofs.Cl
open RowKit SL Proofs.Nn Proofs.Ba Proofs.Fs
attribute [local go_sem] Oper.semAt_some
theorem jr {v:Value} {l:List (List UInt8)} (a:Q) (P:ai) (h:ah a (fu v l*P)):IB a v l:=by
 unfold fu at h;rcases h.cH with ⟨rfl,m,_,_⟩|⟨g,e,j,rfl,o,h4,h5,q,t⟩
 .exact .inl ⟨S,0,rfl,List.eq_nil_of_length_eq_zero m⟩
 .refine .inr ⟨g,0,e,rfl,o,h4,fun k c=>?_⟩
  have r:=t.cell k;rw [Nat.zero_add,r,<- Array.getElem?_toList];have s:(strs l)[k]?=j.toList[k]?:=by rw [<- q,List.getElem?_take,if_pos Om0]
  rw [<- s];unfold strs;rw [List.getElem?_map,B3 c,A1,B3 c]
  rfl
def eZ {v:Value} {l:List (List UInt8)} {e:Q} {P:ai} (h:ah e (fu v l*P)):∃ a c,v = .slice a l.length c:=az h
def Qd (c:Int) (X a:ai) (w:Q) (e:Ending) (w':Q):Prop:=ak w w'/\((c=0/\e = O (.tuple #[])/\ah w' X)\/(c≠0/\e = .panicked (pF c)/\ah w' a))
def aB (a:Nat) (p:List UInt8):ai:=pt a (W #[V (str p)] 9 (0,0))
def fw (a:Nat) (z:Int × Int × Int):ai:=pt a (W #[Z Y z.1,Z Y z.2.1,Z Y z.2.2] 34 (0,0))
section
variable {n:Nat} {x:Fx n} {b v k pc sc:Nat} {T:Tr} {w:Q} {F:ai} {p:List UInt8}
def NZ (A:Tidy n T) (h:ah w (vA x b v T k*(aB pc p*(fw sc (0,0,0)*F)))) :
  Calls R 40 #[ax v,ax pc,ax sc] w (Qd (bL T p).1 (vA x b v T k*(aB pc p*(fw sc (qM (T (bL T p).2))*F))) (vA x b v T k*(aB pc p*(fw sc (0,0,0)*F))) w):=by
 refine aK fun G0 e=>?_;have cp:w.cell? ⟨pc,0,S⟩=U (V (str p)):=h.aj.cell 0;have d0:=ae h;have HT:=ae A
 cases j:aW p with
 | none=>
  rw [rU j] at e;have C:=ae (yD (w:=w) j);clear h A j
  go_in
  go_wp2_with fail
  apply C.o.mono;rintro b0 w2 ⟨rfl,q,m⟩;exact ⟨rfl,e.o _ _ ⟨q,.inr ⟨De0,rfl,m.cU d0.o⟩⟩⟩
 | some l=>
  rw [eR j] at e;obtain ⟨x0,hl⟩:=dG j;have C:=ae (ei (w:=w) j);have hy:=fun h0=>A.walk l A.root.choose_spec h0;have N:=ae hy;have HL:=ae hl;clear h A j hy x0 hl
  go_in
  go_wp2_with fail
  apply C.o.mono;rintro b0 w2 ⟨u,rfl,q,m⟩;have o:=m.under d0.o;have hw:=ae (gq HT.o HL.o jr (o.aj));generalize aV T 1 l=F0 at *;obtain ⟨c,id⟩:=F0;dsimp only at e N hw;clear cp C m o HL
  go_wp2_with fail
  apply hw.o.mono;rintro b0 w3 ⟨he,d3,o⟩;clear hw;rcases he with ⟨rfl,rfl⟩|⟨hc,rfl⟩
  .obtain ⟨y,hy⟩:=N.o rfl
   have hn:=ae (mq hy o);have o0:qM (T id)=(y.af.kd,y.af.lk,(y.af.sz:Int)):=by rw [hy];cases y <;> rfl
   have k0:y.af.kd=2->y.af.lk=1:=by cases y with
    | file f=>intro h;have:=HT.o.files _ _ hy;exact absurd (this.symm.trans h) De0
    | dir L=>intro _;rfl
   rw [o0] at e;generalize y.af=f at *;have P:=ae k0;clear o0 hy N k0
   go_wp2_with fail
   apply hn.o.mono;rintro b0 a ⟨z,rfl,p0,q0,r0,s0,d4,h4⟩;obtain ⟨hX,l0,i0⟩:=qC p0;have hB:=h4.alloc (W pE 75 (0,0));have Hz:=ae hB.heap;have t:=hB.setRow (cs':=ints z.l);have n0:((a.alloc (W pE 75 (0,0))).setRow a.heap.size (ints z.l)).cell? ⟨a.heap.size,0,S⟩=U (Z Y f.kd):=by rw [<- q0];exact t.cell 0
   have n1:((a.alloc (W pE 75 (0,0))).setRow a.heap.size (ints z.l)).cell? ⟨a.heap.size,1,S⟩=U (Z Y f.lk):=by rw [<- r0];exact t.cell 1
   have n2:((a.alloc (W pE 75 (0,0))).setRow a.heap.size (ints z.l)).cell? ⟨a.heap.size,2,S⟩=U (Z Y (f.sz:Int)):=by rw [<- s0];exact t.cell 2
   have M:=ae t;have D5:=ae ((((q.trans d3).trans d4).alloc (W pE 75 (0,0))).setRow a.heap.size (ints z.l));have g0:=ae l0;have e0:=ae i0;have HX:=ae hX;have B:=ae n0;have X:=ae n1;have N2:=ae n2;obtain ⟨H,E⟩:=Nm f.kd
   obtain ⟨lk,G⟩:=Nm f.lk
   obtain ⟨I,c0⟩:=Nm ((f.sz:Int))
   rw [E,G,c0] at e;rw [E] at B;rw [G] at X;rw [c0] at N2;rw [E,G] at P;clear hn hB t hX l0 i0 n0 n1 n2 q d3 d4 o h4 p0 q0 r0 s0 E G c0;unfold pE at *
   go_upto_region 1 with (refine wpList_store_row (by exact rfl) 75 (.tmp 4) (.tmp 10) (by exact rfl) a.heap.size (ints z.l) (by exact rfl) (by exact rfl) 75 _ (by with_reducible exact Hz.o) e0.o (by rw [HX.o];rfl) g0.o ?_)
   generalize D0:(a.alloc (W #[Z Y 0,Z Y 0,Z Y 0,Z Y 0,Z Y 0,Z Y 0,Z Y 0,Z Y 0,Z Y 0,Z Y 0,Z Y 0,Z Y 0,Z Y 0,Z Y 0,Z Y 0,Z Y 0,Z Y 0,Z Y 0,Z Y 0,Z Y 0] 75 (0,0))).setRow a.heap.size (ints z.l)=w5 at *;generalize a.heap.size=nb at *;have g:=M.o.to (by unfold fw;ac_rfl:_=pt sc (W #[Z Y 0,Z Y 0,Z Y 0] 34 (0,0))*(pt nb (W (ints z.l) 75 (0,0))*(vA x b v T k*(fu u l*(aB pc p*F)))));have n0:=B.o;have n1:=X.o;have n2:=N2.o;have z0:w5.cell? ⟨sc,0,S⟩=U (Z Y 0):=g.cell 0;have z1:w5.cell? ⟨sc,1,S⟩=U (Z Y 0):=g.cell 1;have z2:w5.cell? ⟨sc,2,S⟩=U (Z Y 0):=g.cell 2;have f0:=g.frozen 0;have f1:=g.frozen 1;have f2:=g.frozen 2;have r:=((g.setCell 0 (Z Y H)).setCell 1 (Z Y lk)).setCell 2 (Z Y I);have m0:=(r.aj.cell 0).trans ((M.o.cell 0).symm.trans B.o);have y1:=r.cell 1;have g1:=r.frozen 1;have K:=ae r;have J:=ae (((D5.o.setCell ⟨sc,0,S⟩ (Z Y H)).setCell ⟨sc,1,S⟩ (Z Y lk)).setCell ⟨sc,2,S⟩ (Z Y I));simp at y1;clear g r M D5 B X N2 D0 Hz g0 e0 HX
   by_cases m:H=2
   .subst m
    have u0:=P.o rfl;subst u0;have h8:=ae (K.o.setCell 1 (Z Y 1));have D8:=ae (J.o.setCell ⟨sc,1,S⟩ (Z Y 1));clear K J P
    go_wp2_with fail
    go_end0
    refine e.o _ _ ⟨D8.o,.inl ⟨rfl,rfl,?_⟩⟩;have s:=h8.o;simp only [D7,List.set_cons_zero,List.set_cons_succ] at s;exact (s.to (by unfold fw;ac_rfl:_=(pt nb (W (ints z.l) 75 (0,0))*fu u l)*(vA x b v T k*(aB pc p*(fw sc (2,1,I)*F))))).right
   .go_wp2_with fail
    go_end0
    refine e.o _ _ ⟨J.o,.inl ⟨rfl,rfl,?_⟩⟩;have s:=K.o;simp only [D7,List.set_cons_zero,List.set_cons_succ] at s;exact (s.to (by unfold fw;ac_rfl:_=(pt nb (W (ints z.l) 75 (0,0))*fu u l)*(vA x b v T k*(aB pc p*(fw sc (H,lk,I)*F))))).right
  .exact ⟨rfl,e.o _ _ ⟨q.trans d3,.inr ⟨hc,rfl,(o.t00 (fu u l*(vA x b v T k*(aB pc p*(fw sc (0,0,0)*F))))).right⟩⟩⟩
end
def Xp {n:Nat} (x:Fx n) (b v:Nat) (h:Int->Tr->Nat->Prop) (X:ai) (w:Q) (e:Ending) (w':Q):Prop:=
 ∃ c a g j,h c a g/\(c=0->Tidy n a)/\((c=0/\e = O (.tuple #[]))\/(c≠0/\e = .panicked (pF c)))/\ak w w'/\j<=24/\ah w' (vA (x.more j) b v a g*X)
def n7 (n:Nat) (T:Tr) (k:Nat) (kd:Int) (p:List UInt8) (c:Int) (a:Tr) (e:Nat):Prop:=
 c=gF T k p/\(c=0->∃ ps L id,aW p=U ps/\T (fU T ps)=U (.dir L)/\kZ L (cS ps)=S/\T id=S/\0<id/\id<n/\a=Qh T (fU T ps) id (cS ps) kd/\e=VG k L)
def aU (a:Nat) (z:Int):ai:=pt a (W #[Z Y z] 3 (0,0))
section
variable {n:Nat} {x:Fx n} {b v k pc kc:Nat} {T:Tr} {w w':Q} {F:ai} {p:List UInt8}
def ze (c:Tidy n T) {ps:List (List UInt8)} (h:fM T ps=0):ps≠[]/\∃ L,T (fU T ps)=U (.dir L)/\kZ L (cS ps)=S:=by
 unfold fM at h
 split at h
 .exact absurd h De0
 .rename_i e
  split at h
  .rename_i a;exact absurd h a
  .rename_i a
   have a:(aV T 1 ps.dropLast).1=0:=by simpa using a
   obtain ⟨y,hy⟩:=c.walk ps.dropLast c.root.choose_spec a;refine ⟨e,?_⟩;unfold fU
   cases y with
   | file f=>rw [hy] at h;exact absurd h (show ¬ (8:Int)=0 by decide)
   | dir L=>
    refine ⟨L,hy,?_⟩
    cases g:kZ L (cS ps) with
    | none=>rfl
    | some i=>rw [hy,mw g] at h;exact absurd h (show ¬ (6:Int)=0 by decide)
def Gw {ps:List (List UInt8)} (h:ps.all cG=true) (a:ps≠[]):cG (cS ps)=true:=by
 have c:=List.length_pos_iff.2 a;unfold cS;rw [A1,B3 Om0];exact List.all_eq_true.1 h _ (List.getElem_mem _)
def Qa {a:Int} (h0:a=1\/a=2) (hn:n<=3840) (ht:Tidy n T) (y:gF T k p=0) (c0:ah w (vA x b v T k*(aB pc p*(aU kc a*F)))) :
  Calls R 109 #[ax v,ax pc,ax kc] w (Xp x b v (n7 n T k a p) (aB pc p*(aU kc a*F)) w):=by
 refine aK fun F0 HQ=>?_;have cp:w.cell? ⟨pc,0,S⟩=U (V (str p)):=c0.aj.cell 0;have x0:=ae c0;have C:=ae ht
 cases l:aW p with
 | none=>
  have g:(1:Int)=gF T k p:=by unfold gF;rw [l]
  exact absurd (g.trans y) De0
 | some ps=>
  obtain ⟨u0,hl⟩:=dG l;have p0:gF T k p=if fM T ps≠0 then fM T ps else if rO (fq (T (fU T ps)))≠0 then 9 else if k=0 then 7 else lL (k-1) (fq (T (fU T ps))) (cS ps):=by unfold gF;rw [l]
  have I:=ae (ei (w:=w) l);have HL:=ae hl;have b0:=ae p0;have HS:=ae l;have n0:=ae u0;clear c0 ht l hl p0 u0
  go_in
  go_wp2_with fail
  apply I.o.mono;rintro e w2 ⟨u,rfl,d2,h2⟩;have t:=(h2.under x0.o).aj;have hw:=ae (wg C.o HL.o (fun W0 V0 hW=>eZ hW) jr t);clear cp I h2 t HL
  go_wp2_with fail
  apply hw.o.mono;rintro e o ⟨he,d3,t⟩;clear hw;rcases he with ⟨f0,rfl⟩|⟨g,rfl⟩
  .obtain ⟨q0,L,h,r⟩:=ze C.o f0
   have K:=Gw n0.o q0;have J:gF T k p=if rO L≠0 then 9 else if k=0 then 7 else lL (k-1) L (cS ps):=by rw [b0.o,if_neg (by rw [f0];simp),h];rfl
   have o0:Hid (∀ id,T id=S->0<id->id<n->lL (k-1) L (cS ps)=0->rO L=0->k≠0->∀ j,j<=24->∀ w',ak w w'->ah w' (vA (x.more j) b v (Qh T (fU T ps) id (cS ps) a) (VG k L)*(aB pc p*(aU kc a*F)))->F0 (O (.tuple #[])) w'):=fun id m A N c M I j hj w' dd l=>by
    have H0:gF T k p=0:=by rw [J,if_neg (by rw [M];simp),if_neg I,c]
    have N0:L.length<3840:=by unfold lL at c;rw [r] at c;simp only [Option.isSome_none,Bool.false_eq_true,if_false] at c;split at c;exact absurd c De0;omega
    exact HQ.o _ _ ⟨0,_,_,j,⟨H0.symm,fun _=>⟨ps,L,id,HS.o,h,r,m,A,N,rfl,rfl⟩⟩,fun _=>C.o.make h m A N hn h0 K r N0,.inl ⟨rfl,rfl⟩,dd,hj,l⟩
   have hE:=C.o.te _ _ h;obtain ⟨d,e0⟩:=Nm (fU T ps)
   obtain ⟨nm,i0⟩:=Nm (cS ps)
   rw [e0,i0] at o0 ⊢;rw [i0] at J K r;rw [e0] at h;have H:=t.alloc (W #[Z Y (d:Int),V (str nm)] 138 (0,0));have dB:=ae ((d2.trans d3).alloc (W #[Z Y (d:Int),V (str nm)] 138 (0,0)));have hC:=H.t00 (vA x b v T k*(pt o.heap.size (W #[Z Y (d:Int),V (str nm)] 138 (0,0))*(fu u ps*(aB pc p*(aU kc a*F)))));have M:=ae (I3 (nm:=nm) h hC);have s0:(o.alloc (W #[Z Y (d:Int),V (str nm)] 138 (0,0))).cell? ⟨o.heap.size,0,S⟩=U (Z Y (d:Int)):=H.cell 0;have s1:(o.alloc (W #[Z Y (d:Int),V (str nm)] 138 (0,0))).cell? ⟨o.heap.size,1,S⟩=U (V (str nm)):=H.cell 1;have P:=ae h;have HE:=ae hE;have HN:=ae K;have HP:=ae r;have X:=ae J;clear H hC t d2 d3 h hE K r J e0 i0 f0 q0 b0 HS n0
   go_wp2_with fail
   generalize o.alloc (W #[Z Y (d:Int),V (str nm)] 138 (0,0))=w4 at *;generalize o.heap.size=s at *;apply M.o.mono;rintro e w5 ⟨he,d5,h5⟩;have D5:=ae (dB.o.trans d5);clear M dB d5 s0 s1;rcases he with ⟨l0,rfl⟩|⟨g,rfl⟩
   .have hv:=h5.to (by unfold vA;ac_rfl:_=eK x b (gJ T) k*(pt v (bV b n)*(aU kc a*(pt s (W #[Z Y (d:Int),V (str nm)] 138 (0,0))*(fu u ps*(aB pc p*F))))))
    have k0:w5.cell? ⟨v,0,S⟩=U (ax b)/\w5.cell? ⟨v,1,S⟩=U (Z Y (n:Int))/\w5.cell? ⟨kc,0,S⟩=U (Z Y a):=⟨hv.aj.cell 0,hv.aj.cell 1,hv.au.cell 0⟩
    have HV:=ae hv
    by_cases g0:k=0
    .have K0:(7:Int)=gF T k p:=by rw [X.o,if_neg (by rw [l0];simp),if_pos g0]
     exact absurd (K0.trans y) De0
    .have r0:=ae fun w' (h':ah w' (eK x b (gJ T) k*(pt v (bV b n)*(aU kc a*(pt s (W #[Z Y (d:Int),V (str nm)] 138 (0,0))*(fu u ps*(aB pc p*F)))))))=>VS h' h0 Om0
     have D0:=ae fun w=>dK w;clear hv h5
     go_wp2_with fail
     go_region_held3 (fun w'=>w'.cell? ⟨v,0,S⟩=U (ax b)/\w'.cell? ⟨v,1,S⟩=U (Z Y (n:Int))/\w'.cell? ⟨kc,0,S⟩=U (Z Y a))
      (first|exact k0|exact k1|go_keep)
      (first|(go_at_call 111;apply (r0.o _ HV.o.drew).mono;rintro e B ⟨id,rfl,m,A,N,d6,q⟩;have k1:B.cell? ⟨v,0,S⟩=U (ax b)/\B.cell? ⟨v,1,S⟩=U (Z Y (n:Int))/\B.cell? ⟨kc,0,S⟩=U (Z Y a):=⟨q.aj.cell 0,q.aj.cell 1,q.au.cell 0⟩))
     rename_i G0;clear G0 k0 k1
     have m0:T id=S:=by unfold gJ at m;cases hx:T id with
      | none=>rfl
      | some Y0=>rw [hx] at m;cases m
     have S0:d≠id:=by rintro rfl;rw [P.o] at m0;cases m0
     rw [<- Ih h0,Af] at q;have E:=q.to (by unfold vA;ac_rfl:_=vA (x.more 3) b v (fH T id (U (nx a))) (k-1)*(pt s (W #[Z Y (d:Int),V (str nm)] 138 (0,0))*(fu u ps*(aB pc p*(aU kc a*F)))));have c:=ae (CU (x:=x.more 3) (child:=id) A Om0 (show fH T id (U (nx a)) d=U (.dir L) by rw [aQ _ _ S0];exact P.o) HE.o HN.o E);have s0:B.cell? ⟨s,0,S⟩=U (Z Y (d:Int)):=E.aj.cell 0;have s1:B.cell? ⟨s,1,S⟩=U (V (str nm)):=E.aj.cell 1;have D6:=ae (D5.o.drew.trans d6);clear r0 HV q E d6 m
     go_wp2_with fail
     apply (D0.o _).mono;rintro e w7 ⟨rfl,rfl⟩
     go_wp2_with fail
     apply c.o.mono;rintro e w8 hq;rcases hq with ⟨d0,rfl,d8,G⟩|⟨d0,rfl,d8,G⟩
     .have R0:mX (fH T id (U (nx a))) d (L++[⟨id,nm⟩])=Qh T d id nm a:=by unfold Qh mX;rw [P.o];rfl
      rw [R0] at G;have L0:=ae (o0.o id m0 A N d0 l0 g0 8 De0 _ (D6.o.trans d8) (G.to (by unfold VG;ac_rfl:_=(fu u ps*pt s (W #[Z Y (d:Int),V (str nm)] 138 (0,0)))*(vA (x.more 8) b v (Qh T d id nm a) (VG k L)*(aB pc p*(aU kc a*F))))).right);clear c G s0 s1
      exact Zy L0.o
     .exact absurd ((by rw [X.o,if_neg (by rw [l0];simp),if_neg g0]:gF T k p=_).symm.trans y) d0
   .have h9:rO L=9:=by unfold rO at g ⊢;split;rfl;rename_i T0;rw [if_neg T0] at g;exact absurd rfl g
    exact absurd ((by rw [X.o,if_pos g]:gF T k p=9).symm.trans y) De0
  .exact absurd ((by rw [b0.o,if_pos g]:gF T k p=_).symm.trans y) g
end
end Go.Proofs.Cl

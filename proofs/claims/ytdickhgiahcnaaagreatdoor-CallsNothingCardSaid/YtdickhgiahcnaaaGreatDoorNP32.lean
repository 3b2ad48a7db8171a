/- Steps. -/
import Derived.Test.YtdickhgiahcnaaaGreatDoorNP30
import Derived.Test.YtdickhgiahcnaaaGreatDoorNP18
import Derived.Test.YtdickhgiahcnaaaGreatDoorNP31
set_option linter.all false
set_option maxRecDepth 99999
set_option maxHeartbeats 0
open Go.SL
open Go.Value renaming int->Z,string->V
open Go.IntKind renaming i64->Y
open Go.Obj renaming cells->U
open Go.Ending renaming returned->N
open Go renaming World->O
open Go.Proofs.Tryz renaming prog->R
open Option renaming some->X,none->S
open Go.Proofs.Tryz
open List renaming getD->A3,getElem?_eq_getElem->A2,set_cons_succ->A1,set_cons_zero->B3,getElem_mem->B2,length_dropLast->B1,length_singleton->D9,eq_nil_or_concat->D7,concat_eq_append->D3,setIfInBounds_toArray->D2
namespace Go.Proofs.Cl
open RowKit SL Proofs.Nn Proofs.Ba Proofs.Fs
attribute [local go_sem] Oper.semAt_some
variable {y:sd}
def vA {n:Nat} (x:Fx n) (b v:Nat) (T:Tr) (k:Nat):ai:=pt v (bq b n)*dx x b (eH T) k
def Un (a:ai) (c:Int) (r:Value) (w:O) (e:Ending) (w':O):Prop:=
 ((c=0/\e = N r)\/(c≠0/\e = .panicked (jB c)))/\aj w w'/\ag w' a
section
variable {n:Nat} {x:Fx n} {b v k id:Nat} {T:Tr} {w:O} {D F:ai} {nm:List UInt8} {ps:List (List UInt8)} {pv:Value}
def mV (h:ag w (vA x b v T k*F)):ag w (pt v (bq b n)*(dx x b (eH T) k*F)):=h.to (ay _ _ _)
def mx (h:ag w (pt v (bq b n)*(dx x b (eH T) k*F))):ag w (vA x b v T k*F):=h.to (ay _ _ _).symm
def gw (y:Tidy n T) (u:ps.length<=1000) (t:∀ W P,ag W (D*P)->xz W pv ps) (h:ag w (vA x b v T k*(D*F))) :
  Calls R 30 #[az v,pv] w (Un (vA x b v T k*(D*F)) (aO T 1 ps).1 (Z Y ((aO T 1 ps).2:Nat)) w):=by
 refine aF fun Q j=>?_;have g:=mV h;have B:w.cell? ⟨v,0,S⟩=X (az b):=g.cell 0;have C:w.cell? ⟨v,1,S⟩=X (Z Y (n:Int)):=g.cell 1;have m:=ae (GL y u t (g.t00 (dx x b (eH T) k*(D*(pt v (bq b n)*F)))));generalize aO T 1 ps=p at *;obtain ⟨c,r⟩:=p;dsimp only at m j;clear h g y u t
 go_in
 go_wp2_with fail
 apply m.o.mono;rintro e A ⟨rfl,q,s⟩;have o:=ae (mx (s.t00 (pt v (bq b n)*(dx x b (eH T) k*(D*F)))));clear m s B C
 by_cases l:c=0
 .subst l
  have a:=cR A
  go_wp2_with fail
  apply a.mono;rintro e E ⟨rfl,rfl⟩;clear a
  exact Zz (j.o _ _ ⟨.inl ⟨rfl,rfl⟩,q,o.o⟩)
 .have a:=cC A c l
  go_wp2_with fail
  apply a.mono;rintro e E ⟨rfl,rfl⟩;clear a
  go_wp2_with fail
  exact ⟨rfl,j.o _ _ ⟨.inr ⟨l,rfl⟩,q,o.o⟩⟩
def W9 (f:AF) (a:ai) (w:O) (e:Ending) (w':O):Prop:=
 ∃ y:Nd,e = N (.agg (ints y.l))/\y.dr.length=16/\y.kd=f.kd/\y.lk=f.lk/\y.sz=f.sz/\aj w w'/\ag w' a
def jU (hy:T id=X y) (h:ag w (vA x b v T k*F)) :
  Calls R 29 #[az v,Z Y (id:Int)] w (W9 y.af (vA x b v T k*F) w):=by
 refine aF fun e0 G=>?_;have g:=(mV h).alloc (U ny 66 (0,0));have t:=ae ((aj.refl w).alloc (U ny 66 (0,0)));have Q:(w.alloc (U ny 66 (0,0))).cell? ⟨v,0,S⟩=X (az b):=g.ah.cell 0;have W:(w.alloc (U ny 66 (0,0))).cell? ⟨v,1,S⟩=X (Z Y (n:Int)):=g.ah.cell 1;have B:=ae (DM (g.t00 (dx x b (eH T) k*(pt w.heap.size (U ny 66 (0,0))*(pt v (bq b n)*F)))) (show eH T id=X y.af by unfold eH;rw [hy];rfl));clear h g hy;unfold ny at *
 go_in
 go_wp2_with fail
 apply B.o.mono;rintro e a ⟨z,rfl,C,b0,c0,d0,s,u⟩;have o:(ints z.l).size=20:=by rw [er,Nd.cells C]
 have l:=u.alloc (U #[Z Y 0,Z Y 0,Z Y 0,Z Y 0,Z Y 0,Z Y 0,Z Y 0,Z Y 0,Z Y 0,Z Y 0,Z Y 0,Z Y 0,Z Y 0,Z Y 0,Z Y 0,Z Y 0,Z Y 0,Z Y 0,Z Y 0,Z Y 0] 66 (0,0));have J:=ae l.heap;have A:=l.setRow (cs':=ints z.l);have j:=A.t00 (pt w.heap.size (U #[Z Y 0,Z Y 0,Z Y 0,Z Y 0,Z Y 0,Z Y 0,Z Y 0,Z Y 0,Z Y 0,Z Y 0,Z Y 0,Z Y 0,Z Y 0,Z Y 0,Z Y 0,Z Y 0,Z Y 0,Z Y 0,Z Y 0,Z Y 0] 66 (0,0))*(pt a.heap.size (U (ints z.l) 66 (0,0))*(pt v (bq b n)*(dx x b (eH T) k*F))));have K:=ae j.ah.heap;have M:=ae j.heap;have m:=j.setRow (cs':=ints z.l);have P:=ae m.heap;have I:=ae (mx m.right.right);have E:=ae ((((t.o.trans s).alloc (U #[Z Y 0,Z Y 0,Z Y 0,Z Y 0,Z Y 0,Z Y 0,Z Y 0,Z Y 0,Z Y 0,Z Y 0,Z Y 0,Z Y 0,Z Y 0,Z Y 0,Z Y 0,Z Y 0,Z Y 0,Z Y 0,Z Y 0,Z Y 0] 66 (0,0))).setRow a.heap.size (ints z.l)).setRow w.heap.size (ints z.l));have r:Hid ((ints z.l).all (·.oneCell')=true):=by simp [RowKit.Hid,ints,Value.oneCell']
 have c:Hid ((prog.info? 66).map (·.size)=X (ints z.l).size):=by show _=_;rw [o];exact bC
 have q:=ae o;have H:=ae fun w=>cR w;clear B u l A j m o s t Q W
 go_wp2_with (refine wpList_store_row (by exact rfl) 66 (.tmp 5) (.tmp 14) (by exact rfl) a.heap.size (ints z.l) (by exact rfl) (by exact rfl) 66 _ (by with_reducible exact J.o) c.o (by rw [q.o];rfl) r.o ?_)
 generalize (a.alloc (U #[Z Y 0,Z Y 0,Z Y 0,Z Y 0,Z Y 0,Z Y 0,Z Y 0,Z Y 0,Z Y 0,Z Y 0,Z Y 0,Z Y 0,Z Y 0,Z Y 0,Z Y 0,Z Y 0,Z Y 0,Z Y 0,Z Y 0,Z Y 0] 66 (0,0))).setRow a.heap.size (ints z.l)=w3 at *;apply (H.o w3).mono;rintro e w4 ⟨rfl,rfl⟩
 go_wp2_with (first
  | (refine wpList_load_row (by exact rfl) 66 (.tmp 5) (by exact rfl) a.heap.size (by exact rfl) 66 (ints z.l) (0,0) _ (by with_reducible exact K.o) underlying66 rfl (by with_reducible exact c.o) ?_)
  | (refine wpList_store_row (by exact rfl) 66 (.tmp 4) (.tmp 18) (by exact rfl) w.heap.size (ints z.l) (by exact rfl) (by exact rfl) 66 _ (by with_reducible exact M.o) c.o (by rw [q.o];rfl) r.o ?_))
 exact bodyPost_ret (results_cell_row rfl _ _ w.heap.size 66 (ints z.l) (0,0) _ rfl P.o underlying66 rfl c.o) rfl (G.o _ _ ⟨z,rfl,C,b0,c0,d0,E.o,I.o⟩)
 go_show
def Eo {f:AF} (m:T id=X (.file f)) (g a:Nat) (h:ag w (vA x b v T k*F)) :
  Calls R 38 #[az v,Z Y (id:Int),Z Y (g:Int),Z Y (a:Int)] w fun e w'=>
   ∃ u,e = N u/\aj w w'/\ag w' (bs 5 u (f.sub g a)*(vA x b v T k*F)):=by
 refine aF fun Q r=>?_;have c:=mV h;have s:w.cell? ⟨v,0,S⟩=X (az b):=c.cell 0;have t:w.cell? ⟨v,1,S⟩=X (Z Y (n:Int)):=c.cell 1;have o:=ae (Mu (c.t00 (dx x b (eH T) k*(pt v (bq b n)*F))) (gL m) g a);clear h c m
 go_in
 go_wp2_with fail
 apply o.o.mono;rintro e A ⟨u,rfl,y,j⟩;have q:=ae (j.to (by unfold vA;ac_rfl:_=bs 5 u (f.sub g a)*(vA x b v T k*F)));clear o j s t;have l:=cR A
 go_wp2_with fail
 apply l.mono;rintro e B ⟨rfl,rfl⟩;clear l
 exact Zz (r.o _ _ ⟨u,rfl,y,q.o⟩)
def dJ {p:List UInt8} {l:List (List UInt8)} (h:bh p=X l):Calls R 31 #[V (str p)] w fun e w'=>∃ u,e = N u/\aj w w'/\ag w' (bR u l*whole w):=by
 refine aF fun Q m=>?_;have a:=ae (yq w p);unfold Dw at a;rw [h] at a;clear h
 go_in
 go_wp2_with fail
 apply a.o.mono;rintro e q ⟨u,rfl,o,c⟩;have j:=ae c;clear a c;have g:=cR q
 go_wp2_with fail
 apply g.mono;rintro e r ⟨rfl,rfl⟩;clear g
 exact Zz (m.o _ _ ⟨u,rfl,o,j.o⟩)
def fg {p:List UInt8} (h:bh p=S):Calls R 31 #[V (str p)] w fun e w'=>e = .panicked (jB 1)/\aj w w'/\ag w' (whole w):=by
 refine aF fun Q l=>?_;have a:=ae (yq w p);unfold Dw at a;rw [h] at a;clear h
 go_in
 go_wp2_with fail
 apply a.o.mono;rintro e o ⟨u,rfl,m,c⟩;have j:=ae c.right;clear a c;have g:=cC o 1 De0
 go_wp2_with fail
 apply g.mono;rintro e q ⟨rfl,rfl⟩;clear g
 go_wp2_with fail
 exact ⟨rfl,l.o _ _ ⟨rfl,m,j.o⟩⟩
end
section
variable {n:Nat} {x:Fx n} {b v k id:Nat} {T:Tr} {w:O} {D F:ai} {nm:List UInt8} {ps:List (List UInt8)} {pv:Value}
def Vp (c:Int) (a:ai) (w:O) (e:Ending) (w':O):Prop:=e = .panicked (jB c)/\aj w w'/\ag w' a
def lZ {z:Nd} (h:z.dr.length=16):(ints z.l).size=20/\(ints z.l).all (·.oneCell')=true/\(prog.info? 66).map (·.size)=X (ints z.l).size:=by
 have a:(ints z.l).size=20:=by rw [er,Nd.cells h]
 exact ⟨a,by simp [ints,Value.oneCell'],by rw [a];exact bC⟩
def VA (f:AF) (a:ai) (w:O) (e:Ending) (w':O):Prop:=(f.kd=1/\W9 f a w e w')\/(f.kd≠1/\Vp 8 a w e w')
def oN (hy:T id=X y) (h:ag w (vA x b v T k*F)) :
  Calls R 37 #[az v,Z Y (id:Int)] w (VA y.af (vA x b v T k*F) w):=by
 refine aF fun e0 r=>?_;have M:=(h.alloc (U ny 66 (0,0))).ah;have J:=ae ((aj.refl w).alloc (U ny 66 (0,0)));have W:=ae (jU hy M);generalize y.af=f at *
 go_in
 go_wp2_with fail
 apply W.o.mono;rintro e a ⟨z,rfl,C,E,c0,d0,I,K⟩;obtain ⟨P,b0,Q⟩:=lZ C;have A:=K.alloc (U ny 66 (0,0));have t:=ae A.heap;have m:=A.setRow (cs':=ints z.l);have n0:((a.alloc (U ny 66 (0,0))).setRow a.heap.size (ints z.l)).cell? ⟨a.heap.size,0,S⟩=X (Z Y f.kd):=by rw [<- E];exact m.cell 0
 have H:=ae m.heap;have g:=ae (m.to (by unfold ny;ac_rfl:_=pt w.heap.size (U ny 66 (0,0))*(pt a.heap.size (U (ints z.l) 66 (0,0))*(vA x b v T k*F))));have o:=ae (((J.o.trans I).alloc (U ny 66 (0,0))).setRow a.heap.size (ints z.l));have l:=ae b0;have c:=ae Q;have j:=ae P;obtain ⟨kd,B⟩:=Nm f.kd
 rw [B] at n0;have s:=ae B;have G:=ae fun w=>cC w 8 De0
 by_cases u:kd=1
 .subst u
  go_wp2_with (first
   | (refine wpList_store_row (by exact rfl) 66 (.tmp 5) (.tmp 8) (by exact rfl) a.heap.size (ints z.l) (by exact rfl) (by exact rfl) 66 _ (by with_reducible exact t.o) c.o (by rw [j.o];rfl) l.o ?_)
   | (refine wpList_load_row (by exact rfl) 66 (.tmp 5) (by exact rfl) a.heap.size (by exact rfl) 66 (ints z.l) (0,0) _ (by with_reducible exact H.o) underlying66 rfl (by with_reducible exact c.o) ?_)
   | (refine wpList_store_row (by exact rfl) 66 (.tmp 4) (.tmp 13) (by exact rfl) w.heap.size (ints z.l) (by exact rfl) (by exact rfl) 66 _ (by with_reducible exact g.o.heap) c.o (by rw [j.o];rfl) l.o ?_))
  have q:=g.o.setRow (cs':=ints z.l);exact bodyPost_ret (results_cell_row rfl _ _ w.heap.size 66 (ints z.l) (0,0) _ rfl q.heap underlying66 rfl c.o) rfl (r.o _ _ (.inl ⟨s.o,z,rfl,C,E,c0,d0,o.o.setRow w.heap.size (ints z.l),q.right.right⟩))
 .go_wp2_with (first
   | (refine wpList_store_row (by exact rfl) 66 (.tmp 5) (.tmp 8) (by exact rfl) a.heap.size (ints z.l) (by exact rfl) (by exact rfl) 66 _ (by with_reducible exact t.o) c.o (by rw [j.o];rfl) l.o ?_)
   | fail)
  apply (G.o _).mono;rintro e w4 ⟨rfl,rfl⟩;exact ⟨rfl,r.o _ _ (.inr ⟨by rw [s.o];exact u,rfl,o.o,g.o.right.right⟩)⟩
def Cf {c:Func} {e:Array Value} {w:O} {a:Nat} {r:Int} {nm:List UInt8} (g:c.results=#[.cell 4 104]:=by rfl) (h4:e[4]?=X (az a)) (h:ag w (pt a (U #[Z Y r,V (str nm)] 104 (0,0))*F)) :
  (results c e).run R w = .ok (.agg #[Z Y r,V (str nm)]) w:=
 results_cell_row g _ _ a 104 _ (0,0) _ (by simp [h4]) h.heap underlying104 rfl Kr0
def Mz {W:O} {g o c m:Nat} (l:ps.length=m+1) (h:xz W (.slice (X ⟨g,o,S⟩) (m+1) c) ps):xz W (.slice (X ⟨g,o,S⟩) m c) ps.dropLast:=by
 rcases h with ⟨a,q,e,r⟩|⟨y,B,q,e,A,u,s⟩
 .rw [r] at l;simp at l
 .simp only [Value.slice.injEq,Option.some.injEq,Addr.mk.injEq] at e
  obtain ⟨⟨rfl,rfl,-⟩,-,rfl⟩:=e;have j:ps.dropLast.length=m:=by rw [B1,l];rfl
  refine .inr ⟨g,o,c,by rw [j],by rw [j];omega,u,fun k t=>?_⟩;rw [j] at t;have:=s k Om0
  rwa [show ps.dropLast.getD k []=ps.getD k [] by
   rw [A3,A3,List.getElem?_dropLast,if_pos Om0]]
def yA (ht:Tidy n T) (hl:ps.length<=1000) (b0:ps≠[]) (M:∀ W P,ag W (D*P)->xz W pv ps) (h:ag w (vA x b v T k*(D*F))) :
  Calls R 98 #[az v,pv] w (Un (vA x b v T k*(D*F)) (aO T 1 ps.dropLast).1 (.agg #[Z Y ((aO T 1 ps.dropLast).2:Nat),V (str (bD ps))]) w):=by
 refine aF fun g0 j=>?_;have j0:=List.length_pos_iff.2 b0;obtain ⟨m,y⟩:∃ m,ps.length=m+1:=⟨ps.length-1,Om0⟩
 have Q:∀ W P,ag W (D*P)->∃ g o c,pv = .slice (X ⟨g,o,S⟩) (m+1) c/\m+1<=c/\c<=maxLen/\W.cell? ⟨g,o+m,S⟩=X (V (str (bD ps))):=fun W P a=>by
  rcases M W P a with ⟨h0,c,_,s⟩|⟨g,o,c,e,A,B,hc⟩
  .exact absurd s b0
  .rw [y] at e A
   refine ⟨g,o,c,e,A,B,?_⟩;have:=hc m Om0;unfold bD
   rwa [y,Nat.add_sub_cancel]
 obtain ⟨g,o,c,rfl,A,B,-⟩:=Q _ _ h.ah;have c0:∀ W P,ag W (D*P)->xz W (.slice (X ⟨g,o,S⟩) m c) ps.dropLast:=fun W P a=>Mz y (M W P a)
 have t:∀ W P,ag W (D*P)->W.cell? ⟨g,o+m,S⟩=X (V (str (bD ps))):=fun W P a=>by
  obtain ⟨g',o',c',e,-,-,s⟩:=Q W P a;obtain ⟨⟨rfl,rfl,-⟩,-,rfl⟩:=e;exact s
 obtain ⟨nm,d0⟩:=Nm (bD ps)
 rw [d0] at j t;have hA:=(h.alloc (U #[Z Y 0,.string ⟨#[]⟩] 104 (0,0)))
 have I:=ae ((aj.refl w).alloc (U #[Z Y 0,.string ⟨#[]⟩] 104 (0,0)));have hk:=fun w' (h':ag w' (vA x b v T k*(D*(pt w.heap.size (U #[Z Y 0,.string ⟨#[]⟩] 104 (0,0))*F))))=>gw (ps:=ps.dropLast) ht (by rw [B1];omega) c0 h';have K:=hA.t00 (vA x b v T k*(D*(pt w.heap.size (U #[Z Y 0,.string ⟨#[]⟩] 104 (0,0))*F)));have q1:=t _ _ K.ah;generalize aO T 1 ps.dropLast=p at *;obtain ⟨H,r⟩:=p;have G:=ae hk;have C:=ae K;have E:=ae t;have b2:(m:Int)<=(c:Int):=Om0
 have b3:(m:Int)<(m:Int)+1:=Om0
 have k0:((m:Int)+1)<=(c:Int):=Om0
 have l0:(c:Int)<=9223372036854775807:=by unfold maxLen at B;omega
 go_in
 go_wp2_with fail
 generalize w.heap.size=rc at *
 by_cases q:H=0
 .subst q
  go_region_held3 (fun w'=>w'.cell? ⟨g,o+m,S⟩=X (V (str nm)))
   (first|exact q1|exact q2|exact q3|go_keep)
   (first|(go_at_call 30;apply (G.o _ C.o.drew).mono;rintro e w5 ⟨u,l,h5⟩;obtain rfl:e = N (Z Y (r:Int)):=u.elim (fun h=>h.2) (fun h=>absurd rfl h.1);have q2:=E.o _ _ h5.ah;have z0:=h5.au.cell 0;have z1:=h5.au.cell 1;have f0:=h5.au.frozen 0;have f1:=h5.au.frozen 1;have q3:=E.o _ _ ((h5.au.setCell 0 (Z Y (r:Int))).setCell 1 (V (str nm))).au;simp at z0 z1))
  have J:=((h5.au.setCell 0 (Z Y (r:Int))).setCell 1 (V (str nm)))
  have H6:=ae J;have H7:=ae (j.o _ _ ⟨.inl ⟨rfl,rfl⟩,((I.o.drew.trans l).setCell _ _).setCell _ _,J.right⟩)
  exact Zz (bodyPost_ret (Cf rfl rfl H6.o) rfl H7.o)
 .refine wp_region_held_drew (S:=fun w'=>w'.cell? ⟨g,o+m,S⟩=X (V (str nm))) Kr0 q1 (fun i0=>?_)
  refine tk 0 ?_;refine tk 1 ?_;refine tk 2 ?_;refine tk 3 ?_;refine tk 5 ?_;refine tk 6 ?_;refine tk 7 ?_;refine tk 8 ?_;refine tr 4 fun e0 hK=>?_
  go_simp
  go_wp2_with (go_at_call 30;apply (G.o _ C.o.drew).mono;rintro e w5 ⟨u,l,h5⟩;obtain rfl:e = .panicked (jB H):=u.elim (fun h=>absurd h.1 q) (fun h=>h.2);exact ⟨rfl,j.o _ _ ⟨.inr ⟨q,rfl⟩,I.o.drew.trans l,(h5.t00 (pt rc (U #[Z Y 0,.string ⟨#[]⟩] 104 (0,0))*(vA x b v T k*(D*F)))).right⟩⟩)
def _root_.Go.SL.ee (T:Tr) (ps:List (List UInt8)):Int:=
 if ps=[] then 6 else if (aO T 1 ps.dropLast).1≠0 then (aO T 1 ps.dropLast).1 else if (eo (T (aO T 1 ps.dropLast).2) (bD ps)).1=0 then 6 else if (eo (T (aO T 1 ps.dropLast).2) (bD ps)).1=5 then 0 else (eo (T (aO T 1 ps.dropLast).2) (bD ps)).1
def _root_.Go.SL.aT (T:Tr) (ps:List (List UInt8)):Nat:=(aO T 1 ps.dropLast).2
theorem qh (ht:Tidy n T) (hl:ps.length<=1000) (hs:∀ W P,ag W (D*P)->∃ a c,pv = .slice a ps.length c) (hD:∀ W P,ag W (D*P)->xz W pv ps) (h:ag w (vA x b v T k*(D*F))) :
  Calls prog 47 #[az v,pv] w (Un (vA x b v T k*(D*F)) (ee T ps) (.agg #[.int .i64 (aT T ps:Nat),.string (str (bD ps))]) w):=by
 refine aF fun Q HQ=>?_;obtain ⟨a,c,rfl⟩:=hs _ _ h.ah;obtain ⟨m,hm⟩:∃ m,ps.length=m:=⟨_,rfl⟩
 have hA:=h.alloc (.cells #[.int .i64 0,.string ⟨#[]⟩] 104 (0,0));have dA:=ae ((aj.refl w).alloc (.cells #[.int .i64 0,.string ⟨#[]⟩] 104 (0,0)));have Hc:=ae fun (w:World) (c:Int) (hc:c≠0)=>cC w c hc;have HA:=ae (hA.to (by ac_rfl:_=vA x b v T k*(D*(pt w.heap.size (.cells #[.int .i64 0,.string ⟨#[]⟩] 104 (0,0))*F))))
 by_cases hne:ps=[]
 .have hm0:m=0:=by rw [<- hm,hne];rfl
  have hfc:ee T ps=6:=if_pos hne;rw [hfc] at HQ;rw [hm,hm0]
  go_enter func47,ntmps47
  go_wp2_with fail
  refine (Hc.out _ 6 (by decide)).mono ?_;rintro e w3 ⟨rfl,rfl⟩;exact ⟨rfl,HQ.out _ _ ⟨.inr ⟨by decide,rfl⟩,dA.out,(HA.out.to (by ac_rfl:_=pt w.heap.size (.cells #[.int .i64 0,.string ⟨#[]⟩] 104 (0,0))*(vA x b v T k*(D*F)))).right⟩⟩
 .have hsp:=ae (yA ht hl hne hD HA.out)
  have hm0:¬ ((m:Int)=0):=by have:=List.length_pos_iff.2 hne;omega
  have hfc:ee T ps=if (aO T 1 ps.dropLast).1≠0 then (aO T 1 ps.dropLast).1 else if (eo (T (aO T 1 ps.dropLast).2) (bD ps)).1=0 then 6 else if (eo (T (aO T 1 ps.dropLast).2) (bD ps)).1=5 then 0 else (eo (T (aO T 1 ps.dropLast).2) (bD ps)).1:=if_neg hne
  have hy:=fun (h0:(aO T 1 ps.dropLast).1=0)=>ht.walk ps.dropLast (ht.root.choose_spec) h0;rw [hfc] at HQ;unfold aT at HQ;rw [hm] at hsp ⊢;generalize aO T 1 ps.dropLast=p at *;obtain ⟨cc,d⟩:=p;generalize bD ps=nm at *;have HY:=ae hy;have HT:=ae ht
  go_enter func47,ntmps47
  go_wp2_with fail
  refine hsp.out.mono ?_;rintro e w2 ⟨he,d2,h2⟩;generalize w.heap.size=rc at *;rcases he with ⟨rfl,rfl⟩|⟨hc,rfl⟩
  .obtain ⟨y,hy⟩:=HY.out rfl
   rw [if_neg (by decide)] at HQ;have hB:=h2.alloc (.cells #[.int .i64 (d:Int),.string (str nm)] 104 (0,0));have dB:=ae ((dA.out.trans d2).alloc (.cells #[.int .i64 (d:Int),.string (str nm)] 104 (0,0)));have hC:=hB.to (by unfold vA;ac_rfl:_=pt v (bq b n)*(pt w2.heap.size (.cells #[.int .i64 (d:Int),.string (str nm)] 104 (0,0))*(dx x b (eH T) k*(pt rc (.cells #[.int .i64 0,.string ⟨#[]⟩] 104 (0,0))*(D*F)))));have k0:(w2.alloc (.cells #[.int .i64 (d:Int),.string (str nm)] 104 (0,0))).cell? ⟨v,0,none⟩=some (az b)/\(w2.alloc (.cells #[.int .i64 (d:Int),.string (str nm)] 104 (0,0))).cell? ⟨v,1,none⟩=some (.int .i64 (n:Int))/\(w2.alloc (.cells #[.int .i64 (d:Int),.string (str nm)] 104 (0,0))).cell? ⟨w2.heap.size,0,none⟩=some (.int .i64 (d:Int))/\(w2.alloc (.cells #[.int .i64 (d:Int),.string (str nm)] 104 (0,0))).cell? ⟨w2.heap.size,1,none⟩=some (.string (str nm)):=⟨hC.cell 0,hC.cell 1,hC.ah.cell 0,hC.ah.cell 1⟩
   have K0:=ae k0;have hf:=ae fun w' (h':ag w' (dx x b (eH T) k*(pt v (bq b n)*(pt w2.heap.size (.cells #[.int .i64 (d:Int),.string (str nm)] 104 (0,0))*(pt rc (.cells #[.int .i64 0,.string ⟨#[]⟩] 104 (0,0))*(D*F))))))=>yu (nm:=nm) HT.out hy h';have HC:=ae hC.au;generalize eo (T d) nm=p at *;obtain ⟨cf,idf⟩:=p
   go_wp2_with fail
   generalize w2.heap.size=sc at *;have k0:=K0.out
   go_region_held3 (fun w'=>w'.cell? ⟨v,0,none⟩=some (az b)/\w'.cell? ⟨v,1,none⟩=some (.int .i64 (n:Int))/\w'.cell? ⟨sc,0,none⟩=some (.int .i64 (d:Int))/\w'.cell? ⟨sc,1,none⟩=some (.string (str nm)))
    (first|exact k0|exact k1|go_keep)
    (first|(go_at_call 99;refine (hf.out _ HC.out.drew).mono ?_;rintro e w4 ⟨rfl,d4,h4⟩;have k1:w4.cell? ⟨v,0,none⟩=some (az b)/\w4.cell? ⟨v,1,none⟩=some (.int .i64 (n:Int))/\w4.cell? ⟨sc,0,none⟩=some (.int .i64 (d:Int))/\w4.cell? ⟨sc,1,none⟩=some (.string (str nm)):=⟨h4.ah.cell 0,h4.ah.cell 1,h4.au.cell 0,h4.au.cell 1⟩))
   have h5:=h4.to (by unfold vA;ac_rfl:_=pt sc (.cells #[.int .i64 (d:Int),.string (str nm)] 104 (0,0))*(pt rc (.cells #[.int .i64 0,.string ⟨#[]⟩] 104 (0,0))*(vA x b v T k*(D*F))));have s0:=h5.cell 0;have s1:=h5.cell 1;have z0:=h5.ah.cell 0;have z1:=h5.ah.cell 1;have f0:=h5.ah.frozen 0;have f1:=h5.ah.frozen 1;have h6:=ae ((h5.ah.setCell 0 (.int .i64 (d:Int))).setCell 1 (.string (str nm)));have H5:=ae h5.right.right;have D4:=ae (dB.out.drew.trans d4)
   by_cases e0:cf=0
   .subst e0
    rw [if_pos rfl] at HQ
    go_wp2_with fail
    refine (Hc.out _ 6 (by decide)).mono ?_;rintro e w5 ⟨rfl,rfl⟩;exact ⟨rfl,HQ.out _ _ ⟨.inr ⟨by decide,rfl⟩,D4.out,H5.out⟩⟩
   .rw [if_neg e0] at HQ
    by_cases e5:cf=5
    .subst e5
     rw [if_pos rfl] at HQ;have H7:=ae (HQ.out _ _ ⟨.inl ⟨rfl,rfl⟩,(D4.out.setCell ⟨rc,0,none⟩ (.int .i64 (d:Int))).setCell ⟨rc,1,none⟩ (.string (str nm)),h6.out.right.right⟩)
     go_wp2_with fail
     exact bodyPost_ret (Cf rfl rfl h6.out) rfl H7.out
    .rw [if_neg e5] at HQ
     go_wp2_with fail
     refine (Hc.out _ cf e0).mono ?_;rintro e w5 ⟨rfl,rfl⟩;exact ⟨rfl,HQ.out _ _ ⟨.inr ⟨e0,rfl⟩,D4.out,H5.out⟩⟩
  .refine ⟨rfl,HQ.out _ _ ⟨.inr ⟨?_,?_⟩,dA.out.trans d2,(h2.to (by ac_rfl:_=pt rc (.cells #[.int .i64 0,.string ⟨#[]⟩] 104 (0,0))*(vA x b v T k*(D*F)))).right⟩⟩
   .rw [if_pos hc];exact hc
   .rw [if_pos hc]
def uN:∀ {z:Nd} (_:z.dr.length=16) (w:O),(Instr.field 66 (.agg (ints z.l)) 0).run R w = .ok (Z Y z.kd) w/\(Instr.field 66 (.agg (ints z.l)) 1).run R w = .ok (Z Y z.lk) w/\(Instr.field 66 (.agg (ints z.l)) 2).run R w = .ok (Z Y z.sz) w
 | ⟨a,c,e,[_,_,_,_,_,_,_,_,_,_,_,_,_,_,_,_],rw⟩,_,w=>⟨Kr0,Kr0,Kr0⟩
def _root_.Go.SL.ry (L:List aL):Int:=if 122880<=32*L.length then 9 else 0
def Iw {L:List aL} (hy:T id=X (.dir L)) (h:ag w (vA x b v T k*F)) :
  Calls R 89 #[az v,.agg #[Z Y (id:Int),V (str nm)]] w (Un (vA x b v T k*F) (ry L) (.tuple #[]) w):=by
 refine aF fun Q a=>?_;have A:=h.alloc (U #[Z Y (id:Int),V (str nm)] 104 (0,0));have t:=ae ((aj.refl w).alloc (U #[Z Y (id:Int),V (str nm)] 104 (0,0)));have C:=ae (jU hy A.ah)
 go_in
 go_wp2_with fail
 apply C.o.mono;rintro e I ⟨z,rfl,G,K,M,H,s,u⟩;have B:=fun w=>(uN G w).2.2;have o:z.sz=((32*L.length:Nat):Int):=H;have m:=ae (u.t00 (pt w.heap.size (U #[Z Y (id:Int),V (str nm)] 104 (0,0))*(vA x b v T k*F))).right;have l:=ae (t.o.trans s);have r:=ae fun w=>cC w 9 De0;unfold ry at a;obtain ⟨q,E⟩:=Nm (32*L.length)
 rw [E] at o a;obtain ⟨g,j⟩:∃ g:Int,g=(q:Int):=⟨_,rfl⟩
 rw [o,<- j] at B
 by_cases c:122880<=q
 .rw [if_pos c] at a
  have y:(122880:Int)<=g:=Om0
  clear c j
  go_wp2_with fail
  apply (r.o _).mono;rintro e J ⟨rfl,rfl⟩;exact ⟨rfl,a.o _ _ ⟨.inr ⟨De0,rfl⟩,l.o,m.o⟩⟩
 .rw [if_neg c] at a
  have y:g<122880:=Om0
  clear c j
  exact Zy (a.o _ _ ⟨.inl ⟨rfl,rfl⟩,l.o,m.o⟩)
def _root_.Go.SL.iQ (k:Nat) (L:List aL) (nm:List UInt8):Int:=if (iE L nm).isSome then 6 else if 3840<=L.length then 9 else if k+aY L.length<aY (L.length+1) then 7 else 0
def _root_.Go.SL.ei (T:Tr) (d:Nat) (L:List aL):Tr:=df T d (X (.dir L))
def NY {a:Nat} {A:Nat->Option AF} {W:Int} {L:List aL} (c0:1<=a) (d0:a<=3839) (h:ag w (dx x b A k*F)) (H:A id=X (eC W L)) (K:rX L) (hl:L.length=3840) (I:cK nm=true) (M:iE L nm=S) :
  Calls R 100 #[fI b n,Z Y (id:Int),V (str nm),Z Y (a:Int)] w (YE x b A k 9 F w):=by
 refine aF fun b0 s=>?_;have G:=h.alloc (cH b n);have B:=ae ((aj.refl w).alloc (cH b n));have Q:=ae (jc G.ah H (je K Om0));obtain ⟨m,J⟩:∃ m,L.length=m:=⟨_,rfl⟩
 have q:=ae J;have P:=ae (sa M);have e0:(m:Int)=3840:=Om0
 have o:Hid (L.length<=3840):=by show L.length<=3840;omega
 have e:=ae fun w=>qG w nm;rw [I] at e;have g1:¬ ((a:Int)<1):=Om0
 have g2:¬ ((3839:Int)<(a:Int)):=Om0
 unfold fI
 go_in
 go_wp2_with fail
 refine Q.o.mono ?_;generalize w.heap.size=C at *;rintro r w2 ⟨u,rfl,t,j⟩;have c:=Go.Proofs.Fs.dS w2 u L nm _ o.o j;unfold qd at c;rw [P.o] at c;have g:=ae c;obtain ⟨ua,uc,rfl⟩:=aC j;rw [q.o] at g ⊢
 go_wp2_with fail
 refine (e.o _).mono ?_;rintro r w3 ⟨rfl,rfl⟩
 go_wp2_with fail
 refine g.o.mono ?_;rintro r w3 ⟨rfl,E,y⟩;have l:=ae (E.to (by ac_rfl:_=(sl 81 2 (.slice ua m uc) m (bG L)*pt C (cH b n))*(dx x b A k*F))).right
 go_wp2_with fail
 exact s.o _ _ ⟨Si0,(B.o.trans t).trans y,l.o⟩
def QS (x:Fx n) (b v:Nat) (T:Tr) (k id a:Nat) (nm:List UInt8) (L:List aL) (F:ai) (w:O) (e:Ending) (w':O):Prop:=
 (iQ k L nm=0/\e = N (.tuple #[])/\aj w w'/\ag w' (vA (x.more 5) b v (ei T id (L++[⟨a,nm⟩])) (k+aY L.length-aY (L.length+1))*F)) \/
 (iQ k L nm≠0/\Vp (iQ k L nm) (vA x b v T k*F) w e w')
def MZ {a:Nat} {L:List aL} (g:1<=a) (j:a<=3839) (h:ag w (dx x b (eH T) k*F)) (l:T id=X (.dir L)) (c:nx L) (m:cK nm=true) :
  Calls R 100 #[fI b n,Z Y (id:Int),V (str nm),Z Y (a:Int)] w fun e w'=>
   (iQ k L nm=0/\YE (x.more 5) b (eH (ei T id (L++[⟨a,nm⟩]))) (k+aY L.length-aY (L.length+1)) 0 F w e w')\/(iQ k L nm≠0/\YE x b (eH T) k (iQ k L nm) F w e w'):=by
 unfold iQ
 cases o:iE L nm with
 | some i=>exact (GZ g j h (jG l) c.ok c.len m o).mono fun e w' q=>.inr ⟨Si0,by simpa using q⟩
 | none=>
  by_cases s:3840<=L.length
  .rw [if_pos s]
   exact (NY g j h (jG l) c.ok (by have:=c.len;omega) m o).mono fun e w' q=>.inr ⟨De0,q⟩
  .rw [if_neg s]
   by_cases r:k+aY L.length<aY (L.length+1)
   .rw [if_pos r]
    exact (SZ g j h (jG l) c.ok Om0 m o r).mono fun e w' q=>.inr ⟨De0,q⟩
   .rw [if_neg r]
    have:=uB g j h (jG l) c.ok Om0 m o Om0;rw [show df (eH T) id (X (eC 1 (L++[⟨a,nm⟩])))=eH (ei T id (L++[⟨a,nm⟩])) from qu T id (.dir (L++[(⟨a,nm⟩:aL)]))] at this;exact this.mono fun e w' q=>.inl ⟨rfl,q⟩
def uQ {child:Nat} {L:List aL} (Q:1<=child) (W:child<=3839) (hf:T id=X (.dir L)) (J:nx L) (hi:cK nm=true) (h:ag w (vA x b v T k*F)) :
  Calls R 48 #[az v,.agg #[Z Y (id:Int),V (str nm)],Z Y (child:Int)] w (QS x b v T k id child nm L F w):=by
 refine aF fun b0 o=>?_;have I:=h.alloc (U #[Z Y (id:Int),V (str nm)] 104 (0,0));have u:=ae ((aj.refl w).alloc (U #[Z Y (id:Int),V (str nm)] 104 (0,0)));have g:=I.to (by unfold vA;ac_rfl:_=dx x b (eH T) k*(pt v (bq b n)*(pt w.heap.size (U #[Z Y (id:Int),V (str nm)] 104 (0,0))*F)));have l:(w.alloc (U #[Z Y (id:Int),V (str nm)] 104 (0,0))).cell? ⟨v,0,S⟩=X (az b)/\(w.alloc (U #[Z Y (id:Int),V (str nm)] 104 (0,0))).cell? ⟨v,1,S⟩=X (Z Y (n:Int))/\(w.alloc (U #[Z Y (id:Int),V (str nm)] 104 (0,0))).cell? ⟨w.heap.size,0,S⟩=X (Z Y (id:Int))/\(w.alloc (U #[Z Y (id:Int),V (str nm)] 104 (0,0))).cell? ⟨w.heap.size,1,S⟩=X (V (str nm)):=⟨g.ah.cell 0,g.ah.cell 1,g.au.cell 0,g.au.cell 1⟩
 have A:=ae fun w' (H:ag w' (dx x b (eH T) k*(pt v (bq b n)*(pt w.heap.size (U #[Z Y (id:Int),V (str nm)] 104 (0,0))*F))))=>MZ Q W H hf J hi;have C:=ae fun (w:O) (c:Int) (P:c≠0)=>cC w c P;have E:=ae fun w=>cR w;have t:=ae g;have G:=ae l;unfold QS at o;generalize iQ k L nm=c at *
 go_enter func48,ntmps48
 go_wp2_with fail
 generalize w.heap.size=sc at *;have l:=G.out
 by_cases j:c=0
 .subst j
  go_region_held3 (fun w'=>w'.cell? ⟨v,0,S⟩=X (az b)/\w'.cell? ⟨v,1,S⟩=X (Z Y (n:Int))/\w'.cell? ⟨sc,0,S⟩=X (Z Y (id:Int))/\w'.cell? ⟨sc,1,S⟩=X (V (str nm)))
   (first|exact l|exact s|go_keep)
   (first
    | (go_at_call 100;refine (A.out _ t.out.drew).mono ?_;rintro e a r;obtain ⟨rfl,q,h4⟩:=r.elim (fun h=>h.2) (fun h=>absurd rfl h.1);have s:a.cell? ⟨v,0,S⟩=X (az b)/\a.cell? ⟨v,1,S⟩=X (Z Y (n:Int))/\a.cell? ⟨sc,0,S⟩=X (Z Y (id:Int))/\a.cell? ⟨sc,1,S⟩=X (V (str nm)):=⟨h4.ah.cell 0,h4.ah.cell 1,h4.au.cell 0,h4.au.cell 1⟩)
    | (go_at_call 34;refine (E.out _).mono ?_;rintro e w5 ⟨rfl,rfl⟩))
  have B:=ae (u.out.drew.trans q);have m:=ae (h4.to (by unfold vA;ac_rfl:_=pt sc (U #[Z Y (id:Int),V (str nm)] 104 (0,0))*(vA (x.more 5) b v (ei T id (L++[⟨child,nm⟩])) (k+aY L.length-aY (L.length+1))*F))).right
  go_wp2_with fail
  go_end0
  exact o.out _ _ (.inl ⟨by simp,rfl,B.out,m.out⟩)
 .refine wp_region_held_drew (S:=fun w'=>w'.cell? ⟨v,0,S⟩=X (az b)/\w'.cell? ⟨v,1,S⟩=X (Z Y (n:Int))/\w'.cell? ⟨sc,0,S⟩=X (Z Y (id:Int))/\w'.cell? ⟨sc,1,S⟩=X (V (str nm))) (by kernel_rfl) l (fun M=>?_)
  refine tk 0 ?_;refine tk 1 ?_;refine tk 2 ?_;refine tk 3 ?_;refine tk 4 ?_;refine tk 5 ?_;refine tk 6 ?_;refine tk 7 ?_;refine tk 8 ?_;refine tr 9 fun K y=>?_
  go_simp
  go_wp2_with (go_at_call 100;refine (A.out _ t.out.drew).mono ?_;rintro e a r;obtain ⟨rfl,q,h4⟩:=r.elim (fun h=>absurd h.1 j) (fun h=>h.2))
  have s:a.cell? ⟨v,0,S⟩=X (az b)/\a.cell? ⟨v,1,S⟩=X (Z Y (n:Int))/\a.cell? ⟨sc,0,S⟩=X (Z Y (id:Int))/\a.cell? ⟨sc,1,S⟩=X (V (str nm)):=⟨h4.ah.cell 0,h4.ah.cell 1,h4.au.cell 0,h4.au.cell 1⟩
  have m:=(h4.to (by unfold vA;ac_rfl:_=pt sc (U #[Z Y (id:Int),V (str nm)] 104 (0,0))*(vA x b v T k*F))).right;refine y.out _ _ s (fun M=>?_);refine tr 10 fun K y=>?_
  go_simp
  go_wp2_with (go_at_call 34;refine (C.out _ c j).mono ?_;rintro e w5 ⟨rfl,rfl⟩;exact ⟨rfl,o.out _ _ (.inr ⟨j,rfl,u.out.drew.trans q,m⟩)⟩)
def oj (q:Tidy n T) (M:ps.length<=1000) (Q:ps≠[]) (I:∀ W P,ag W (D*P)->xz W pv ps) {L:List aL} {i:Nat} (c0:(aO T 1 ps.dropLast).1=0) (o:T (aT T ps)=X (.dir L)) (hp:iE L (bD ps)=X i) (h:ag w (vA x b v T k*(D*F))) :
  Calls R 52 #[az v,pv] w (Un (vA (x.more 9) b v (ei T (aT T ps) (mn L i)) (k+aY L.length-aY (L.length-1))*(D*F)) 0 (.tuple #[]) w):=by
 refine aF fun d0 u=>?_;have b0:=ae (yA q M Q I h);unfold aT at *;generalize aO T 1 ps.dropLast=p at *;obtain ⟨cc,d⟩:=p;generalize bD ps=nm at *;subst c0;have m:=q.mz _ _ o
 go_in
 go_wp2_with fail
 apply b0.o.mono;rintro e a ⟨K,B,G⟩;obtain rfl:=K.elim (fun h=>h.2) (fun h=>absurd rfl h.1);have H:=G.alloc (U #[Z Y (d:Int),V (str nm)] 104 (0,0));have C:=ae (B.alloc (U #[Z Y (d:Int),V (str nm)] 104 (0,0)));have c:=H.to (by unfold vA;ac_rfl:_=dx x b (eH T) k*(pt v (bq b n)*(pt a.heap.size (U #[Z Y (d:Int),V (str nm)] 104 (0,0))*(D*F))));have j:(a.alloc (U #[Z Y (d:Int),V (str nm)] 104 (0,0))).cell? ⟨v,0,S⟩=X (az b)/\(a.alloc (U #[Z Y (d:Int),V (str nm)] 104 (0,0))).cell? ⟨v,1,S⟩=X (Z Y (n:Int))/\(a.alloc (U #[Z Y (d:Int),V (str nm)] 104 (0,0))).cell? ⟨a.heap.size,0,S⟩=X (Z Y (d:Int))/\(a.alloc (U #[Z Y (d:Int),V (str nm)] 104 (0,0))).cell? ⟨a.heap.size,1,S⟩=X (V (str nm)):=⟨c.ah.cell 0,c.ah.cell 1,c.au.cell 0,c.au.cell 1⟩
 have J:=ae fun w' (E:ag w' (dx x b (eH T) k*(pt v (bq b n)*(pt a.heap.size (U #[Z Y (d:Int),V (str nm)] 104 (0,0))*(D*F)))))=>EW E (jG o) m.ok m.len hp;have y:=ae fun w=>cR w;have t:=ae c;have A:=ae j
 go_wp2_with fail
 generalize a.heap.size=sc at *;have j:=A.o
 go_region_held3 (fun w'=>w'.cell? ⟨v,0,S⟩=X (az b)/\w'.cell? ⟨v,1,S⟩=X (Z Y (n:Int))/\w'.cell? ⟨sc,0,S⟩=X (Z Y (d:Int))/\w'.cell? ⟨sc,1,S⟩=X (V (str nm)))
  (first|exact j|exact k1|go_keep)
  (first
   | (go_at_call 102;apply (J.o _ t.o.drew).mono;rintro e g ⟨rfl,l,h4⟩;have k1:g.cell? ⟨v,0,S⟩=X (az b)/\g.cell? ⟨v,1,S⟩=X (Z Y (n:Int))/\g.cell? ⟨sc,0,S⟩=X (Z Y (d:Int))/\g.cell? ⟨sc,1,S⟩=X (V (str nm)):=⟨h4.ah.cell 0,h4.ah.cell 1,h4.au.cell 0,h4.au.cell 1⟩)
   | (go_at_call 34;apply (y.o _).mono;rintro e w5 ⟨rfl,rfl⟩))
 rename_i e0;have r:=ae (C.o.drew.trans l);rw [show df (eH T) d (X (eC 1 (mn L i)))=eH (ei T d (mn L i)) from qu T d (.dir (mn L i))] at h4;have s:=ae (h4.to (by unfold vA;ac_rfl:_=pt sc (U #[Z Y (d:Int),V (str nm)] 104 (0,0))*(vA (x.more 9) b v (ei T d (mn L i)) (k+aY L.length-aY (L.length-1))*(D*F)))).right;clear h4 l
 exact Zy (u.o _ _ ⟨.inl ⟨rfl,rfl⟩,r.o,s.o⟩)
end
end Go.Proofs.Cl
namespace Go.SL
open RowKit
def lQ (kd:Int):sd:=if kd=1 then .file (lx 1) else .dir []
def GC {kd:Int} (h:kd=1\/kd=2):(lQ kd).af=lx kd:=by
 rcases h with rfl|rfl
 .rfl
 .exact KO.symm
def CQ (a:Int):dN (X (lQ a))=[]:=by unfold lQ;split <;> rfl
def Pf {id:Nat} (h:id≠1) (a:Int):C7 id (X (lQ a))=1:=by
 unfold lQ;split
 .rfl
 .show (if id=1 then (0:Int) else 1)=1;rw [if_neg h]
def nx.snoc {L:List aL} (h:nx L) {id:Nat} {nm:List UInt8} (m:1<=id) (o:id<=3839) (l:cK nm=true) (g:iE L nm=S) (r:L.length<3840):nx (L++[⟨id,nm⟩]):=by
 refine ⟨AT h.ok (aL.mH.2 ⟨m,o,sk l⟩),by rw [List.length_append,D9];omega,?_,fun e c=>?_⟩
 .rw [List.map_append,List.nodup_append]
  refine ⟨h.nd,Si0,fun a q b j=>?_⟩;obtain ⟨e,c,rfl⟩:=List.mem_map.1 q;simp only [List.map_cons,List.map_nil,List.mem_singleton] at j;subst j;unfold iE at g;rw [List.findIdx?_eq_none_iff] at g;simpa using g e c
 .rcases List.mem_append.1 c with c|c
  .exact h.nm e c
  .rw [List.mem_singleton.1 c];exact l
def nx.nil:nx []:=⟨fun e a=>(by cases a),Nat.zero_le _,List.nodup_nil,fun e a=>(by cases a)⟩
variable {n d id:Nat} {T:Tr} {L:List aL} {nm:List UInt8}
def Tidy.Qa (h:Tidy n T) (a:T id=S):id≠1:=by
 rintro rfl;obtain ⟨L,c⟩:=h.root;rw [c] at a;cases a
def NL (T:Tr) (d id:Nat) (nm:List UInt8) (a:Int):Tr:=Go.SL.df (df T id (X (lQ a))) d (X (.dir (dN (T d)++[⟨id,nm⟩])))
def Tidy.make (h:Tidy n T) (l:T d=X (.dir L)) (m:T id=S) (y:0<id) (A:id<n) (Q:n<=3840) {a:Int} (P:a=1\/a=2) (H:cK nm=true) (I:iE L nm=S) (G:L.length<3840):Tidy n (NL T d id nm a):=by
 have t:id≠d:=by rintro rfl;rw [l] at m;cases m
 have s:=h.Qa m;have B:dN (T d)=L:=by rw [l];rfl
 have E:=h.lt l;unfold NL;rw [B];have o:∀ x,df (df T id (X (lQ a))) d (X (.dir (L++[⟨id,nm⟩]))) x=if x=d then X (.dir (L++[⟨id,nm⟩])) else if x=id then X (lQ a) else T x:=fun x=>rfl
 have J:∀ x,refs n (df (df T id (X (lQ a))) d (X (.dir (L++[⟨id,nm⟩])))) x=refs n T x+if id=x then 1 else 0:=fun x=>by
  have r:=rS (T:=T) A (X (lQ a)) x;have c:=rS (T:=df T id (X (lQ a))) E (X (.dir (L++[⟨id,nm⟩]))) x;rw [m,CQ] at r;rw [aI _ _ (Ne.symm t),l] at c;simp only [dN,List.countP_nil,List.countP_append,List.countP_cons,Nat.add_zero,Nat.zero_add] at r c
  by_cases q:id=x
  .rw [if_pos q];subst q;simp at c;omega
  .rw [if_neg q];simp [q] at c;omega
 refine ⟨?_,fun x M g=>?_,fun x f j=>?_,fun x=>?_,fun x K=>?_⟩
 .obtain ⟨u,C⟩:=h.root
  rw [o]
  by_cases e:1=d
  .exact ⟨_,if_pos e⟩
  .rw [if_neg e,if_neg (Ne.symm s)];exact ⟨u,C⟩
 .rw [o] at g
  split at g
  .cases g;exact (h.mz _ _ l).snoc y (by omega) H I G
  .split at g
   .have:M=[]:=by rw [<- CQ a];injection g with g;rw [g];rfl
    rw [this];exact nx.nil
   .exact h.mz _ _ g
 .rw [o] at j
  split at j
  .cases j
  .split at j
   .unfold lQ at j;split at j <;> cases j;rfl
   .exact h.files _ _ j
 .rw [J,o]
  have:=h.ref x
  by_cases e:x=d
  .subst e;rw [if_pos rfl,if_neg t];rw [l] at this;exact this
  .rw [if_neg e]
   by_cases c:x=id
   .subst c;rw [if_pos rfl,if_pos rfl,Pf s];rw [m] at this;simp only [C7] at this;omega
   .rw [if_neg c,if_neg (Ne.symm c)];exact this
 .rw [o,if_neg (by omega),if_neg (by omega)];exact h.out x K
def kW (T:Tr) (k:Nat) (p:List UInt8):Int:=match bh p with
 | none=>1
 | some ps=>if ee T ps≠0 then ee T ps else if ry (dN (T (aT T ps)))≠0 then 9 else if k=0 then 7 else iQ (k-1) (dN (T (aT T ps))) (bD ps)
def U7 (k:Nat) (L:List aL):Nat:=k-1+aY L.length-aY (L.length+1)
end Go.SL
namespace Go.SL
open RowKit
variable {y:sd} {y':Option sd}
def sN {c:Type} (z:c):∀ (L:List c) (i:Nat),i<L.length->(L.set i z).Perm (z :: L.eraseIdx i)
 | a :: L,0,_=>Si0
 | a :: L,i+1,h=>by
  have:=sN z L i (by simpa using h);rw [A1,List.eraseIdx_cons_succ];exact (this.cons a).trans (List.Perm.swap z a _)
def xY {L:List aL} {i:Nat} (a:i<L.length):(L[i] :: mn L i).Perm L:=by
 have c:(L[i] :: L.eraseIdx i).Perm L:=by
  have:=sN L[i] L i a;rw [List.set_getElem_self] at this;exact this.symm
 refine List.Perm.trans (List.Perm.cons _ ?_) c
 obtain ⟨M,z,rfl⟩:∃ M z,L=M++[z]:=by
  rcases D7 L with rfl|⟨M,z,h⟩
  .simp at a
  .exact ⟨M,z,by rw [h,D3]⟩
 have e:(M++[z]).length-1=M.length:=Si0
 unfold mn;rw [e,show (M++[z]).getD M.length aL.no=z by simp [A3]];rw [List.length_append,D9] at a
 by_cases h:i=M.length
 .subst h
  rw [List.set_append_right _ _ (Nat.le_refl _),Nat.sub_self,B3,List.take_left',List.eraseIdx_append_of_length_le (Nat.le_refl _)]
  .simp
  .rfl
 .rw [List.set_append_left _ _ Om0,List.take_left' (by rw [List.length_set]),List.eraseIdx_append_of_lt_length Om0]
  exact (sN z M i Om0).trans (List.perm_append_singleton z _).symm
def nx.rm {L:List aL} (h:nx L) {i:Nat} (a:i<L.length):nx (mn L i):=by
 have c:=xY a;refine ⟨O5 h.ok a,by rw [ke];have:=h.len;omega,?_,fun e g=>h.nm e (c.mem_iff.1 (List.mem_cons_of_mem _ g))⟩;have:=(c.map aL.nm).nodup_iff.2 h.nd;rw [List.map_cons,List.nodup_cons] at this;exact this.2
structure jl (n:Nat) (T:Tr) (z:Nat->Int):Prop where
 root:∃ L,T 1=some (.dir L)
 mz:∀ id L,T id=some (.dir L)->nx L
 files:∀ id f,T id=some (.file f)->f.kd=1
 ref:∀ id,(refs n T id:Int)=C7 id (T id)+z id
 out:∀ id,n<=id->T id=none
section
variable {n d id i:Nat} {T:Tr} {L:List aL} {nm:List UInt8} {z:Nat->Int} {f f':AF}
def Tidy.w (h:Tidy n T):jl n T fun _=>0:=⟨h.root,h.mz,h.files,fun id=>by rw [h.ref id];omega,h.out⟩
def jl.tidy (h:jl n T z) (a:∀ id,z id=0):Tidy n T:=⟨h.root,h.mz,h.files,fun id=>by rw [h.ref id,a];omega,h.out⟩
def jl.lt (h:jl n T z) {x:sd} (a:T id=X x):id<n:=by
 by_cases c:id<n
 .exact c
 .rw [h.out id (by omega)] at a;cases a
def jl.set (h:jl n T z) {M:List aL} (g:T d=X (.dir L)) (r:nx M) {m:Nat->Int} (u:∀ x,((M.countP fun e=>e.nd == x:Nat):Int)-((L.countP fun e=>e.nd == x:Nat):Int)=m x-z x):jl n (ei T d M) m:=by
 have a:∀ x,ei T d M x=if x=d then X (.dir M) else T x:=fun x=>rfl
 refine ⟨?_,fun x y c=>?_,fun x f j=>?_,fun x=>?_,fun x t=>?_⟩
 .obtain ⟨o,q⟩:=h.root
  rw [a]
  by_cases e:1=d
  .exact ⟨_,if_pos e⟩
  .rw [if_neg e];exact ⟨o,q⟩
 .rw [a] at c
  split at c
  .cases c;exact r
  .exact h.mz _ _ c
 .rw [a] at j
  split at j
  .cases j
  .exact h.files _ _ j
 .have l:=rS (T:=T) (h.lt g) (X (.dir M)) x
  rw [g] at l;simp only [dN] at l;have B:=u x;have A:=h.ref x
  have s:C7 x (ei T d M x)=C7 x (T x):=by
   rw [a]
   by_cases e:x=d
   .subst e;rw [if_pos rfl,g];rfl
   .rw [if_neg e]
  rw [s];unfold ei;omega
 .rw [a,if_neg (by have:=h.lt g;omega)]
  exact h.out x t
def jl.add (h:jl n T z) (c:T d=X (.dir L)) (a:nx (L++[⟨id,nm⟩])):jl n (ei T d (L++[⟨id,nm⟩])) fun x=>z x+if x=id then 1 else 0:=by
 refine h.set c a fun x=>?_;rw [List.countP_append]
 by_cases e:x=id
 .subst e;simp;omega
 .have:¬ id=x:=Ne.symm e
  simp [e,this]
def jl.rm (h:jl n T z) (a:T d=X (.dir L)) (c:i<L.length):jl n (ei T d (mn L i)) fun x=>z x-if x=(L[i]).nd then 1 else 0:=by
 refine h.set a ((h.mz _ _ a).rm c) fun x=>?_;have:=(xY c).countP_eq (fun e=>e.nd == x);rw [List.countP_cons] at this
 by_cases e:x=(L[i]).nd
 .subst e;simp at this ⊢;omega
 .have g:¬ (L[i]).nd=x:=Ne.symm e
  simp [g] at this;simp [e];omega
def jl.leaf (h:jl n T z) (hy:T id=X y) (s:dN (X y)=[]) (t:dN y'=[]) (o:id≠1) (r:∀ L,y'≠X (.dir L)) (u:∀ f,y'=X (.file f)->f.kd=1):jl n (df T id y') fun x=>z x+if x=id then C7 id (X y)-C7 id y' else 0:=by
 have a:∀ x,df T id y' x=if x=id then y' else T x:=fun x=>rfl
 refine ⟨?_,fun x m c=>?_,fun x f g=>?_,fun x=>?_,fun x A=>?_⟩
 .obtain ⟨l,q⟩:=h.root
  exact ⟨l,by rw [a,if_neg (Ne.symm o)];exact q⟩
 .rw [a] at c
  split at c
  .exact absurd c (r m)
  .exact h.mz _ _ c
 .rw [a] at g
  split at g
  .exact u f g
  .exact h.files _ _ g
 .have j:=rS (T:=T) (h.lt hy) y' x
  rw [hy,s,t] at j;simp only [List.countP_nil,Nat.add_zero] at j;rw [j,a,h.ref x]
  by_cases e:x=id
  .subst e;rw [if_pos rfl,if_pos rfl,hy];omega
  .rw [if_neg e,if_neg e];omega
 .rw [a,if_neg (by have:=h.lt hy;omega)]
  exact h.out x A
end
def xe (T:Tr) (nm:List UInt8):∀ (e:List (List UInt8)) (id:Nat),(aO T id (e++[nm])).1=0->(aO T id e).1=0/\(eo (T (aO T id e).2) nm).1=0/\(aO T id (e++[nm])).2=(eo (T (aO T id e).2) nm).2
 | [],id,h=>by
  by_cases c:(eo (T id) nm).1=0
  .rw [List.nil_append,iP c] at *
   exact ⟨rfl,c,rfl⟩
  .rw [List.nil_append,qZ c] at h
   exact absurd h c
 | a :: e,id,h=>by
  rw [List.cons_append] at h ⊢
  by_cases c:(eo (T id) a).1=0
  .rw [iP c] at h ⊢
   rw [iP c];exact xe T nm e _ h
  .rw [qZ c] at h
   exact absurd h c
def DH {nm:List UInt8} (h:(eo y' nm).1=0):∃ L i,y'=X (.dir L)/\iE L nm=X i/\(eo y' nm).2=(L.getD i aL.no).nd:=by
 cases y' with
 | none=>exact absurd h (show ¬ (4:Int)=0 by decide)
 | some y'=>cases y' with
  | file f=>exact absurd h (show ¬ (8:Int)=0 by decide)
  | dir L=>
   cases a:iE L nm with
   | none=>rw [mM a] at h;exact absurd h (show ¬ (5:Int)=0 by decide)
   | some i=>exact ⟨L,i,rfl,a,by rw [jT a]⟩
def po {T:Tr} {ps:List (List UInt8)} (r:ps≠[]) (h:(aO T 1 ps).1=0):(aO T 1 ps.dropLast).1=0/\∃ L i,∃ c:i<L.length,T (aT T ps)=X (.dir L)/\iE L (bD ps)=X i/\(L[i]).nd=(aO T 1 ps).2:=by
 obtain ⟨a,nm,rfl⟩:∃ a nm,ps=a++[nm]:=by
  rcases D7 ps with h|⟨M,z,h⟩
  .exact absurd h r
  .exact ⟨M,z,by rw [h,D3]⟩
 obtain ⟨l,m,o⟩:=xe T nm a 1 h;obtain ⟨L,i,g,e,j⟩:=DH m;have q:bD (a++[nm])=nm:=by unfold bD;simp [A3]
 have c:=vJ e;unfold aT;rw [List.dropLast_concat,q,o,j];exact ⟨l,L,i,c,g,e,by rw [A3,A2 c];rfl⟩
section
variable {n d id i:Nat} {T:Tr} {L:List aL} {f:AF}
def Tidy.Ew (h:Tidy n T) (a:T d=X (.dir L)) {e:aL} (m:e ∈ L):e.nd≠1:=fun j=>by
 have o:=wQ (h.lt a) a m;rw [j] at o;obtain ⟨c,l⟩:=h.root;have:=h.ref 1;rw [l] at this;have g:C7 1 (X (.dir c))=0:=rfl;rw [g] at this;omega
def tU (T:Tr) (d id:Nat) (L:List aL) (i:Nat):Tr:=Go.SL.df (ei T d (mn L i)) id S
def Tidy.gone (h:Tidy n T) (a:T d=X (.dir L)) (c:i<L.length) (j:(L[i]).nd=id) (hy:T id=X y) (m:dN (X y)=[]) (r:C7 id (X y)=1):Tidy n (tU T d id L i):=by
 have l:=h.Ew a (B2 c);rw [j] at l
 have s:id≠d:=by
  rintro rfl;rw [a] at hy;cases hy
  have:L=[]:=m;subst this;simp at c
 have t:ei T d (mn L i) id=X y:=by unfold ei;rw [aI _ _ s];exact hy
 have q:=(h.w.rm a c).leaf (y':=S) t m rfl l (fun L e=>by cases e) (fun g e=>by cases e);refine q.tidy fun x=>?_
 by_cases e:x=id
 .subst e;rw [r];simp [j,C7]
 .have o:¬ x=(L[i]).nd:=by rw [j];exact e
  simp [e,o]
def CJ (T:Tr) (d id:Nat) (L:List aL) (i:Nat) (f:AF):Tr:=Go.SL.df (ei T d (mn L i)) id (X (.file { f with lk:=f.lk-1 }))
def Tidy.less (h:Tidy n T) (a:T d=X (.dir L)) (j:i<L.length) (c:(L[i]).nd=id) (hy:T id=X (.file f)):Tidy n (CJ T d id L i f):=by
 have q:id≠d:=by rintro rfl;rw [a] at hy;cases hy
 have r:ei T d (mn L i) id=X (.file f):=by unfold ei;rw [aI _ _ q];exact hy
 have m:id≠1:=by have:=h.Ew a (B2 j);rwa [c] at this
 have o:=(h.w.rm a j).leaf (y':=X (.file { f with lk:=f.lk-1 })) r rfl rfl m (fun L e=>by cases e) (fun g e=>by cases e;exact (h.files _ _ hy:f.kd=1));refine o.tidy fun x=>?_
 by_cases e:x=id
 .subst e;simp [c,C7];omega
 .have l:¬ x=(L[i]).nd:=by rw [c];exact e
  simp [e,l]
end
def jA (T:Tr) (p:List UInt8):Int:=match bh p with
 | none=>1
 | some ps=>if (aO T 1 ps).1≠0 then (aO T 1 ps).1 else match T (aO T 1 ps).2 with
  | some (.dir M)=>if ps=[]\/M≠[] then 11 else 0
  | _=>8
def vN (T:Tr) (k:Nat) (p:List UInt8) (c:Int) (a:Tr) (e:Nat):Prop:=
 c=jA T p/\(c=0->∃ ps id L i,bh p=X ps/\ps≠[]/\aO T 1 ps=(0,id)/\T id=X (.dir [])/\T (aT T ps)=X (.dir L)/\iE L (bD ps)=X i/\a=tU T (aT T ps) id L i/\e=k+aY L.length-aY (L.length-1)+bE (eC 1 []).pr)
def dO {p:List UInt8} {l:List (List UInt8)} (h:bh p=X l):l.all cK=true/\l.length<=1000:=by
 unfold bh at h
 split at h
 .cases h
 .rename_i a
  split at h
  .cases h;exact ⟨rfl,Nat.zero_le _⟩
  .split at h
   .rename_i c;cases h
    exact ⟨c,Nat.le_trans (lD _ _) (Nat.le_of_not_lt fun q=>a (.inl q))⟩
   .cases h
def bO (T:Tr) (p:List UInt8):Int × Nat:=match bh p with
 | none=>(1,0)
 | some l=>aO T 1 l
def qO {T:Tr} {p:List UInt8} (h:bh p=S):bO T p=(1,0):=by unfold bO;rw [h]
def gy {T:Tr} {p:List UInt8} {l:List (List UInt8)} (h:bh p=X l):bO T p=aO T 1 l:=by unfold bO;rw [h]
def tY:Option sd->Int × Int × Int
 | some (.file f)=>(f.kd,f.lk,(f.sz:Int))
 | some (.dir L)=>(2,1,((32*L.length:Nat):Int))
 | none=>(0,0,0)
end Go.SL
namespace Go.Proofs.Cl
open RowKit SL Proofs.Nn Proofs.Ba Proofs.Fs
attribute [local go_sem] Oper.semAt_some
theorem eY {v:Value} {l:List (List UInt8)} (W:O) (P:ai) (h:ag W (bR v l*P)):xz W v l:=by
 unfold bR at h;rcases h.dq with ⟨rfl,j,_,_⟩|⟨g,c,e,rfl,m,h4,h5,o,s⟩
 .exact .inl ⟨S,0,rfl,List.eq_nil_of_length_eq_zero j⟩
 .refine .inr ⟨g,0,c,rfl,m,h4,fun k a=>?_⟩
  have q:=s.cell k;rw [Nat.zero_add,q,<- Array.getElem?_toList];have r:(strs l)[k]?=e.toList[k]?:=by rw [<- o,List.getElem?_take,if_pos Om0]
  rw [<- r];unfold strs;rw [List.getElem?_map,A2 a,A3,A2 a]
  rfl
def eQ {v:Value} {l:List (List UInt8)} {W:O} {P:ai} (h:ag W (bR v l*P)):∃ a c,v = .slice a l.length c:=aC h
def Rp (c:Int) (a g:ai) (w:O) (e:Ending) (w':O):Prop:=aj w w'/\((c=0/\e = N (.tuple #[])/\ag w' a)\/(c≠0/\e = .panicked (jB c)/\ag w' g))
def ax (a:Nat) (p:List UInt8):ai:=pt a (U #[V (str p)] 9 (0,0))
def fy (a:Nat) (z:Int × Int × Int):ai:=pt a (U #[Z Y z.1,Z Y z.2.1,Z Y z.2.2] 34 (0,0))
section
variable {n:Nat} {x:Fx n} {b v k pc sc:Nat} {T:Tr} {w:O} {F:ai} {p:List UInt8}
def NI (A:Tidy n T) (h:ag w (vA x b v T k*(ax pc p*(fy sc (0,0,0)*F)))) :
  Calls R 28 #[az v,az pc,az sc] w (Rp (bO T p).1 (vA x b v T k*(ax pc p*(fy sc (tY (T (bO T p).2))*F))) (vA x b v T k*(ax pc p*(fy sc (0,0,0)*F))) w):=by
 refine aF fun F0 e=>?_;have cp:w.cell? ⟨pc,0,S⟩=X (V (str p)):=h.ah.cell 0;have d0:=ae h;have HT:=ae A
 cases j:bh p with
 | none=>
  rw [qO j] at e;have C:=ae (fg (w:=w) j);clear h A j
  go_in
  go_wp2_with fail
  apply C.o.mono;rintro b0 w2 ⟨rfl,q,m⟩;exact ⟨rfl,e.o _ _ ⟨q,.inr ⟨De0,rfl,m.cM d0.o⟩⟩⟩
 | some l=>
  rw [gy j] at e;obtain ⟨u0,hl⟩:=dO j;have C:=ae (dJ (w:=w) j);have hy:=fun h0=>A.walk l A.root.choose_spec h0;have P:=ae hy;have HL:=ae hl;clear h A j hy u0 hl
  go_in
  go_wp2_with fail
  apply C.o.mono;rintro b0 w2 ⟨u,rfl,q,m⟩;have o:=m.under d0.o;have hw:=ae (gw HT.o HL.o eY (o.ah));generalize aO T 1 l=D0 at *;obtain ⟨c,id⟩:=D0;dsimp only at e P hw;clear cp C m o HL
  go_wp2_with fail
  apply hw.o.mono;rintro b0 w3 ⟨he,d3,o⟩;clear hw;rcases he with ⟨rfl,rfl⟩|⟨hc,rfl⟩
  .obtain ⟨y,hy⟩:=P.o rfl
   have hn:=ae (jU hy o);have l0:tY (T id)=(y.af.kd,y.af.lk,(y.af.sz:Int)):=by rw [hy];cases y <;> rfl
   have j0:y.af.kd=2->y.af.lk=1:=by cases y with
    | file f=>intro h;have:=HT.o.files _ _ hy;exact absurd (this.symm.trans h) De0
    | dir L=>intro _;rfl
   rw [l0] at e;generalize y.af=f at *;have Q:=ae j0;clear l0 hy P j0
   go_wp2_with fail
   apply hn.o.mono;rintro b0 a ⟨z,rfl,o0,p0,q0,r0,d4,h4⟩;obtain ⟨hX,k0,i0⟩:=lZ o0;have hB:=h4.alloc (U ny 66 (0,0));have Hz:=ae hB.heap;have t:=hB.setRow (cs':=ints z.l);have n0:((a.alloc (U ny 66 (0,0))).setRow a.heap.size (ints z.l)).cell? ⟨a.heap.size,0,S⟩=X (Z Y f.kd):=by rw [<- p0];exact t.cell 0
   have n1:((a.alloc (U ny 66 (0,0))).setRow a.heap.size (ints z.l)).cell? ⟨a.heap.size,1,S⟩=X (Z Y f.lk):=by rw [<- q0];exact t.cell 1
   have n2:((a.alloc (U ny 66 (0,0))).setRow a.heap.size (ints z.l)).cell? ⟨a.heap.size,2,S⟩=X (Z Y (f.sz:Int)):=by rw [<- r0];exact t.cell 2
   have M:=ae t;have D5:=ae ((((q.trans d3).trans d4).alloc (U ny 66 (0,0))).setRow a.heap.size (ints z.l));have g0:=ae k0;have e0:=ae i0;have HX:=ae hX;have B:=ae n0;have W:=ae n1;have N2:=ae n2;obtain ⟨H,E⟩:=Nm f.kd
   obtain ⟨lk,G⟩:=Nm f.lk
   obtain ⟨I,c0⟩:=Nm ((f.sz:Int))
   rw [E,G,c0] at e;rw [E] at B;rw [G] at W;rw [c0] at N2;rw [E,G] at Q;clear hn hB t hX k0 i0 n0 n1 n2 q d3 d4 o h4 o0 p0 q0 r0 E G c0;unfold ny at *
   go_upto_region 1 with (refine wpList_store_row (by exact rfl) 66 (.tmp 4) (.tmp 10) (by exact rfl) a.heap.size (ints z.l) (by exact rfl) (by exact rfl) 66 _ (by with_reducible exact Hz.o) e0.o (by rw [HX.o];rfl) g0.o ?_)
   generalize x0:(a.alloc (U #[Z Y 0,Z Y 0,Z Y 0,Z Y 0,Z Y 0,Z Y 0,Z Y 0,Z Y 0,Z Y 0,Z Y 0,Z Y 0,Z Y 0,Z Y 0,Z Y 0,Z Y 0,Z Y 0,Z Y 0,Z Y 0,Z Y 0,Z Y 0] 66 (0,0))).setRow a.heap.size (ints z.l)=w5 at *;generalize a.heap.size=nb at *;have g:=M.o.to (by unfold fy;ac_rfl:_=pt sc (U #[Z Y 0,Z Y 0,Z Y 0] 34 (0,0))*(pt nb (U (ints z.l) 66 (0,0))*(vA x b v T k*(bR u l*(ax pc p*F)))));have n0:=B.o;have n1:=W.o;have n2:=N2.o;have z0:w5.cell? ⟨sc,0,S⟩=X (Z Y 0):=g.cell 0;have z1:w5.cell? ⟨sc,1,S⟩=X (Z Y 0):=g.cell 1;have z2:w5.cell? ⟨sc,2,S⟩=X (Z Y 0):=g.cell 2;have f0:=g.frozen 0;have f1:=g.frozen 1;have f2:=g.frozen 2;have r:=((g.setCell 0 (Z Y H)).setCell 1 (Z Y lk)).setCell 2 (Z Y I);have m0:=(r.ah.cell 0).trans ((M.o.cell 0).symm.trans B.o);have y1:=r.cell 1;have g1:=r.frozen 1;have K:=ae r;have J:=ae (((D5.o.setCell ⟨sc,0,S⟩ (Z Y H)).setCell ⟨sc,1,S⟩ (Z Y lk)).setCell ⟨sc,2,S⟩ (Z Y I));simp at y1;clear g r M D5 B W N2 x0 Hz g0 e0 HX
   by_cases m:H=2
   .subst m
    have s0:=Q.o rfl;subst s0;have h8:=ae (K.o.setCell 1 (Z Y 1));have D8:=ae (J.o.setCell ⟨sc,1,S⟩ (Z Y 1));clear K J Q
    go_wp2_with fail
    go_end0
    refine e.o _ _ ⟨D8.o,.inl ⟨rfl,rfl,?_⟩⟩;have s:=h8.o;simp only [D2,B3,A1] at s;exact (s.to (by unfold fy;ac_rfl:_=(pt nb (U (ints z.l) 66 (0,0))*bR u l)*(vA x b v T k*(ax pc p*(fy sc (2,1,I)*F))))).right
   .go_wp2_with fail
    go_end0
    refine e.o _ _ ⟨J.o,.inl ⟨rfl,rfl,?_⟩⟩;have s:=K.o;simp only [D2,B3,A1] at s;exact (s.to (by unfold fy;ac_rfl:_=(pt nb (U (ints z.l) 66 (0,0))*bR u l)*(vA x b v T k*(ax pc p*(fy sc (H,lk,I)*F))))).right
  .exact ⟨rfl,e.o _ _ ⟨q.trans d3,.inr ⟨hc,rfl,(o.t00 (bR u l*(vA x b v T k*(ax pc p*(fy sc (0,0,0)*F))))).right⟩⟩⟩
end
def Rw {n:Nat} (x:Fx n) (b v:Nat) (h:Int->Tr->Nat->Prop) (l:ai) (w:O) (e:Ending) (w':O):Prop:=
 ∃ c a g j,h c a g/\(c=0->Tidy n a)/\((c=0/\e = N (.tuple #[]))\/(c≠0/\e = .panicked (jB c)))/\aj w w'/\j<=24/\ag w' (vA (x.more j) b v a g*l)
def nW (n:Nat) (T:Tr) (k:Nat) (kd:Int) (p:List UInt8) (c:Int) (a:Tr) (e:Nat):Prop:=
 c=kW T k p/\(c=0->∃ ps L id,bh p=X ps/\T (aT T ps)=X (.dir L)/\iE L (bD ps)=S/\T id=S/\0<id/\id<n/\a=NL T (aT T ps) id (bD ps) kd/\e=U7 k L)
def aE (a:Nat) (z:Int):ai:=pt a (U #[Z Y z] 3 (0,0))
section
variable {n:Nat} {x:Fx n} {b v k pc kc:Nat} {T:Tr} {w w':O} {F:ai} {p:List UInt8}
def oB (c:Tidy n T) {ps:List (List UInt8)} (h:ee T ps=0):ps≠[]/\∃ L,T (aT T ps)=X (.dir L)/\iE L (bD ps)=S:=by
 unfold ee at h
 split at h
 .exact absurd h De0
 .rename_i e
  split at h
  .rename_i a;exact absurd h a
  .rename_i a
   have a:(aO T 1 ps.dropLast).1=0:=by simpa using a
   obtain ⟨y,hy⟩:=c.walk ps.dropLast c.root.choose_spec a;refine ⟨e,?_⟩;unfold aT
   cases y with
   | file f=>rw [hy] at h;exact absurd h (show ¬ (8:Int)=0 by decide)
   | dir L=>
    refine ⟨L,hy,?_⟩
    cases g:iE L (bD ps) with
    | none=>rfl
    | some i=>rw [hy,jT g] at h;exact absurd h (show ¬ (6:Int)=0 by decide)
def Af {ps:List (List UInt8)} (h:ps.all cK=true) (a:ps≠[]):cK (bD ps)=true:=by
 have c:=List.length_pos_iff.2 a;unfold bD;rw [A3,A2 Om0];exact List.all_eq_true.1 h _ (B2 _)
def Li {a:Int} (c0:a=1\/a=2) (hn:n<=3840) (ht:Tidy n T) (h:ag w (vA x b v T k*(ax pc p*(aE kc a*F)))) :
  Calls R 88 #[az v,az pc,az kc] w (Rw x b v (nW n T k a p) (ax pc p*(aE kc a*F)) w):=by
 refine aF fun j0 HQ=>?_;have cp:w.cell? ⟨pc,0,S⟩=X (V (str p)):=h.ah.cell 0;have u0:=ae h;have K:=ae ht
 have D0:Hid (∀ c,c≠0->c=kW T k p->∀ j,j<=24->∀ (T':Tr) k' (w':O),aj w w'->ag w' (vA (x.more j) b v T' k'*(ax pc p*(aE kc a*F)))->j0 (.panicked (jB c)) w'):=fun c g t j hj T' k' w' d l=>
  HQ.o _ _ ⟨c,T',k',j,⟨t,fun h=>absurd h g⟩,fun h=>absurd h g,.inr ⟨g,rfl⟩,d,hj,l⟩
 have M:Hid (∀ c,c≠0->c=kW T k p->∀ (w':O),aj w w'->ag w' (vA x b v T k*(ax pc p*(aE kc a*F)))->j0 (.panicked (jB c)) w'):=fun c g t w' d l=>
  D0.o c g t 0 De0 T k w' d (mx (ag.mY (x:=x) 0 (l.to (by unfold vA;ac_rfl:_=dx x b (eH T) k*(pt v (bq b n)*(ax pc p*(aE kc a*F)))))|>.u00))
 cases l:bh p with
 | none=>
  have C:=ae (fg (w:=w) l);have g:(1:Int)=kW T k p:=by unfold kW;rw [l]
  clear h ht l
  go_in
  go_wp2_with fail
  apply C.o.mono;rintro e w2 ⟨rfl,G,Q⟩;exact ⟨rfl,M.o 1 De0 g _ G (Q.cM u0.o)⟩
 | some ps=>
  obtain ⟨K0,hl⟩:=dO l;have G0:kW T k p=if ee T ps≠0 then ee T ps else if ry (dN (T (aT T ps)))≠0 then 9 else if k=0 then 7 else iQ (k-1) (dN (T (aT T ps))) (bD ps):=by unfold kW;rw [l]
  have C:=ae (dJ (w:=w) l);have HL:=ae hl;have h0:=ae G0;have HS:=ae l;have x0:=ae K0;clear h ht l hl G0 K0
  go_in
  go_wp2_with fail
  apply C.o.mono;rintro e w2 ⟨u,rfl,G,Q⟩;have B:=(Q.under u0.o).ah;have hw:=ae (qh K.o HL.o (fun Y0 X0 hW=>eQ hW) eY B);clear cp C Q B HL
  go_wp2_with fail
  apply hw.o.mono;rintro e A ⟨t,d3,B⟩;clear hw;rcases t with ⟨o0,rfl⟩|⟨g,rfl⟩
  .obtain ⟨H0,L,s,E⟩:=oB K.o o0
   have f0:=Af x0.o H0;have d0:kW T k p=if ry L≠0 then 9 else if k=0 then 7 else iQ (k-1) L (bD ps):=by rw [h0.o,if_neg (by rw [o0];simp),s];rfl
   have F0:Hid (∀ id,T id=S->0<id->id<n->iQ (k-1) L (bD ps)=0->ry L=0->k≠0->∀ j,j<=24->∀ w',aj w w'->ag w' (vA (x.more j) b v (NL T (aT T ps) id (bD ps) a) (U7 k L)*(ax pc p*(aE kc a*F)))->j0 (N (.tuple #[])) w'):=fun id y I i2 q hr C j hj w' dd l=>by
    have L0:kW T k p=0:=by rw [d0,if_neg (by rw [hr];simp),if_neg C,q]
    have S0:L.length<3840:=by unfold iQ at q;rw [E] at q;simp only [Option.isSome_none,Bool.false_eq_true,if_false] at q;split at q;exact absurd q De0;omega
    exact HQ.o _ _ ⟨0,_,_,j,⟨L0.symm,fun _=>⟨ps,L,id,HS.o,s,E,y,I,i2,rfl,rfl⟩⟩,fun _=>K.o.make s y I i2 hn c0 f0 E S0,.inl ⟨rfl,rfl⟩,dd,hj,l⟩
   have hE:=K.o.mz _ _ s;obtain ⟨d,n0⟩:=Nm (aT T ps)
   obtain ⟨nm,p0⟩:=Nm (bD ps)
   rw [n0,p0] at F0 ⊢;rw [p0] at d0 f0 E;rw [n0] at s;have hB:=B.alloc (U #[Z Y (d:Int),V (str nm)] 104 (0,0));have dB:=ae ((G.trans d3).alloc (U #[Z Y (d:Int),V (str nm)] 104 (0,0)));have hC:=hB.t00 (vA x b v T k*(pt A.heap.size (U #[Z Y (d:Int),V (str nm)] 104 (0,0))*(bR u ps*(ax pc p*(aE kc a*F)))));have hr:=ae (Iw (nm:=nm) s hC);have s0:(A.alloc (U #[Z Y (d:Int),V (str nm)] 104 (0,0))).cell? ⟨A.heap.size,0,S⟩=X (Z Y (d:Int)):=hB.cell 0;have s1:(A.alloc (U #[Z Y (d:Int),V (str nm)] 104 (0,0))).cell? ⟨A.heap.size,1,S⟩=X (V (str nm)):=hB.cell 1;have HD:=ae s;have HE:=ae hE;have HN:=ae f0;have HP:=ae E;have g0:=ae d0;clear hB hC B G d3 s hE f0 E d0 n0 p0 o0 H0 h0 HS x0
   go_wp2_with fail
   generalize A.alloc (U #[Z Y (d:Int),V (str nm)] 104 (0,0))=w4 at *;generalize A.heap.size=o at *;apply hr.o.mono;rintro e w5 ⟨t,d5,h5⟩;have D5:=ae (dB.o.trans d5);clear hr dB d5 s0 s1;rcases t with ⟨q0,rfl⟩|⟨g,rfl⟩
   .have hv:=h5.to (by unfold vA;ac_rfl:_=dx x b (eH T) k*(pt v (bq b n)*(aE kc a*(pt o (U #[Z Y (d:Int),V (str nm)] 104 (0,0))*(bR u ps*(ax pc p*F))))))
    have k0:w5.cell? ⟨v,0,S⟩=X (az b)/\w5.cell? ⟨v,1,S⟩=X (Z Y (n:Int))/\w5.cell? ⟨kc,0,S⟩=X (Z Y a):=⟨hv.ah.cell 0,hv.ah.cell 1,hv.au.cell 0⟩
    have HV:=ae hv
    by_cases b0:k=0
    .have e0:=ae fun w' (h':ag w' (dx x b (eH T) k*(pt v (bq b n)*(aE kc a*(pt o (U #[Z Y (d:Int),V (str nm)] 104 (0,0))*(bR u ps*(ax pc p*F)))))))=>RM h' c0 b0
     have i0:=ae fun w=>cC w 7 De0;have N0:Hid ((7:Int)=kW T k p):=by show _=_;rw [g0.o,if_neg (by rw [q0];simp),if_pos b0]
     clear hv h5
     go_wp2_with fail
     go_region_held3 (fun w'=>w'.cell? ⟨v,0,S⟩=X (az b)/\w'.cell? ⟨v,1,S⟩=X (Z Y (n:Int))/\w'.cell? ⟨kc,0,S⟩=X (Z Y a))
      (first|exact k0|exact J|go_keep)
      (first|(go_at_call 90;apply (e0.o _ HV.o.drew).mono;rintro e r ⟨rfl,P,m⟩;have J:r.cell? ⟨v,0,S⟩=X (az b)/\r.cell? ⟨v,1,S⟩=X (Z Y (n:Int))/\r.cell? ⟨kc,0,S⟩=X (Z Y a):=⟨m.ah.cell 0,m.ah.cell 1,m.au.cell 0⟩))
     rename_i l0;clear l0 k0 J
     go_wp2_with fail
     apply (i0.o _).mono;rintro e w7 ⟨rfl,rfl⟩;exact ⟨rfl,M.o 7 De0 N0.o _ (D5.o.drew.trans P) (m.to (by unfold vA;ac_rfl:_=(bR u ps*pt o (U #[Z Y (d:Int),V (str nm)] 104 (0,0)))*(vA x b v T k*(ax pc p*(aE kc a*F))))).right⟩
    .have e0:=ae fun w' (h':ag w' (dx x b (eH T) k*(pt v (bq b n)*(aE kc a*(pt o (U #[Z Y (d:Int),V (str nm)] 104 (0,0))*(bR u ps*(ax pc p*F)))))))=>Ur h' c0 Om0
     have i0:=ae fun w=>cR w;clear hv h5
     go_wp2_with fail
     go_region_held3 (fun w'=>w'.cell? ⟨v,0,S⟩=X (az b)/\w'.cell? ⟨v,1,S⟩=X (Z Y (n:Int))/\w'.cell? ⟨kc,0,S⟩=X (Z Y a))
      (first|exact k0|exact J|go_keep)
      (first|(go_at_call 90;apply (e0.o _ HV.o.drew).mono;rintro e r ⟨id,rfl,y,I,i2,P,m⟩;have J:r.cell? ⟨v,0,S⟩=X (az b)/\r.cell? ⟨v,1,S⟩=X (Z Y (n:Int))/\r.cell? ⟨kc,0,S⟩=X (Z Y a):=⟨m.ah.cell 0,m.ah.cell 1,m.au.cell 0⟩))
     rename_i l0;clear l0 k0 J
     have r0:T id=S:=by unfold eH at y;cases hx:T id with
      | none=>rfl
      | some Z0=>rw [hx] at y;cases y
     have V0:d≠id:=by rintro rfl;rw [HD.o] at r0;cases r0
     rw [<- GC c0,qu] at m;have W:=m.to (by unfold vA;ac_rfl:_=vA (x.more 3) b v (df T id (X (lQ a))) (k-1)*(pt o (U #[Z Y (d:Int),V (str nm)] 104 (0,0))*(bR u ps*(ax pc p*(aE kc a*F)))));have q:=ae (uQ (x:=x.more 3) (child:=id) I Om0 (show df T id (X (lQ a)) d=X (.dir L) by rw [aI _ _ V0];exact HD.o) HE.o HN.o W);have s0:r.cell? ⟨o,0,S⟩=X (Z Y (d:Int)):=W.ah.cell 0;have s1:r.cell? ⟨o,1,S⟩=X (V (str nm)):=W.ah.cell 1;have D6:=ae (D5.o.drew.trans P);clear e0 HV m W P y
     go_wp2_with fail
     apply (i0.o _).mono;rintro e w7 ⟨rfl,rfl⟩
     go_wp2_with fail
     apply q.o.mono;rintro e w8 hq;rcases hq with ⟨m0,rfl,d8,H⟩|⟨m0,rfl,d8,H⟩
     .have T0:ei (df T id (X (lQ a))) d (L++[⟨id,nm⟩])=NL T d id nm a:=by unfold NL ei;rw [HD.o];rfl
      rw [T0] at H;have R0:=ae (F0.o id r0 I i2 m0 q0 b0 8 De0 _ (D6.o.trans d8) (H.to (by unfold U7;ac_rfl:_=(bR u ps*pt o (U #[Z Y (d:Int),V (str nm)] 104 (0,0)))*(vA (x.more 8) b v (NL T d id nm a) (U7 k L)*(ax pc p*(aE kc a*F))))).right);clear q H s0 s1
      exact Zy R0.o
     .exact ⟨rfl,D0.o _ m0 (by rw [g0.o,if_neg (by rw [q0];simp),if_neg b0]) 3 De0 _ _ _ (D6.o.trans d8) (H.t00 ((bR u ps*pt o (U #[Z Y (d:Int),V (str nm)] 104 (0,0)))*(vA (x.more 3) b v (df T id (X (lQ a))) (k-1)*(ax pc p*(aE kc a*F))))).right⟩
   .have h9:ry L=9:=by unfold ry at g ⊢;split;rfl;rename_i W0;rw [if_neg W0] at g;exact absurd rfl g
    exact ⟨rfl,M.o _ g (by rw [g0.o,if_pos g,h9]) _ D5.o (h5.t00 ((bR u ps*pt o (U #[Z Y (d:Int),V (str nm)] 104 (0,0)))*(vA x b v T k*(ax pc p*(aE kc a*F))))).right⟩
  .exact ⟨rfl,M.o _ g (by rw [h0.o,if_pos g]) _ (G.trans d3) (B.t00 (bR u ps*(vA x b v T k*(ax pc p*(aE kc a*F))))).right⟩
end
end Go.Proofs.Cl

/- Steps. -/
import Derived.Test.YtacliaemfegopaaGreatDoorOP27
import Derived.Test.YtacliaemfegopaaGreatDoorOP18
import Derived.Test.YtacliaemfegopaaGreatDoorOP29
set_option linter.all false
set_option maxRecDepth 99999
set_option maxHeartbeats 0
open Go.SL
open Go.Value renaming int->Z,string->Y
open Go.Obj renaming cells->V
open Go.Ending renaming returned->Q
open Go renaming World->R
open Go.Proofs.Tryz renaming prog->S
open Option renaming some->W,none->U
open Go.Proofs.Tryz
open List renaming getD->A1,getElem?_eq_getElem->D1,set_cons_succ->E1,set_cons_zero->H1,getElem_mem->K1,length_dropLast->L1,length_singleton->M1,eq_nil_or_concat->N1,concat_eq_append->O1,setIfInBounds_toArray->R1
namespace Go.Proofs.Cl
open Go.RowKit Go.SL Go.Proofs.Nn Go.Proofs.Ba Go.Proofs.Fs
attribute [local go_sem] Oper.semAt_some
variable {y:tN}
def vA {n:Nat} (x:Fx n) (b v:Nat) (T:Tr) (k:Nat):ai:=pt v (bG b n)*dF x b (eY T) k
def Th (X:ai) (c:Int) (r:Value) (w:R) (e:Ending) (w':R):Prop:=
 ((c=0/\e = Q r)\/(c≠0/\e = .panicked (lG c)))/\aj w w'/\ag w' X
section
variable {n:Nat} {x:Fx n} {b v k id:Nat} {T:Tr} {w:R} {D F:ai} {nm:List UInt8} {ps:List (List UInt8)} {pv:Value}
theorem qt (h:ag w (vA x b v T k*F)):ag w (pt v (bG b n)*(dF x b (eY T) k*F)):=h.to (ax _ _ _)
theorem qW (h:ag w (pt v (bG b n)*(dF x b (eY T) k*F))):ag w (vA x b v T k*F):=h.to (ax _ _ _).symm
theorem eR (A:Tidy n T) (y:ps.length<=1000) (u:∀ q P,ag q (D*P)->Ab q pv ps) (h:ag w (vA x b v T k*(D*F))) :
  Calls S 31 #[ay v,pv] w (Th (vA x b v T k*(D*F)) (aN T 1 ps).1 (Z .i64 ((aN T 1 ps).2:Nat)) w):=by
 refine aH fun H j=>?_;have g:=qt h;have C:w.cell? ⟨v,0,U⟩=W (ay b):=g.cell 0;have E:w.cell? ⟨v,1,U⟩=W (Z .i64 (n:Int)):=g.cell 1;have m:=ae (F8 A y u (g.to (by ac_rfl:_=dF x b (eY T) k*(D*(pt v (bG b n)*F)))));generalize aN T 1 ps=p at *;obtain ⟨c,r⟩:=p;dsimp only at m j;clear h g A y u
 go_enter func31,ntmps31
 go_wp2_with fail
 refine m.out.mono ?_;rintro e B ⟨rfl,s,t⟩;have o:=ae (qW (t.to (by ac_rfl:_=pt v (bG b n)*(dF x b (eY T) k*(D*F)))));clear m t C E
 by_cases l:c=0
 .subst l
  have a:=cO B
  go_wp2_with fail
  refine a.mono ?_;rintro e G ⟨rfl,rfl⟩;clear a
  go_wp2_with fail
  exact j.out _ _ ⟨.inl ⟨rfl,rfl⟩,s,o.out⟩
 .have a:=cT B c l
  go_wp2_with fail
  refine a.mono ?_;rintro e G ⟨rfl,rfl⟩;clear a
  go_wp2_with fail
  exact ⟨rfl,j.out _ _ ⟨.inr ⟨l,rfl⟩,s,o.out⟩⟩
def UW (f:AF) (X:ai) (w:R) (e:Ending) (w':R):Prop:=
 ∃ y:Nd,e = Q (.agg (ints y.l))/\y.dr.length=16/\y.kd=f.kd/\y.lk=f.lk/\y.sz=f.sz/\aj w w'/\ag w' X
theorem jH (C:T id=W y) (h:ag w (vA x b v T k*F)) :
  Calls S 44 #[ay v,Z .i64 (id:Int)] w (UW y.af (vA x b v T k*F) w):=by
 refine aH fun e0 H=>?_;have g:=(qt h).alloc (V kX 73 (0,0));have t:=ae ((aj.refl w).alloc (V kX 73 (0,0)));have P:(w.alloc (V kX 73 (0,0))).cell? ⟨v,0,U⟩=W (ay b):=g.ah.cell 0;have X:(w.alloc (V kX 73 (0,0))).cell? ⟨v,1,U⟩=W (Z .i64 (n:Int)):=g.ah.cell 1;have B:=ae (CZ (g.to (by ac_rfl:_=dF x b (eY T) k*(pt w.heap.size (V kX 73 (0,0))*(pt v (bG b n)*F)))) (show eY T id=W y.af by unfold eY;rw [C];rfl));clear h g C;unfold kX at *
 go_enter func44,ntmps44
 go_wp2_with fail
 refine B.out.mono ?_;rintro e a ⟨z,rfl,E,b0,c0,d0,s,u⟩;have o:(ints z.l).size=20:=by rw [dM,Nd.cells E]
 have l:=u.alloc (V #[Z .i64 0,Z .i64 0,Z .i64 0,Z .i64 0,Z .i64 0,Z .i64 0,Z .i64 0,Z .i64 0,Z .i64 0,Z .i64 0,Z .i64 0,Z .i64 0,Z .i64 0,Z .i64 0,Z .i64 0,Z .i64 0,Z .i64 0,Z .i64 0,Z .i64 0,Z .i64 0] 73 (0,0));have K:=ae l.heap;have A:=l.setRow (cs':=ints z.l);have j:=A.to (by ac_rfl:_=pt w.heap.size (V #[Z .i64 0,Z .i64 0,Z .i64 0,Z .i64 0,Z .i64 0,Z .i64 0,Z .i64 0,Z .i64 0,Z .i64 0,Z .i64 0,Z .i64 0,Z .i64 0,Z .i64 0,Z .i64 0,Z .i64 0,Z .i64 0,Z .i64 0,Z .i64 0,Z .i64 0,Z .i64 0] 73 (0,0))*(pt a.heap.size (V (ints z.l) 73 (0,0))*(pt v (bG b n)*(dF x b (eY T) k*F))));have M:=ae j.ah.heap;have N:=ae j.heap;have m:=j.setRow (cs':=ints z.l);have O:=ae m.heap;have J:=ae (qW m.right.right);have G:=ae ((((t.out.trans s).alloc (V #[Z .i64 0,Z .i64 0,Z .i64 0,Z .i64 0,Z .i64 0,Z .i64 0,Z .i64 0,Z .i64 0,Z .i64 0,Z .i64 0,Z .i64 0,Z .i64 0,Z .i64 0,Z .i64 0,Z .i64 0,Z .i64 0,Z .i64 0,Z .i64 0,Z .i64 0,Z .i64 0] 73 (0,0))).setRow a.heap.size (ints z.l)).setRow w.heap.size (ints z.l));have r:Hid ((ints z.l).all (·.oneCell')=true):=by simp [RowKit.Hid,ints,Value.oneCell']
 have c:Hid ((prog.info? 73).map (·.size)=W (ints z.l).size):=by show _=_;rw [o];exact bC
 have q:=ae o;have I:=ae fun w=>cO w;clear B u l A j m o s t P X
 go_wp2_with (refine wpList_store_row (by exact rfl) 73 (.tmp 5) (.tmp 14) (by exact rfl) a.heap.size (ints z.l) (by exact rfl) (by exact rfl) 73 _ (by with_reducible exact K.out) c.out (by rw [q.out];rfl) r.out ?_)
 generalize (a.alloc (V #[Z .i64 0,Z .i64 0,Z .i64 0,Z .i64 0,Z .i64 0,Z .i64 0,Z .i64 0,Z .i64 0,Z .i64 0,Z .i64 0,Z .i64 0,Z .i64 0,Z .i64 0,Z .i64 0,Z .i64 0,Z .i64 0,Z .i64 0,Z .i64 0,Z .i64 0,Z .i64 0] 73 (0,0))).setRow a.heap.size (ints z.l)=w3 at *;refine (I.out w3).mono ?_;rintro e w4 ⟨rfl,rfl⟩
 go_wp2_with (first
  | (refine wpList_load_row (by exact rfl) 73 (.tmp 5) (by exact rfl) a.heap.size (by exact rfl) 73 (ints z.l) (0,0) _ (by with_reducible exact M.out) underlying73 rfl (by with_reducible exact c.out) ?_)
  | (refine wpList_store_row (by exact rfl) 73 (.tmp 4) (.tmp 18) (by exact rfl) w.heap.size (ints z.l) (by exact rfl) (by exact rfl) 73 _ (by with_reducible exact N.out) c.out (by rw [q.out];rfl) r.out ?_))
 exact bodyPost_ret (results_cell_row rfl _ _ w.heap.size 73 (ints z.l) (0,0) _ rfl O.out underlying73 rfl c.out) rfl (H.out _ _ ⟨z,rfl,E,b0,c0,d0,G.out,J.out⟩)
 go_show
theorem DB {f:AF} (m:T id=W (.file f)) (g a:Nat) (h:ag w (vA x b v T k*F)) :
  Calls S 46 #[ay v,Z .i64 (id:Int),Z .i64 (g:Int),Z .i64 (a:Int)] w fun e w'=>
   ∃ u,e = Q u/\aj w w'/\ag w' (bs 5 u (f.sub g a)*(vA x b v T k*F)):=by
 refine aH fun B r=>?_;have c:=qt h;have s:w.cell? ⟨v,0,U⟩=W (ay b):=c.cell 0;have t:w.cell? ⟨v,1,U⟩=W (Z .i64 (n:Int)):=c.cell 1;have o:=ae (Ju (c.to (by ac_rfl:_=dF x b (eY T) k*(pt v (bG b n)*F))) (lq m) g a);clear h c m
 go_enter func46,ntmps46
 go_wp2_with fail
 refine o.out.mono ?_;rintro e A ⟨u,rfl,y,j⟩;have q:=ae (j.to (by unfold vA;ac_rfl:_=bs 5 u (f.sub g a)*(vA x b v T k*F)));clear o j s t;have l:=cO A
 go_wp2_with fail
 refine l.mono ?_;rintro e C ⟨rfl,rfl⟩;clear l
 go_wp2_with fail
 exact r.out _ _ ⟨u,rfl,y,q.out⟩
theorem dz {p:List UInt8} {l:List (List UInt8)} (h:aZ p=W l):Calls S 32 #[Y (str p)] w fun e w'=>∃ u,e = Q u/\aj w w'/\ag w' (dJ u l*whole w):=by
 refine aH fun r m=>?_;have a:=ae (yd w p);unfold Eg at a;rw [h] at a;clear h
 go_enter func32,ntmps32
 go_wp2_with fail
 refine a.out.mono ?_;rintro e q ⟨u,rfl,o,c⟩;have j:=ae c;clear a c;have g:=cO q
 go_wp2_with fail
 refine g.mono ?_;rintro e s ⟨rfl,rfl⟩;clear g
 go_wp2_with fail
 exact m.out _ _ ⟨u,rfl,o,j.out⟩
theorem lh {p:List UInt8} (h:aZ p=U):Calls S 32 #[Y (str p)] w fun e w'=>e = .panicked (lG 1)/\aj w w'/\ag w' (whole w):=by
 refine aH fun q l=>?_;have a:=ae (yd w p);unfold Eg at a;rw [h] at a;clear h
 go_enter func32,ntmps32
 go_wp2_with fail
 refine a.out.mono ?_;rintro e o ⟨u,rfl,m,c⟩;have j:=ae c.right;clear a c;have g:=cT o 1 (by decide)
 go_wp2_with fail
 refine g.mono ?_;rintro e r ⟨rfl,rfl⟩;clear g
 go_wp2_with fail
 exact ⟨rfl,l.out _ _ ⟨rfl,m,j.out⟩⟩
end
section
variable {n:Nat} {x:Fx n} {b v k id:Nat} {T:Tr} {w:R} {D F:ai} {nm:List UInt8} {ps:List (List UInt8)} {pv:Value}
def R6 (c:Int) (X:ai) (w:R) (e:Ending) (w':R):Prop:=e = .panicked (lG c)/\aj w w'/\ag w' X
theorem lA {z:Nd} (h:z.dr.length=16):(ints z.l).size=20/\(ints z.l).all (·.oneCell')=true/\(prog.info? 73).map (·.size)=W (ints z.l).size:=by
 have a:(ints z.l).size=20:=by rw [dM,Nd.cells h]
 exact ⟨a,by simp [ints,Value.oneCell'],by rw [a];exact bC⟩
def R8 (f:AF) (X:ai) (w:R) (e:Ending) (w':R):Prop:=(f.kd=1/\UW f X w e w')\/(f.kd≠1/\R6 8 X w e w')
theorem lz (hy:T id=W y) (h:ag w (vA x b v T k*F)) :
  Calls S 33 #[ay v,Z .i64 (id:Int)] w (R8 y.af (vA x b v T k*F) w):=by
 refine aH fun e0 s=>?_;have N:=(h.alloc (V kX 73 (0,0))).ah;have K:=ae ((aj.refl w).alloc (V kX 73 (0,0)));have X:=ae (jH hy N);generalize y.af=f at *
 go_enter func33,ntmps33
 go_wp2_with fail
 refine X.out.mono ?_;rintro e a ⟨z,rfl,E,G,c0,d0,J,M⟩;obtain ⟨O,b0,P⟩:=lA E;have B:=M.alloc (V kX 73 (0,0));have u:=ae B.heap;have m:=B.setRow (cs':=ints z.l);have n0:((a.alloc (V kX 73 (0,0))).setRow a.heap.size (ints z.l)).cell? ⟨a.heap.size,0,U⟩=W (Z .i64 f.kd):=by rw [<- G];exact m.cell 0
 have I:=ae m.heap;have g:=ae (m.to (by unfold kX;ac_rfl:_=pt w.heap.size (V kX 73 (0,0))*(pt a.heap.size (V (ints z.l) 73 (0,0))*(vA x b v T k*F))));have q:=ae (((K.out.trans J).alloc (V kX 73 (0,0))).setRow a.heap.size (ints z.l));have l:=ae b0;have c:=ae P;have j:=ae O;obtain ⟨o,C⟩:∃ o,f.kd=o:=⟨_,rfl⟩
 rw [C] at n0;have t:=ae C;have H:=ae fun w=>cT w 8 (by decide)
 by_cases A:o=1
 .subst A
  go_wp2_with (first
   | (refine wpList_store_row (by exact rfl) 73 (.tmp 5) (.tmp 8) (by exact rfl) a.heap.size (ints z.l) (by exact rfl) (by exact rfl) 73 _ (by with_reducible exact u.out) c.out (by rw [j.out];rfl) l.out ?_)
   | (refine wpList_load_row (by exact rfl) 73 (.tmp 5) (by exact rfl) a.heap.size (by exact rfl) 73 (ints z.l) (0,0) _ (by with_reducible exact I.out) underlying73 rfl (by with_reducible exact c.out) ?_)
   | (refine wpList_store_row (by exact rfl) 73 (.tmp 4) (.tmp 13) (by exact rfl) w.heap.size (ints z.l) (by exact rfl) (by exact rfl) 73 _ (by with_reducible exact g.out.heap) c.out (by rw [j.out];rfl) l.out ?_))
  have r:=g.out.setRow (cs':=ints z.l);exact bodyPost_ret (results_cell_row rfl _ _ w.heap.size 73 (ints z.l) (0,0) _ rfl r.heap underlying73 rfl c.out) rfl (s.out _ _ (.inl ⟨t.out,z,rfl,E,G,c0,d0,q.out.setRow w.heap.size (ints z.l),r.right.right⟩))
 .go_wp2_with (first
   | (refine wpList_store_row (by exact rfl) 73 (.tmp 5) (.tmp 8) (by exact rfl) a.heap.size (ints z.l) (by exact rfl) (by exact rfl) 73 _ (by with_reducible exact u.out) c.out (by rw [j.out];rfl) l.out ?_)
   | fail)
  refine (H.out _).mono ?_;rintro e w4 ⟨rfl,rfl⟩;exact ⟨rfl,s.out _ _ (.inr ⟨by rw [t.out];exact A,rfl,q.out,g.out.right.right⟩)⟩
theorem B2 {c:Func} {e:Array Value} {w:R} {a:Nat} {r:Int} {nm:List UInt8} (g:c.results=#[.cell 4 92]:=by rfl) (j:e[4]?=W (ay a)) (h:ag w (pt a (V #[Z .i64 r,Y (str nm)] 92 (0,0))*F)) :
  (results c e).run S w = .ok (.agg #[Z .i64 r,Y (str nm)]) w:=
 results_cell_row g _ _ a 92 _ (0,0) _ (by simp [j]) h.heap underlying92 rfl (by kernel_rfl)
theorem Lr {q:R} {g o c m:Nat} (l:ps.length=m+1) (h:Ab q (.slice (W ⟨g,o,U⟩) (m+1) c) ps):Ab q (.slice (W ⟨g,o,U⟩) m c) ps.dropLast:=by
 rcases h with ⟨a,r,e,s⟩|⟨A,C,r,e,B,y,t⟩
 .rw [s] at l;simp at l
 .simp only [Value.slice.injEq,Option.some.injEq,Addr.mk.injEq] at e
  obtain ⟨⟨rfl,rfl,-⟩,-,rfl⟩:=e;have j:ps.dropLast.length=m:=by rw [L1,l];rfl
  refine .inr ⟨g,o,c,by rw [j],by rw [j];omega,y,fun k u=>?_⟩;rw [j] at u;have:=t k (by omega)
  rwa [show ps.dropLast.getD k []=ps.getD k [] by
   rw [A1,A1,List.getElem?_dropLast,if_pos (by omega)]]
theorem yk (ht:Tidy n T) (hl:ps.length<=1000) (b0:ps≠[]) (O:∀ a P,ag a (D*P)->Ab a pv ps) (h:ag w (vA x b v T k*(D*F))) :
  Calls S 78 #[ay v,pv] w (Th (vA x b v T k*(D*F)) (aN T 1 ps.dropLast).1 (.agg #[Z .i64 ((aN T 1 ps.dropLast).2:Nat),Y (str (bW ps))]) w):=by
 refine aH fun g0 q=>?_;have k0:=List.length_pos_iff.2 b0;obtain ⟨m,B⟩:∃ m,ps.length=m+1:=⟨ps.length-1,by omega⟩
 have X:∀ a P,ag a (D*P)->∃ g o c,pv = .slice (W ⟨g,o,U⟩) (m+1) c/\m+1<=c/\c<=maxLen/\a.cell? ⟨g,o+m,U⟩=W (Y (str (bW ps))):=fun a P l=>by
  rcases O a P l with ⟨h0,c,_,u⟩|⟨g,o,c,e,C,E,hc⟩
  .exact absurd u b0
  .rw [B] at e C
   refine ⟨g,o,c,e,C,E,?_⟩;have:=hc m (by omega);unfold bW
   rwa [B,Nat.add_sub_cancel]
 obtain ⟨g,o,c,rfl,C,E,-⟩:=X _ _ h.ah;have c0:∀ a P,ag a (D*P)->Ab a (.slice (W ⟨g,o,U⟩) m c) ps.dropLast:=fun a P l=>Lr B (O a P l)
 have y:∀ a P,ag a (D*P)->a.cell? ⟨g,o+m,U⟩=W (Y (str (bW ps))):=fun a P l=>by
  obtain ⟨g',o',c',e,-,-,u⟩:=X a P l;obtain ⟨⟨rfl,rfl,-⟩,-,rfl⟩:=e;exact u
 obtain ⟨nm,d0⟩:∃ nm,bW ps=nm:=⟨_,rfl⟩
 rw [d0] at q y;have hA:=(h.alloc (V #[Z .i64 0,.string ⟨#[]⟩] 92 (0,0)))
 have K:=ae ((aj.refl w).alloc (V #[Z .i64 0,.string ⟨#[]⟩] 92 (0,0)));have hk:=fun w' (h':ag w' (vA x b v T k*(D*(pt w.heap.size (V #[Z .i64 0,.string ⟨#[]⟩] 92 (0,0))*F))))=>eR (ps:=ps.dropLast) ht (by rw [L1];omega) c0 h';have N:=hA.to (by ac_rfl:_=vA x b v T k*(D*(pt w.heap.size (V #[Z .i64 0,.string ⟨#[]⟩] 92 (0,0))*F)));have q1:=y _ _ N.ah;generalize aN T 1 ps.dropLast=p at *;obtain ⟨J,r⟩:=p;have I:=ae hk;have G:=ae N;have H:=ae y;have b2:(m:Int)<=(c:Int):=by omega
 have b3:(m:Int)<(m:Int)+1:=by omega
 have l0:((m:Int)+1)<=(c:Int):=by omega
 have m0:(c:Int)<=9223372036854775807:=by unfold maxLen at E;omega
 go_enter func78,ntmps78
 go_wp2_with fail
 generalize w.heap.size=rc at *
 by_cases t:J=0
 .subst t
  go_region_held3 (fun w'=>w'.cell? ⟨g,o+m,U⟩=W (Y (str nm)))
   (first|exact q1|exact q2|exact q3|go_keep)
   (first|(go_at_call 31;refine (I.out _ G.out.drew).mono ?_;rintro e w5 ⟨A,s,j⟩;obtain rfl:e = Q (Z .i64 (r:Int)):=A.elim (fun h=>h.2) (fun h=>absurd rfl h.1);have q2:=H.out _ _ j.ah;have z0:=j.au.cell 0;have z1:=j.au.cell 1;have f0:=j.au.frozen 0;have f1:=j.au.frozen 1;have q3:=H.out _ _ ((j.au.setCell 0 (Z .i64 (r:Int))).setCell 1 (Y (str nm))).au;simp at z0 z1))
  have M:=((j.au.setCell 0 (Z .i64 (r:Int))).setCell 1 (Y (str nm)))
  have H6:=ae M;have H7:=ae (q.out _ _ ⟨.inl ⟨rfl,rfl⟩,((K.out.drew.trans s).setCell _ _).setCell _ _,M.right⟩)
  go_wp2_with fail
  exact bodyPost_ret (B2 rfl rfl H6.out) rfl H7.out
 .refine wp_region_held_drew (S:=fun w'=>w'.cell? ⟨g,o+m,U⟩=W (Y (str nm))) (by kernel_rfl) q1 (fun i0=>?_)
  refine tk 0 ?_;refine tk 1 ?_;refine tk 2 ?_;refine tk 3 ?_;refine tk 5 ?_;refine tk 6 ?_;refine tk 7 ?_;refine tk 8 ?_;refine tr 4 fun e0 hK=>?_
  go_simp
  go_wp2_with (go_at_call 31;refine (I.out _ G.out.drew).mono ?_;rintro e w5 ⟨A,s,j⟩;obtain rfl:e = .panicked (lG J):=A.elim (fun h=>absurd h.1 t) (fun h=>h.2);exact ⟨rfl,q.out _ _ ⟨.inr ⟨t,rfl⟩,K.out.drew.trans s,(j.to (by ac_rfl:_=pt rc (V #[Z .i64 0,.string ⟨#[]⟩] 92 (0,0))*(vA x b v T k*(D*F)))).right⟩⟩)
def _root_.Go.SL.fh (T:Tr) (ps:List (List UInt8)):Int:=
 if ps=[] then 6 else if (aN T 1 ps.dropLast).1≠0 then (aN T 1 ps.dropLast).1 else if (dZ (T (aN T 1 ps.dropLast).2) (bW ps)).1=0 then 6 else if (dZ (T (aN T 1 ps.dropLast).2) (bW ps)).1=5 then 0 else (dZ (T (aN T 1 ps.dropLast).2) (bW ps)).1
def _root_.Go.SL.cK (T:Tr) (ps:List (List UInt8)):Nat:=(aN T 1 ps.dropLast).2
theorem uZ (y:Tidy n T) (hl:ps.length<=1000) (hs:∀ t P,ag t (D*P)->∃ a c,pv = .slice a ps.length c) (hD:∀ t P,ag t (D*P)->Ab t pv ps) (b0:ag w (vA x b v T k*(D*F))) :
  Calls S 51 #[ay v,pv] w (Th (vA x b v T k*(D*F)) (fh T ps) (.agg #[Z .i64 (cK T ps:Nat),Y (str (bW ps))]) w):=by
 refine aH fun e0 g=>?_;obtain ⟨a,c,rfl⟩:=hs _ _ b0.ah;obtain ⟨m,I⟩:∃ m,ps.length=m:=⟨_,rfl⟩
 have hA:=b0.alloc (V #[Z .i64 0,.string ⟨#[]⟩] 92 (0,0));have G:=ae ((aj.refl w).alloc (V #[Z .i64 0,.string ⟨#[]⟩] 92 (0,0)));have C:=ae fun (w:R) (c:Int) (r:c≠0)=>cT w c r;have N:=ae (hA.to (by ac_rfl:_=vA x b v T k*(D*(pt w.heap.size (V #[Z .i64 0,.string ⟨#[]⟩] 92 (0,0))*F))))
 by_cases s:ps=[]
 .have c0:m=0:=by rw [<- I,s];rfl
  have H:fh T ps=6:=if_pos s;rw [H] at g;rw [I,c0]
  go_enter func51,ntmps51
  go_wp2_with fail
  refine (C.out _ 6 (by decide)).mono ?_;rintro e w3 ⟨rfl,rfl⟩;exact ⟨rfl,g.out _ _ ⟨.inr ⟨by decide,rfl⟩,G.out,(N.out.to (by ac_rfl:_=pt w.heap.size (V #[Z .i64 0,.string ⟨#[]⟩] 92 (0,0))*(vA x b v T k*(D*F)))).right⟩⟩
 .have d0:=ae (yk y hl s hD N.out)
  have c0:¬ ((m:Int)=0):=by have:=List.length_pos_iff.2 s;omega
  have H:fh T ps=if (aN T 1 ps.dropLast).1≠0 then (aN T 1 ps.dropLast).1 else if (dZ (T (aN T 1 ps.dropLast).2) (bW ps)).1=0 then 6 else if (dZ (T (aN T 1 ps.dropLast).2) (bW ps)).1=5 then 0 else (dZ (T (aN T 1 ps.dropLast).2) (bW ps)).1:=if_neg s
  have J:=fun (h0:(aN T 1 ps.dropLast).1=0)=>y.walk ps.dropLast (y.root.choose_spec) h0;rw [H] at g;unfold cK at g;rw [I] at d0 ⊢;generalize aN T 1 ps.dropLast=p at *;obtain ⟨cc,d⟩:=p;generalize bW ps=nm at *;have HY:=ae J;have HT:=ae y
  go_enter func51,ntmps51
  go_wp2_with fail
  refine d0.out.mono ?_;rintro e h ⟨he,O,h2⟩;generalize w.heap.size=l at *;rcases he with ⟨rfl,rfl⟩|⟨r,rfl⟩
  .obtain ⟨i0,J⟩:=HY.out rfl
   rw [if_neg (by decide)] at g;have hB:=h2.alloc (V #[Z .i64 (d:Int),Y (str nm)] 92 (0,0));have dB:=ae ((G.out.trans O).alloc (V #[Z .i64 (d:Int),Y (str nm)] 92 (0,0)));have q:=hB.to (by unfold vA;ac_rfl:_=pt v (bG b n)*(pt h.heap.size (V #[Z .i64 (d:Int),Y (str nm)] 92 (0,0))*(dF x b (eY T) k*(pt l (V #[Z .i64 0,.string ⟨#[]⟩] 92 (0,0))*(D*F)))));have K:(h.alloc (V #[Z .i64 (d:Int),Y (str nm)] 92 (0,0))).cell? ⟨v,0,U⟩=W (ay b)/\(h.alloc (V #[Z .i64 (d:Int),Y (str nm)] 92 (0,0))).cell? ⟨v,1,U⟩=W (Z .i64 (n:Int))/\(h.alloc (V #[Z .i64 (d:Int),Y (str nm)] 92 (0,0))).cell? ⟨h.heap.size,0,U⟩=W (Z .i64 (d:Int))/\(h.alloc (V #[Z .i64 (d:Int),Y (str nm)] 92 (0,0))).cell? ⟨h.heap.size,1,U⟩=W (Y (str nm)):=⟨q.cell 0,q.cell 1,q.ah.cell 0,q.ah.cell 1⟩
   have K0:=ae K;have hf:=ae fun w' (h':ag w' (dF x b (eY T) k*(pt v (bG b n)*(pt h.heap.size (V #[Z .i64 (d:Int),Y (str nm)] 92 (0,0))*(pt l (V #[Z .i64 0,.string ⟨#[]⟩] 92 (0,0))*(D*F))))))=>yj (nm:=nm) HT.out J h';have HC:=ae q.au;generalize dZ (T d) nm=p at *;obtain ⟨E,g0⟩:=p
   go_wp2_with fail
   generalize h.heap.size=sc at *;have K:=K0.out
   go_region_held3 (fun w'=>w'.cell? ⟨v,0,U⟩=W (ay b)/\w'.cell? ⟨v,1,U⟩=W (Z .i64 (n:Int))/\w'.cell? ⟨sc,0,U⟩=W (Z .i64 (d:Int))/\w'.cell? ⟨sc,1,U⟩=W (Y (str nm)))
    (first|exact K|exact k1|go_keep)
    (first|(go_at_call 97;refine (hf.out _ HC.out.drew).mono ?_;rintro e A ⟨rfl,d4,o⟩;have k1:A.cell? ⟨v,0,U⟩=W (ay b)/\A.cell? ⟨v,1,U⟩=W (Z .i64 (n:Int))/\A.cell? ⟨sc,0,U⟩=W (Z .i64 (d:Int))/\A.cell? ⟨sc,1,U⟩=W (Y (str nm)):=⟨o.ah.cell 0,o.ah.cell 1,o.au.cell 0,o.au.cell 1⟩))
   have j:=o.to (by unfold vA;ac_rfl:_=pt sc (V #[Z .i64 (d:Int),Y (str nm)] 92 (0,0))*(pt l (V #[Z .i64 0,.string ⟨#[]⟩] 92 (0,0))*(vA x b v T k*(D*F))));have s0:=j.cell 0;have s1:=j.cell 1;have z0:=j.ah.cell 0;have z1:=j.ah.cell 1;have f0:=j.ah.frozen 0;have f1:=j.ah.frozen 1;have h6:=ae ((j.ah.setCell 0 (Z .i64 (d:Int))).setCell 1 (Y (str nm)));have M:=ae j.right.right;have B:=ae (dB.out.drew.trans d4)
   by_cases u:E=0
   .subst u
    rw [if_pos rfl] at g
    go_wp2_with fail
    refine (C.out _ 6 (by decide)).mono ?_;rintro e w5 ⟨rfl,rfl⟩;exact ⟨rfl,g.out _ _ ⟨.inr ⟨by decide,rfl⟩,B.out,M.out⟩⟩
   .rw [if_neg u] at g
    by_cases X:E=5
    .subst X
     rw [if_pos rfl] at g;have H7:=ae (g.out _ _ ⟨.inl ⟨rfl,rfl⟩,(B.out.setCell ⟨l,0,U⟩ (Z .i64 (d:Int))).setCell ⟨l,1,U⟩ (Y (str nm)),h6.out.right.right⟩)
     go_wp2_with fail
     exact bodyPost_ret (B2 rfl rfl h6.out) rfl H7.out
    .rw [if_neg X] at g
     go_wp2_with fail
     refine (C.out _ E u).mono ?_;rintro e w5 ⟨rfl,rfl⟩;exact ⟨rfl,g.out _ _ ⟨.inr ⟨u,rfl⟩,B.out,M.out⟩⟩
  .refine ⟨rfl,g.out _ _ ⟨.inr ⟨?_,?_⟩,G.out.trans O,(h2.to (by ac_rfl:_=pt l (V #[Z .i64 0,.string ⟨#[]⟩] 92 (0,0))*(vA x b v T k*(D*F)))).right⟩⟩
   .rw [if_pos r];exact r
   .rw [if_pos r]
theorem Aa:∀ {z:Nd} (_:z.dr.length=16) (w:R),(Instr.field 73 (.agg (ints z.l)) 0).run S w = .ok (Z .i64 z.kd) w/\(Instr.field 73 (.agg (ints z.l)) 1).run S w = .ok (Z .i64 z.lk) w/\(Instr.field 73 (.agg (ints z.l)) 2).run S w = .ok (Z .i64 z.sz) w
 | ⟨a,c,e,[_,_,_,_,_,_,_,_,_,_,_,_,_,_,_,_],rw⟩,_,w=>⟨by kernel_rfl,by kernel_rfl,by kernel_rfl⟩
def _root_.Go.SL.oV (L:List aQ):Int:=if 122880<=32*L.length then 9 else 0
theorem G4 {L:List aQ} (G:T id=W (.dir L)) (h:ag w (vA x b v T k*F)) :
  Calls S 67 #[ay v,.agg #[Z .i64 (id:Int),Y (str nm)]] w (Th (vA x b v T k*F) (oV L) (.tuple #[]) w):=by
 refine aH fun J a=>?_;have A:=h.alloc (V #[Z .i64 (id:Int),Y (str nm)] 92 (0,0));have t:=ae ((aj.refl w).alloc (V #[Z .i64 (id:Int),Y (str nm)] 92 (0,0)));have C:=ae (jH G A.ah)
 go_enter func67,ntmps67
 go_wp2_with fail
 refine C.out.mono ?_;rintro e K ⟨z,rfl,H,N,O,I,s,u⟩;have B:=fun w=>(Aa H w).2.2;have o:z.sz=((32*L.length:Nat):Int):=I;have m:=ae (u.to (by ac_rfl:_=pt w.heap.size (V #[Z .i64 (id:Int),Y (str nm)] 92 (0,0))*(vA x b v T k*F))).right;have l:=ae (t.out.trans s);have r:=ae fun w=>cT w 9 (by decide);unfold oV at a;obtain ⟨q,E⟩:∃ q,32*L.length=q:=⟨_,rfl⟩
 rw [E] at o a;obtain ⟨g,j⟩:∃ g:Int,g=(q:Int):=⟨_,rfl⟩
 rw [o,<- j] at B
 by_cases c:122880<=q
 .rw [if_pos c] at a
  have y:(122880:Int)<=g:=by omega
  clear c j
  go_wp2_with fail
  refine (r.out _).mono ?_;rintro e M ⟨rfl,rfl⟩;exact ⟨rfl,a.out _ _ ⟨.inr ⟨by decide,rfl⟩,l.out,m.out⟩⟩
 .rw [if_neg c] at a
  have y:g<122880:=by omega
  clear c j
  go_wp2_with fail
  go_end0
  exact a.out _ _ ⟨.inl ⟨rfl,rfl⟩,l.out,m.out⟩
def _root_.Go.SL.jQ (k:Nat) (L:List aQ) (nm:List UInt8):Int:=if (iX L nm).isSome then 6 else if 3840<=L.length then 9 else if k+aU L.length<aU (L.length+1) then 7 else 0
def _root_.Go.SL.fu (T:Tr) (d:Nat) (L:List aQ):Tr:=dp T d (W (.dir L))
theorem Ni {a:Nat} {A:Nat->Option AF} {P:Int} {L:List aQ} (c0:1<=a) (d0:a<=3839) (h:ag w (dF x b A k*F)) (H:A id=W (dR P L)) (K:rT L) (hl:L.length=3840) (I:cL nm=true) (M:iX L nm=U) :
  Calls S 98 #[fJ b n,Z .i64 (id:Int),Y (str nm),Z .i64 (a:Int)] w (YE x b A k 9 F w):=by
 refine aH fun b0 s=>?_;have G:=h.alloc (cH b n);have B:=ae ((aj.refl w).alloc (cH b n));have O:=ae (iN G.ah H (iK K (by omega)));obtain ⟨m,J⟩:∃ m,L.length=m:=⟨_,rfl⟩
 have q:=ae J;have N:=ae (sa M);have e0:(m:Int)=3840:=by omega
 have o:Hid (L.length<=3840):=by show L.length<=3840;omega
 have e:=ae fun w=>qh w nm;rw [I] at e;have g1:¬ ((a:Int)<1):=by omega
 have g2:¬ ((3839:Int)<(a:Int)):=by omega
 unfold fJ
 go_enter func98,ntmps98
 go_wp2_with fail
 refine O.out.mono ?_;generalize w.heap.size=C at *;rintro r w2 ⟨u,rfl,t,j⟩;have c:=Go.Proofs.Fs.dO w2 u L nm _ o.out j;unfold pL at c;rw [N.out] at c;have g:=ae c;obtain ⟨X,uc,rfl⟩:=aD j;rw [q.out] at g ⊢
 go_wp2_with fail
 refine (e.out _).mono ?_;rintro r w3 ⟨rfl,rfl⟩
 go_wp2_with fail
 refine g.out.mono ?_;rintro r w3 ⟨rfl,E,y⟩;have l:=ae (E.to (by ac_rfl:_=(sl 99 2 (.slice X m uc) m (bu L)*pt C (cH b n))*(dF x b A k*F))).right
 go_wp2_with fail
 exact s.out _ _ ⟨by simp,(B.out.trans t).trans y,l.out⟩
def Ps (x:Fx n) (b v:Nat) (T:Tr) (k id a:Nat) (nm:List UInt8) (L:List aQ) (F:ai) (w:R) (e:Ending) (w':R):Prop:=
 (jQ k L nm=0/\e = Q (.tuple #[])/\aj w w'/\ag w' (vA (x.more 5) b v (fu T id (L++[⟨a,nm⟩])) (k+aU L.length-aU (L.length+1))*F)) \/
 (jQ k L nm≠0/\R6 (jQ k L nm) (vA x b v T k*F) w e w')
theorem M9 {a:Nat} {L:List aQ} (g:1<=a) (j:a<=3839) (h:ag w (dF x b (eY T) k*F)) (l:T id=W (.dir L)) (c:oK L) (m:cL nm=true) :
  Calls S 98 #[fJ b n,Z .i64 (id:Int),Y (str nm),Z .i64 (a:Int)] w fun e w'=>
   (jQ k L nm=0/\YE (x.more 5) b (eY (fu T id (L++[⟨a,nm⟩]))) (k+aU L.length-aU (L.length+1)) 0 F w e w')\/(jQ k L nm≠0/\YE x b (eY T) k (jQ k L nm) F w e w'):=by
 unfold jQ
 cases o:iX L nm with
 | some i=>exact (G9 g j h (jw l) c.ok c.len m o).mono fun e w' q=>.inr ⟨by simp,by simpa using q⟩
 | none=>
  by_cases s:3840<=L.length
  .rw [if_pos s]
   exact (Ni g j h (jw l) c.ok (by have:=c.len;omega) m o).mono fun e w' q=>.inr ⟨by decide,q⟩
  .rw [if_neg s]
   by_cases r:k+aU L.length<aU (L.length+1)
   .rw [if_pos r]
    exact (Rp g j h (jw l) c.ok (by omega) m o r).mono fun e w' q=>.inr ⟨by decide,q⟩
   .rw [if_neg r]
    have:=tW g j h (jw l) c.ok (by omega) m o (by omega);rw [show dp (eY T) id (W (dR 1 (L++[⟨a,nm⟩])))=eY (fu T id (L++[⟨a,nm⟩])) from sE T id (.dir (L++[(⟨a,nm⟩:aQ)]))] at this;exact this.mono fun e w' q=>.inl ⟨rfl,q⟩
theorem Ac {child:Nat} {L:List aQ} (P:1<=child) (X:child<=3839) (hf:T id=W (.dir L)) (M:oK L) (hi:cL nm=true) (h:ag w (vA x b v T k*F)) :
  Calls S 52 #[ay v,.agg #[Z .i64 (id:Int),Y (str nm)],Z .i64 (child:Int)] w (Ps x b v T k id child nm L F w):=by
 refine aH fun b0 q=>?_;have J:=h.alloc (V #[Z .i64 (id:Int),Y (str nm)] 92 (0,0));have y:=ae ((aj.refl w).alloc (V #[Z .i64 (id:Int),Y (str nm)] 92 (0,0)));have j:=J.to (by unfold vA;ac_rfl:_=dF x b (eY T) k*(pt v (bG b n)*(pt w.heap.size (V #[Z .i64 (id:Int),Y (str nm)] 92 (0,0))*F)));have m:(w.alloc (V #[Z .i64 (id:Int),Y (str nm)] 92 (0,0))).cell? ⟨v,0,U⟩=W (ay b)/\(w.alloc (V #[Z .i64 (id:Int),Y (str nm)] 92 (0,0))).cell? ⟨v,1,U⟩=W (Z .i64 (n:Int))/\(w.alloc (V #[Z .i64 (id:Int),Y (str nm)] 92 (0,0))).cell? ⟨w.heap.size,0,U⟩=W (Z .i64 (id:Int))/\(w.alloc (V #[Z .i64 (id:Int),Y (str nm)] 92 (0,0))).cell? ⟨w.heap.size,1,U⟩=W (Y (str nm)):=⟨j.ah.cell 0,j.ah.cell 1,j.au.cell 0,j.au.cell 1⟩
 have B:=ae fun w' (I:ag w' (dF x b (eY T) k*(pt v (bG b n)*(pt w.heap.size (V #[Z .i64 (id:Int),Y (str nm)] 92 (0,0))*F))))=>M9 P X I hf M hi;have E:=ae fun (w:R) (c:Int) (O:c≠0)=>cT w c O;have G:=ae fun w=>cO w;have u:=ae j;have H:=ae m;unfold Ps at q;generalize jQ k L nm=c at *
 go_enter func52,ntmps52
 go_wp2_with fail
 generalize w.heap.size=sc at *;have m:=H.out
 by_cases l:c=0
 .subst l
  go_region_held3 (fun w'=>w'.cell? ⟨v,0,U⟩=W (ay b)/\w'.cell? ⟨v,1,U⟩=W (Z .i64 (n:Int))/\w'.cell? ⟨sc,0,U⟩=W (Z .i64 (id:Int))/\w'.cell? ⟨sc,1,U⟩=W (Y (str nm)))
   (first|exact m|exact t|go_keep)
   (first
    | (go_at_call 98;refine (B.out _ u.out.drew).mono ?_;rintro e g s;obtain ⟨rfl,r,a⟩:=s.elim (fun h=>h.2) (fun h=>absurd rfl h.1);have t:g.cell? ⟨v,0,U⟩=W (ay b)/\g.cell? ⟨v,1,U⟩=W (Z .i64 (n:Int))/\g.cell? ⟨sc,0,U⟩=W (Z .i64 (id:Int))/\g.cell? ⟨sc,1,U⟩=W (Y (str nm)):=⟨a.ah.cell 0,a.ah.cell 1,a.au.cell 0,a.au.cell 1⟩)
    | (go_at_call 34;refine (G.out _).mono ?_;rintro e w5 ⟨rfl,rfl⟩))
  have C:=ae (y.out.drew.trans r);have o:=ae (a.to (by unfold vA;ac_rfl:_=pt sc (V #[Z .i64 (id:Int),Y (str nm)] 92 (0,0))*(vA (x.more 5) b v (fu T id (L++[⟨child,nm⟩])) (k+aU L.length-aU (L.length+1))*F))).right
  go_wp2_with fail
  go_end0
  exact q.out _ _ (.inl ⟨by simp,rfl,C.out,o.out⟩)
 .refine wp_region_held_drew (S:=fun w'=>w'.cell? ⟨v,0,U⟩=W (ay b)/\w'.cell? ⟨v,1,U⟩=W (Z .i64 (n:Int))/\w'.cell? ⟨sc,0,U⟩=W (Z .i64 (id:Int))/\w'.cell? ⟨sc,1,U⟩=W (Y (str nm))) (by kernel_rfl) m (fun N=>?_)
  refine tk 0 ?_;refine tk 1 ?_;refine tk 2 ?_;refine tk 3 ?_;refine tk 4 ?_;refine tk 5 ?_;refine tk 6 ?_;refine tk 7 ?_;refine tk 8 ?_;refine tr 9 fun K A=>?_
  go_simp
  go_wp2_with (go_at_call 98;refine (B.out _ u.out.drew).mono ?_;rintro e g s;obtain ⟨rfl,r,a⟩:=s.elim (fun h=>absurd h.1 l) (fun h=>h.2))
  have t:g.cell? ⟨v,0,U⟩=W (ay b)/\g.cell? ⟨v,1,U⟩=W (Z .i64 (n:Int))/\g.cell? ⟨sc,0,U⟩=W (Z .i64 (id:Int))/\g.cell? ⟨sc,1,U⟩=W (Y (str nm)):=⟨a.ah.cell 0,a.ah.cell 1,a.au.cell 0,a.au.cell 1⟩
  have o:=(a.to (by unfold vA;ac_rfl:_=pt sc (V #[Z .i64 (id:Int),Y (str nm)] 92 (0,0))*(vA x b v T k*F))).right;refine A.out _ _ t (fun N=>?_);refine tr 10 fun K A=>?_
  go_simp
  go_wp2_with (go_at_call 34;refine (E.out _ c l).mono ?_;rintro e w5 ⟨rfl,rfl⟩;exact ⟨rfl,q.out _ _ (.inr ⟨l,rfl,y.out.drew.trans r,o⟩)⟩)
theorem sY (s:Tidy n T) (O:ps.length<=1000) (X:ps≠[]) (K:∀ m P,ag m (D*P)->Ab m pv ps) {L:List aQ} {i:Nat} (c0:(aN T 1 ps.dropLast).1=0) (r:T (cK T ps)=W (.dir L)) (hp:iX L (bW ps)=W i) (h:ag w (vA x b v T k*(D*F))) :
  Calls S 37 #[ay v,pv] w (Th (vA (x.more 9) b v (fu T (cK T ps) (mR L i)) (k+aU L.length-aU (L.length-1))*(D*F)) 0 (.tuple #[]) w):=by
 refine aH fun d0 A=>?_;have b0:=ae (yk s O X K h);unfold cK at *;generalize aN T 1 ps.dropLast=p at *;obtain ⟨cc,d⟩:=p;generalize bW ps=nm at *;subst c0;have q:=s.pK _ _ r
 go_enter func37,ntmps37
 go_wp2_with fail
 refine b0.out.mono ?_;rintro e a ⟨N,E,I⟩;obtain rfl:=N.elim (fun h=>h.2) (fun h=>absurd rfl h.1);have J:=I.alloc (V #[Z .i64 (d:Int),Y (str nm)] 92 (0,0));have G:=ae (E.alloc (V #[Z .i64 (d:Int),Y (str nm)] 92 (0,0)));have g:=J.to (by unfold vA;ac_rfl:_=dF x b (eY T) k*(pt v (bG b n)*(pt a.heap.size (V #[Z .i64 (d:Int),Y (str nm)] 92 (0,0))*(D*F))));have l:(a.alloc (V #[Z .i64 (d:Int),Y (str nm)] 92 (0,0))).cell? ⟨v,0,U⟩=W (ay b)/\(a.alloc (V #[Z .i64 (d:Int),Y (str nm)] 92 (0,0))).cell? ⟨v,1,U⟩=W (Z .i64 (n:Int))/\(a.alloc (V #[Z .i64 (d:Int),Y (str nm)] 92 (0,0))).cell? ⟨a.heap.size,0,U⟩=W (Z .i64 (d:Int))/\(a.alloc (V #[Z .i64 (d:Int),Y (str nm)] 92 (0,0))).cell? ⟨a.heap.size,1,U⟩=W (Y (str nm)):=⟨g.ah.cell 0,g.ah.cell 1,g.au.cell 0,g.au.cell 1⟩
 have M:=ae fun w' (H:ag w' (dF x b (eY T) k*(pt v (bG b n)*(pt a.heap.size (V #[Z .i64 (d:Int),Y (str nm)] 92 (0,0))*(D*F)))))=>Eh H (jw r) q.ok q.len hp;have B:=ae fun w=>cO w;have y:=ae g;have C:=ae l
 go_wp2_with fail
 generalize a.heap.size=sc at *;have l:=C.out
 go_region_held3 (fun w'=>w'.cell? ⟨v,0,U⟩=W (ay b)/\w'.cell? ⟨v,1,U⟩=W (Z .i64 (n:Int))/\w'.cell? ⟨sc,0,U⟩=W (Z .i64 (d:Int))/\w'.cell? ⟨sc,1,U⟩=W (Y (str nm)))
  (first|exact l|exact k1|go_keep)
  (first
   | (go_at_call 79;refine (M.out _ y.out.drew).mono ?_;rintro e j ⟨rfl,o,c⟩;have k1:j.cell? ⟨v,0,U⟩=W (ay b)/\j.cell? ⟨v,1,U⟩=W (Z .i64 (n:Int))/\j.cell? ⟨sc,0,U⟩=W (Z .i64 (d:Int))/\j.cell? ⟨sc,1,U⟩=W (Y (str nm)):=⟨c.ah.cell 0,c.ah.cell 1,c.au.cell 0,c.au.cell 1⟩)
   | (go_at_call 34;refine (B.out _).mono ?_;rintro e w5 ⟨rfl,rfl⟩))
 rename_i e0;have t:=ae (G.out.drew.trans o);rw [show dp (eY T) d (W (dR 1 (mR L i)))=eY (fu T d (mR L i)) from sE T d (.dir (mR L i))] at c;have u:=ae (c.to (by unfold vA;ac_rfl:_=pt sc (V #[Z .i64 (d:Int),Y (str nm)] 92 (0,0))*(vA (x.more 9) b v (fu T d (mR L i)) (k+aU L.length-aU (L.length-1))*(D*F)))).right;clear c o
 go_wp2_with fail
 go_end0
 exact A.out _ _ ⟨.inl ⟨rfl,rfl⟩,t.out,u.out⟩
end
end Go.Proofs.Cl
namespace Go.SL
open Go.RowKit
def lV (kd:Int):tN:=if kd=1 then .file (kr 1) else .dir []
theorem Fz {kd:Int} (h:kd=1\/kd=2):(lV kd).af=kr kd:=by
 rcases h with rfl|rfl
 .rfl
 .exact LJ.symm
theorem Bk (a:Int):eX (W (lV a))=[]:=by unfold lV;split <;> rfl
theorem O5 {id:Nat} (h:id≠1) (a:Int):Cq id (W (lV a))=1:=by
 unfold lV;split
 .rfl
 .show (if id=1 then (0:Int) else 1)=1;rw [if_neg h]
theorem oK.snoc {L:List aQ} (h:oK L) {id:Nat} {nm:List UInt8} (m:1<=id) (o:id<=3839) (l:cL nm=true) (g:iX L nm=U) (r:L.length<3840):oK (L++[⟨id,nm⟩]):=by
 refine ⟨A3 h.ok (aQ.lS.2 ⟨m,o,su l⟩),by rw [List.length_append,M1];omega,?_,fun e c=>?_⟩
 .rw [List.map_append,List.nodup_append]
  refine ⟨h.nd,by simp,fun a q b j=>?_⟩;obtain ⟨e,c,rfl⟩:=List.mem_map.1 q;simp only [List.map_cons,List.map_nil,List.mem_singleton] at j;subst j;unfold iX at g;rw [List.findIdx?_eq_none_iff] at g;simpa using g e c
 .rcases List.mem_append.1 c with c|c
  .exact h.nm e c
  .rw [List.mem_singleton.1 c];exact l
theorem oK.nil:oK []:=⟨fun e a=>(by cases a),Nat.zero_le _,List.nodup_nil,fun e a=>(by cases a)⟩
variable {n d id:Nat} {T:Tr} {L:List aQ} {nm:List UInt8}
theorem Tidy.Ou (h:Tidy n T) (a:T id=U):id≠1:=by
 rintro rfl;obtain ⟨L,c⟩:=h.root;rw [c] at a;cases a
def No (T:Tr) (d id:Nat) (nm:List UInt8) (a:Int):Tr:=Go.SL.dp (dp T id (W (lV a))) d (W (.dir (eX (T d)++[⟨id,nm⟩])))
theorem Tidy.make (h:Tidy n T) (l:T d=W (.dir L)) (m:T id=U) (y:0<id) (A:id<n) (O:n<=3840) {a:Int} (N:a=1\/a=2) (H:cL nm=true) (I:iX L nm=U) (G:L.length<3840):Tidy n (No T d id nm a):=by
 have t:id≠d:=by rintro rfl;rw [l] at m;cases m
 have s:=h.Ou m;have B:eX (T d)=L:=by rw [l];rfl
 have E:=h.lt l;unfold No;rw [B];have o:∀ x,dp (dp T id (W (lV a))) d (W (.dir (L++[⟨id,nm⟩]))) x=if x=d then W (.dir (L++[⟨id,nm⟩])) else if x=id then W (lV a) else T x:=fun x=>rfl
 have J:∀ x,refs n (dp (dp T id (W (lV a))) d (W (.dir (L++[⟨id,nm⟩])))) x=refs n T x+if id=x then 1 else 0:=fun x=>by
  have r:=rp (T:=T) A (W (lV a)) x;have c:=rp (T:=dp T id (W (lV a))) E (W (.dir (L++[⟨id,nm⟩]))) x;rw [m,Bk] at r;rw [aJ _ _ (Ne.symm t),l] at c;simp only [eX,List.countP_nil,List.countP_append,List.countP_cons,Nat.add_zero,Nat.zero_add] at r c
  by_cases q:id=x
  .rw [if_pos q];subst q;simp at c;omega
  .rw [if_neg q];simp [q] at c;omega
 refine ⟨?_,fun x M g=>?_,fun x f j=>?_,fun x=>?_,fun x K=>?_⟩
 .obtain ⟨u,C⟩:=h.root
  rw [o]
  by_cases e:1=d
  .exact ⟨_,if_pos e⟩
  .rw [if_neg e,if_neg (Ne.symm s)];exact ⟨u,C⟩
 .rw [o] at g
  split at g
  .cases g;exact (h.pK _ _ l).snoc y (by omega) H I G
  .split at g
   .have:M=[]:=by rw [<- Bk a];injection g with g;rw [g];rfl
    rw [this];exact oK.nil
   .exact h.pK _ _ g
 .rw [o] at j
  split at j
  .cases j
  .split at j
   .unfold lV at j;split at j <;> cases j;rfl
   .exact h.files _ _ j
 .rw [J,o]
  have:=h.ref x
  by_cases e:x=d
  .subst e;rw [if_pos rfl,if_neg t];rw [l] at this;exact this
  .rw [if_neg e]
   by_cases c:x=id
   .subst c;rw [if_pos rfl,if_pos rfl,O5 s];rw [m] at this;simp only [Cq] at this;omega
   .rw [if_neg c,if_neg (Ne.symm c)];exact this
 .rw [o,if_neg (by omega),if_neg (by omega)];exact h.out x K
def jh (T:Tr) (k:Nat) (p:List UInt8):Int:=match aZ p with
 | none=>1
 | some ps=>if fh T ps≠0 then fh T ps else if oV (eX (T (cK T ps)))≠0 then 9 else if k=0 then 7 else jQ (k-1) (eX (T (cK T ps))) (bW ps)
def RV (k:Nat) (L:List aQ):Nat:=k-1+aU L.length-aU (L.length+1)
end Go.SL
namespace Go.SL
open Go.RowKit
variable {y:tN} {y':Option tN}
theorem rM {c:Type} (z:c):∀ (L:List c) (i:Nat),i<L.length->(L.set i z).Perm (z :: L.eraseIdx i)
 | a :: L,0,_=>by simp
 | a :: L,i+1,h=>by
  have:=rM z L i (by simpa using h);rw [E1,List.eraseIdx_cons_succ];exact (this.cons a).trans (List.Perm.swap z a _)
theorem xe {L:List aQ} {i:Nat} (a:i<L.length):(L[i] :: mR L i).Perm L:=by
 have c:(L[i] :: L.eraseIdx i).Perm L:=by
  have:=rM L[i] L i a;rw [List.set_getElem_self] at this;exact this.symm
 refine List.Perm.trans (List.Perm.cons _ ?_) c
 obtain ⟨M,z,rfl⟩:∃ M z,L=M++[z]:=by
  rcases N1 L with rfl|⟨M,z,h⟩
  .simp at a
  .exact ⟨M,z,by rw [h,O1]⟩
 have e:(M++[z]).length-1=M.length:=by simp
 unfold mR;rw [e,show (M++[z]).getD M.length aQ.no=z by simp [A1]];rw [List.length_append,M1] at a
 by_cases h:i=M.length
 .subst h
  rw [List.set_append_right _ _ (Nat.le_refl _),Nat.sub_self,H1,List.take_left',List.eraseIdx_append_of_length_le (Nat.le_refl _)]
  .simp
  .rfl
 .rw [List.set_append_left _ _ (by omega),List.take_left' (by rw [List.length_set]),List.eraseIdx_append_of_lt_length (by omega)]
  exact (rM z M i (by omega)).trans (List.perm_append_singleton z _).symm
theorem oK.rm {L:List aQ} (h:oK L) {i:Nat} (a:i<L.length):oK (mR L i):=by
 have c:=xe a;refine ⟨OR h.ok a,by rw [j0];have:=h.len;omega,?_,fun e g=>h.nm e (c.mem_iff.1 (List.mem_cons_of_mem _ g))⟩;have:=(c.map aQ.nm).nodup_iff.2 h.nd;rw [List.map_cons,List.nodup_cons] at this;exact this.2
structure je (n:Nat) (T:Tr) (z:Nat->Int):Prop where
 root:∃ L,T 1=some (.dir L)
 pK:∀ id L,T id=some (.dir L)->oK L
 files:∀ id f,T id=some (.file f)->f.kd=1
 ref:∀ id,(refs n T id:Int)=Cq id (T id)+z id
 out:∀ id,n<=id->T id=none
section
variable {n d id i:Nat} {T:Tr} {L:List aQ} {nm:List UInt8} {z:Nat->Int} {f f':AF}
theorem Tidy.w (h:Tidy n T):je n T fun _=>0:=⟨h.root,h.pK,h.files,fun id=>by rw [h.ref id];omega,h.out⟩
theorem je.tidy (h:je n T z) (a:∀ id,z id=0):Tidy n T:=⟨h.root,h.pK,h.files,fun id=>by rw [h.ref id,a];omega,h.out⟩
theorem je.lt (h:je n T z) {x:tN} (a:T id=W x):id<n:=by
 by_cases c:id<n
 .exact c
 .rw [h.out id (by omega)] at a;cases a
theorem je.set (h:je n T z) {M:List aQ} (g:T d=W (.dir L)) (r:oK M) {m:Nat->Int} (u:∀ x,((M.countP fun e=>e.nd == x:Nat):Int)-((L.countP fun e=>e.nd == x:Nat):Int)=m x-z x):je n (fu T d M) m:=by
 have a:∀ x,fu T d M x=if x=d then W (.dir M) else T x:=fun x=>rfl
 refine ⟨?_,fun x N c=>?_,fun x f j=>?_,fun x=>?_,fun x t=>?_⟩
 .obtain ⟨o,q⟩:=h.root
  rw [a]
  by_cases e:1=d
  .exact ⟨_,if_pos e⟩
  .rw [if_neg e];exact ⟨o,q⟩
 .rw [a] at c
  split at c
  .cases c;exact r
  .exact h.pK _ _ c
 .rw [a] at j
  split at j
  .cases j
  .exact h.files _ _ j
 .have l:=rp (T:=T) (h.lt g) (W (.dir M)) x
  rw [g] at l;simp only [eX] at l;have A:=u x;have y:=h.ref x
  have s:Cq x (fu T d M x)=Cq x (T x):=by
   rw [a]
   by_cases e:x=d
   .subst e;rw [if_pos rfl,g];rfl
   .rw [if_neg e]
  rw [s];unfold fu;omega
 .rw [a,if_neg (by have:=h.lt g;omega)]
  exact h.out x t
theorem je.add (h:je n T z) (c:T d=W (.dir L)) (a:oK (L++[⟨id,nm⟩])):je n (fu T d (L++[⟨id,nm⟩])) fun x=>z x+if x=id then 1 else 0:=by
 refine h.set c a fun x=>?_;rw [List.countP_append]
 by_cases e:x=id
 .subst e;simp;omega
 .have:¬ id=x:=Ne.symm e
  simp [e,this]
theorem je.rm (h:je n T z) (a:T d=W (.dir L)) (c:i<L.length):je n (fu T d (mR L i)) fun x=>z x-if x=(L[i]).nd then 1 else 0:=by
 refine h.set a ((h.pK _ _ a).rm c) fun x=>?_;have:=(xe c).countP_eq (fun e=>e.nd == x);rw [List.countP_cons] at this
 by_cases e:x=(L[i]).nd
 .subst e;simp at this ⊢;omega
 .have g:¬ (L[i]).nd=x:=Ne.symm e
  simp [g] at this;simp [e];omega
theorem je.leaf (h:je n T z) (j:T id=W y) (s:eX (W y)=[]) (t:eX y'=[]) (o:id≠1) (r:∀ L,y'≠W (.dir L)) (u:∀ f,y'=W (.file f)->f.kd=1):je n (dp T id y') fun x=>z x+if x=id then Cq id (W y)-Cq id y' else 0:=by
 have a:∀ x,dp T id y' x=if x=id then y' else T x:=fun x=>rfl
 refine ⟨?_,fun x N c=>?_,fun x f g=>?_,fun x=>?_,fun x A=>?_⟩
 .obtain ⟨m,q⟩:=h.root
  exact ⟨m,by rw [a,if_neg (Ne.symm o)];exact q⟩
 .rw [a] at c
  split at c
  .exact absurd c (r N)
  .exact h.pK _ _ c
 .rw [a] at g
  split at g
  .exact u f g
  .exact h.files _ _ g
 .have l:=rp (T:=T) (h.lt j) y' x
  rw [j,s,t] at l;simp only [List.countP_nil,Nat.add_zero] at l;rw [l,a,h.ref x]
  by_cases e:x=id
  .subst e;rw [if_pos rfl,if_pos rfl,j];omega
  .rw [if_neg e,if_neg e];omega
 .rw [a,if_neg (by have:=h.lt j;omega)]
  exact h.out x A
end
theorem uI (T:Tr) (nm:List UInt8):∀ (e:List (List UInt8)) (id:Nat),(aN T id (e++[nm])).1=0->(aN T id e).1=0/\(dZ (T (aN T id e).2) nm).1=0/\(aN T id (e++[nm])).2=(dZ (T (aN T id e).2) nm).2
 | [],id,h=>by
  by_cases c:(dZ (T id) nm).1=0
  .rw [List.nil_append,gX c] at *
   exact ⟨rfl,c,rfl⟩
  .rw [List.nil_append,qY c] at h
   exact absurd h c
 | a :: e,id,h=>by
  rw [List.cons_append] at h ⊢
  by_cases c:(dZ (T id) a).1=0
  .rw [gX c] at h ⊢
   rw [gX c];exact uI T nm e _ h
  .rw [qY c] at h
   exact absurd h c
theorem CT {nm:List UInt8} (h:(dZ y' nm).1=0):∃ L i,y'=W (.dir L)/\iX L nm=W i/\(dZ y' nm).2=(L.getD i aQ.no).nd:=by
 cases y' with
 | none=>exact absurd h (show ¬ (4:Int)=0 by decide)
 | some y'=>cases y' with
  | file f=>exact absurd h (show ¬ (8:Int)=0 by decide)
  | dir L=>
   cases a:iX L nm with
   | none=>rw [mn a] at h;exact absurd h (show ¬ (5:Int)=0 by decide)
   | some i=>exact ⟨L,i,rfl,a,by rw [iU a]⟩
theorem ym {T:Tr} {ps:List (List UInt8)} (r:ps≠[]) (h:(aN T 1 ps).1=0):(aN T 1 ps.dropLast).1=0/\∃ L i,∃ c:i<L.length,T (cK T ps)=W (.dir L)/\iX L (bW ps)=W i/\(L[i]).nd=(aN T 1 ps).2:=by
 obtain ⟨a,nm,rfl⟩:∃ a nm,ps=a++[nm]:=by
  rcases N1 ps with h|⟨M,z,h⟩
  .exact absurd h r
  .exact ⟨M,z,by rw [h,O1]⟩
 obtain ⟨l,m,o⟩:=uI T nm a 1 h;obtain ⟨L,i,g,e,j⟩:=CT m;have q:bW (a++[nm])=nm:=by unfold bW;simp [A1]
 have c:=vB e;unfold cK;rw [List.dropLast_concat,q,o,j];exact ⟨l,L,i,c,g,e,by rw [A1,D1 c];rfl⟩
section
variable {n d id i:Nat} {T:Tr} {L:List aQ} {f:AF}
theorem Tidy.Dn (h:Tidy n T) (a:T d=W (.dir L)) {e:aQ} (m:e ∈ L):e.nd≠1:=fun j=>by
 have o:=wC (h.lt a) a m;rw [j] at o;obtain ⟨c,l⟩:=h.root;have:=h.ref 1;rw [l] at this;have g:Cq 1 (W (.dir c))=0:=rfl;rw [g] at this;omega
def s4 (T:Tr) (d id:Nat) (L:List aQ) (i:Nat):Tr:=Go.SL.dp (fu T d (mR L i)) id U
theorem Tidy.gone (h:Tidy n T) (a:T d=W (.dir L)) (c:i<L.length) (j:(L[i]).nd=id) (l:T id=W y) (o:eX (W y)=[]) (s:Cq id (W y)=1):Tidy n (s4 T d id L i):=by
 have m:=h.Dn a (K1 c);rw [j] at m
 have t:id≠d:=by
  rintro rfl;rw [a] at l;cases l
  have:L=[]:=o;subst this;simp at c
 have u:fu T d (mR L i) id=W y:=by unfold fu;rw [aJ _ _ t];exact l
 have r:=(h.w.rm a c).leaf (y':=U) u o rfl m (fun L e=>by cases e) (fun g e=>by cases e);refine r.tidy fun x=>?_
 by_cases e:x=id
 .subst e;rw [s];simp [j,Cq]
 .have q:¬ x=(L[i]).nd:=by rw [j];exact e
  simp [e,q]
def zR (T:Tr) (d id:Nat) (L:List aQ) (i:Nat) (f:AF):Tr:=Go.SL.dp (fu T d (mR L i)) id (W (.file { f with lk:=f.lk-1 }))
theorem Tidy.less (h:Tidy n T) (c:T d=W (.dir L)) (l:i<L.length) (j:(L[i]).nd=id) (a:T id=W (.file f)):Tidy n (zR T d id L i f):=by
 have r:id≠d:=by rintro rfl;rw [c] at a;cases a
 have s:fu T d (mR L i) id=W (.file f):=by unfold fu;rw [aJ _ _ r];exact a
 have o:id≠1:=by have:=h.Dn c (K1 l);rwa [j] at this
 have q:=(h.w.rm c l).leaf (y':=W (.file { f with lk:=f.lk-1 })) s rfl rfl o (fun L e=>by cases e) (fun g e=>by cases e;exact (h.files _ _ a:f.kd=1));refine q.tidy fun x=>?_
 by_cases e:x=id
 .subst e;simp [j,Cq];omega
 .have m:¬ x=(L[i]).nd:=by rw [j];exact e
  simp [e,m]
end
def iJ (T:Tr) (p:List UInt8):Int:=match aZ p with
 | none=>1
 | some ps=>if (aN T 1 ps).1≠0 then (aN T 1 ps).1 else match T (aN T 1 ps).2 with
  | some (.dir M)=>if ps=[]\/M≠[] then 11 else 0
  | _=>8
def sf (T:Tr) (k:Nat) (p:List UInt8) (c:Int) (a:Tr) (e:Nat):Prop:=
 c=iJ T p/\(c=0->∃ ps id L i,aZ p=W ps/\ps≠[]/\aN T 1 ps=(0,id)/\T id=W (.dir [])/\T (cK T ps)=W (.dir L)/\iX L (bW ps)=W i/\a=s4 T (cK T ps) id L i/\e=k+aU L.length-aU (L.length-1)+bE (dR 1 []).pr)
theorem cV {p:List UInt8} {l:List (List UInt8)} (h:aZ p=W l):l.all cL=true/\l.length<=1000:=by
 unfold aZ at h
 split at h
 .cases h
 .rename_i a
  split at h
  .cases h;exact ⟨rfl,Nat.zero_le _⟩
  .split at h
   .rename_i c;cases h
    exact ⟨c,Nat.le_trans (kO _ _) (Nat.le_of_not_lt fun q=>a (.inl q))⟩
   .cases h
def cm (T:Tr) (p:List UInt8):Int × Nat:=match aZ p with
 | none=>(1,0)
 | some l=>aN T 1 l
theorem qA {T:Tr} {p:List UInt8} (h:aZ p=U):cm T p=(1,0):=by unfold cm;rw [h]
theorem eM {T:Tr} {p:List UInt8} {l:List (List UInt8)} (h:aZ p=W l):cm T p=aN T 1 l:=by unfold cm;rw [h]
def wg:Option tN->Int × Int × Int
 | some (.file f)=>(f.kd,f.lk,(f.sz:Int))
 | some (.dir L)=>(2,1,((32*L.length:Nat):Int))
 | none=>(0,0,0)
end Go.SL
namespace Go.Proofs.Cl
open Go.RowKit Go.SL Go.Proofs.Nn Go.Proofs.Ba Go.Proofs.Fs
attribute [local go_sem] Oper.semAt_some
theorem fR {v:Value} {l:List (List UInt8)} (a:R) (P:ai) (h:ag a (dJ v l*P)):Ab a v l:=by
 unfold dJ at h;rcases h.de with ⟨rfl,m,_,_⟩|⟨g,e,j,rfl,o,q,y,r,u⟩
 .exact .inl ⟨U,0,rfl,List.eq_nil_of_length_eq_zero m⟩
 .refine .inr ⟨g,0,e,rfl,o,q,fun k c=>?_⟩
  have s:=u.cell k;rw [Nat.zero_add,s,<- Array.getElem?_toList];have t:(strs l)[k]?=j.toList[k]?:=by rw [<- r,List.getElem?_take,if_pos (by omega)]
  rw [<- t];unfold strs;rw [List.getElem?_map,D1 c,A1,D1 c]
  rfl
theorem ee {v:Value} {l:List (List UInt8)} {e:R} {P:ai} (h:ag e (dJ v l*P)):∃ a c,v = .slice a l.length c:=aD h
def JB (c:Int) (X a:ai) (w:R) (e:Ending) (w':R):Prop:=aj w w'/\((c=0/\e = Q (.tuple #[])/\ag w' X)\/(c≠0/\e = .panicked (lG c)/\ag w' a))
def az (a:Nat) (p:List UInt8):ai:=pt a (V #[Y (str p)] 9 (0,0))
def fm (a:Nat) (z:Int × Int × Int):ai:=pt a (V #[Z .i64 z.1,Z .i64 z.2.1,Z .i64 z.2.2] 48 (0,0))
section
variable {n:Nat} {x:Fx n} {b v k pc sc:Nat} {T:Tr} {w:R} {F:ai} {p:List UInt8}
theorem Kz (C:Tidy n T) (h:ag w (vA x b v T k*(az pc p*(fm sc (0,0,0)*F)))) :
  Calls S 53 #[ay v,ay pc,ay sc] w (JB (cm T p).1 (vA x b v T k*(az pc p*(fm sc (wg (T (cm T p).2))*F))) (vA x b v T k*(az pc p*(fm sc (0,0,0)*F))) w):=by
 refine aH fun G0 c=>?_;have cp:w.cell? ⟨pc,0,U⟩=W (Y (str p)):=h.ah.cell 0;have d0:=ae h;have HT:=ae C
 cases g:aZ p with
 | none=>
  rw [qA g] at c;have H:=ae (lh (w:=w) g);clear h C g
  go_enter func53,ntmps53
  go_wp2_with fail
  refine H.out.mono ?_;rintro b0 w2 ⟨rfl,s,m⟩;exact ⟨rfl,c.out _ _ ⟨s,.inr ⟨by decide,rfl,m.dN d0.out⟩⟩⟩
 | some l=>
  rw [eM g] at c;obtain ⟨x0,hl⟩:=cV g;have H:=ae (dz (w:=w) g);have j:=fun h0=>C.walk l C.root.choose_spec h0;have O:=ae j;have HL:=ae hl;clear h C g j x0 hl
  go_enter func53,ntmps53
  go_wp2_with fail
  refine H.out.mono ?_;rintro b0 w2 ⟨u,rfl,s,m⟩;have o:=m.under d0.out;have hw:=ae (eR HT.out HL.out fR (o.ah));generalize aN T 1 l=F0 at *;obtain ⟨H0,id⟩:=F0;dsimp only at c O hw;clear cp H m o HL
  go_wp2_with fail
  refine hw.out.mono ?_;rintro b0 w3 ⟨he,d3,o⟩;clear hw;rcases he with ⟨rfl,rfl⟩|⟨hc,rfl⟩
  .obtain ⟨y,j⟩:=O.out rfl
   have hn:=ae (jH j o);have o0:wg (T id)=(y.af.kd,y.af.lk,(y.af.sz:Int)):=by rw [j];cases y <;> rfl
   have k0:y.af.kd=2->y.af.lk=1:=by cases y with
    | file f=>intro h;have:=HT.out.files _ _ j;exact absurd (this.symm.trans h) (by decide)
    | dir L=>intro _;rfl
   rw [o0] at c;generalize y.af=f at *;have P:=ae k0;clear o0 j O k0
   go_wp2_with fail
   refine hn.out.mono ?_;rintro b0 a ⟨z,rfl,p0,q0,r0,s0,d4,h4⟩;obtain ⟨hX,l0,i0⟩:=lA p0;have hB:=h4.alloc (V kX 73 (0,0));have Hz:=ae hB.heap;have B:=hB.setRow (cs':=ints z.l);have n0:((a.alloc (V kX 73 (0,0))).setRow a.heap.size (ints z.l)).cell? ⟨a.heap.size,0,U⟩=W (Z .i64 f.kd):=by rw [<- q0];exact B.cell 0
   have n1:((a.alloc (V kX 73 (0,0))).setRow a.heap.size (ints z.l)).cell? ⟨a.heap.size,1,U⟩=W (Z .i64 f.lk):=by rw [<- r0];exact B.cell 1
   have n2:((a.alloc (V kX 73 (0,0))).setRow a.heap.size (ints z.l)).cell? ⟨a.heap.size,2,U⟩=W (Z .i64 (f.sz:Int)):=by rw [<- s0];exact B.cell 2
   have N:=ae B;have D5:=ae ((((s.trans d3).trans d4).alloc (V kX 73 (0,0))).setRow a.heap.size (ints z.l));have g0:=ae l0;have e0:=ae i0;have HX:=ae hX;have G:=ae n0;have X:=ae n1;have N2:=ae n2;obtain ⟨q,I⟩:∃ q,f.kd=q:=⟨_,rfl⟩
   obtain ⟨E,J⟩:∃ E,f.lk=E:=⟨_,rfl⟩
   obtain ⟨r,c0⟩:∃ r,(f.sz:Int)=r:=⟨_,rfl⟩
   rw [I,J,c0] at c;rw [I] at G;rw [J] at X;rw [c0] at N2;rw [I,J] at P;clear hn hB B hX l0 i0 n0 n1 n2 s d3 d4 o h4 p0 q0 r0 s0 I J c0;unfold kX at *
   go_upto_region 1 with (refine wpList_store_row (by exact rfl) 73 (.tmp 4) (.tmp 10) (by exact rfl) a.heap.size (ints z.l) (by exact rfl) (by exact rfl) 73 _ (by with_reducible exact Hz.out) e0.out (by rw [HX.out];rfl) g0.out ?_)
   generalize D0:(a.alloc (V #[Z .i64 0,Z .i64 0,Z .i64 0,Z .i64 0,Z .i64 0,Z .i64 0,Z .i64 0,Z .i64 0,Z .i64 0,Z .i64 0,Z .i64 0,Z .i64 0,Z .i64 0,Z .i64 0,Z .i64 0,Z .i64 0,Z .i64 0,Z .i64 0,Z .i64 0,Z .i64 0] 73 (0,0))).setRow a.heap.size (ints z.l)=w5 at *;generalize a.heap.size=nb at *;have e:=N.out.to (by unfold fm;ac_rfl:_=pt sc (V #[Z .i64 0,Z .i64 0,Z .i64 0] 48 (0,0))*(pt nb (V (ints z.l) 73 (0,0))*(vA x b v T k*(dJ u l*(az pc p*F)))));have n0:=G.out;have n1:=X.out;have n2:=N2.out;have z0:w5.cell? ⟨sc,0,U⟩=W (Z .i64 0):=e.cell 0;have z1:w5.cell? ⟨sc,1,U⟩=W (Z .i64 0):=e.cell 1;have z2:w5.cell? ⟨sc,2,U⟩=W (Z .i64 0):=e.cell 2;have f0:=e.frozen 0;have f1:=e.frozen 1;have f2:=e.frozen 2;have t:=((e.setCell 0 (Z .i64 q)).setCell 1 (Z .i64 E)).setCell 2 (Z .i64 r);have m0:=(t.ah.cell 0).trans ((N.out.cell 0).symm.trans G.out);have y1:=t.cell 1;have g1:=t.frozen 1;have M:=ae t;have K:=ae (((D5.out.setCell ⟨sc,0,U⟩ (Z .i64 q)).setCell ⟨sc,1,U⟩ (Z .i64 E)).setCell ⟨sc,2,U⟩ (Z .i64 r));simp at y1;clear e t N D5 G X N2 D0 Hz g0 e0 HX
   by_cases m:q=2
   .subst m
    have u0:=P.out rfl;subst u0;have h8:=ae (M.out.setCell 1 (Z .i64 1));have D8:=ae (K.out.setCell ⟨sc,1,U⟩ (Z .i64 1));clear M K P
    go_wp2_with fail
    go_end0
    refine c.out _ _ ⟨D8.out,.inl ⟨rfl,rfl,?_⟩⟩;have A:=h8.out;simp only [R1,H1,E1] at A;exact (A.to (by unfold fm;ac_rfl:_=(pt nb (V (ints z.l) 73 (0,0))*dJ u l)*(vA x b v T k*(az pc p*(fm sc (2,1,r)*F))))).right
   .go_wp2_with fail
    go_end0
    refine c.out _ _ ⟨K.out,.inl ⟨rfl,rfl,?_⟩⟩;have A:=M.out;simp only [R1,H1,E1] at A;exact (A.to (by unfold fm;ac_rfl:_=(pt nb (V (ints z.l) 73 (0,0))*dJ u l)*(vA x b v T k*(az pc p*(fm sc (q,E,r)*F))))).right
  .exact ⟨rfl,c.out _ _ ⟨s.trans d3,.inr ⟨hc,rfl,(o.to (by ac_rfl:_=dJ u l*(vA x b v T k*(az pc p*(fm sc (0,0,0)*F))))).right⟩⟩⟩
end
def RR {n:Nat} (x:Fx n) (b v:Nat) (h:Int->Tr->Nat->Prop) (X:ai) (w:R) (e:Ending) (w':R):Prop:=
 ∃ c a g j,h c a g/\(c=0->Tidy n a)/\((c=0/\e = Q (.tuple #[]))\/(c≠0/\e = .panicked (lG c)))/\aj w w'/\j<=24/\ag w' (vA (x.more j) b v a g*X)
def mF (n:Nat) (T:Tr) (k:Nat) (kd:Int) (p:List UInt8) (c:Int) (a:Tr) (e:Nat):Prop:=
 c=jh T k p/\(c=0->∃ ps L id,aZ p=W ps/\T (cK T ps)=W (.dir L)/\iX L (bW ps)=U/\T id=U/\0<id/\id<n/\a=No T (cK T ps) id (bW ps) kd/\e=RV k L)
def aP (a:Nat) (z:Int):ai:=pt a (V #[Z .i64 z] 3 (0,0))
section
variable {n:Nat} {x:Fx n} {b v k pc kc:Nat} {T:Tr} {w w':R} {F:ai} {p:List UInt8}
theorem xD (e:Tidy n T) {ps:List (List UInt8)} (h:fh T ps=0):ps≠[]/\∃ L,T (cK T ps)=W (.dir L)/\iX L (bW ps)=U:=by
 unfold fh at h
 split at h
 .exact absurd h (by decide)
 .rename_i g
  split at h
  .rename_i a;exact absurd h a
  .rename_i a
   have a:(aN T 1 ps.dropLast).1=0:=by simpa using a
   obtain ⟨y,c⟩:=e.walk ps.dropLast e.root.choose_spec a;refine ⟨g,?_⟩;unfold cK
   cases y with
   | file f=>rw [c] at h;exact absurd h (show ¬ (8:Int)=0 by decide)
   | dir L=>
    refine ⟨L,c,?_⟩
    cases j:iX L (bW ps) with
    | none=>rfl
    | some i=>rw [c,iU j] at h;exact absurd h (show ¬ (6:Int)=0 by decide)
theorem EN {ps:List (List UInt8)} (h:ps.all cL=true) (a:ps≠[]):cL (bW ps)=true:=by
 have c:=List.length_pos_iff.2 a;unfold bW;rw [A1,D1 (by omega)];exact List.all_eq_true.1 h _ (K1 _)
theorem My {a:Int} (c0:a=1\/a=2) (hn:n<=3840) (ht:Tidy n T) (h:ag w (vA x b v T k*(az pc p*(aP kc a*F)))) :
  Calls S 66 #[ay v,ay pc,ay kc] w (RR x b v (mF n T k a p) (az pc p*(aP kc a*F)) w):=by
 refine aH fun l0 HQ=>?_;have cp:w.cell? ⟨pc,0,U⟩=W (Y (str p)):=h.ah.cell 0;have x0:=ae h;have M:=ae ht
 have F0:Hid (∀ c,c≠0->c=jh T k p->∀ j,j<=24->∀ (T':Tr) k' (w':R),aj w w'->ag w' (vA (x.more j) b v T' k'*(az pc p*(aP kc a*F)))->l0 (.panicked (lG c)) w'):=fun c g t j hj T' k' w' d l=>
  HQ.out _ _ ⟨c,T',k',j,⟨t,fun h=>absurd h g⟩,fun h=>absurd h g,.inr ⟨g,rfl⟩,d,hj,l⟩
 have N:Hid (∀ c,c≠0->c=jh T k p->∀ (w':R),aj w w'->ag w' (vA x b v T k*(az pc p*(aP kc a*F)))->l0 (.panicked (lG c)) w'):=fun c g t w' d l=>
  F0.out c g t 0 (by decide) T k w' d (qW (ag.sV (x:=x) 0 (l.to (by unfold vA;ac_rfl:_=dF x b (eY T) k*(pt v (bG b n)*(az pc p*(aP kc a*F)))))|>.to (by ac_rfl)))
 cases l:aZ p with
 | none=>
  have C:=ae (lh (w:=w) l);have g:(1:Int)=jh T k p:=by unfold jh;rw [l]
  clear h ht l
  go_enter func66,ntmps66
  go_wp2_with fail
  refine C.out.mono ?_;rintro e w2 ⟨rfl,H,P⟩;exact ⟨rfl,N.out 1 (by decide) g _ H (P.dN x0.out)⟩
 | some ps=>
  obtain ⟨L0,hl⟩:=cV l;have H0:jh T k p=if fh T ps≠0 then fh T ps else if oV (eX (T (cK T ps)))≠0 then 9 else if k=0 then 7 else jQ (k-1) (eX (T (cK T ps))) (bW ps):=by unfold jh;rw [l]
  have C:=ae (dz (w:=w) l);have HL:=ae hl;have h0:=ae H0;have HS:=ae l;have D0:=ae L0;clear h ht l hl H0 L0
  go_enter func66,ntmps66
  go_wp2_with fail
  refine C.out.mono ?_;rintro e w2 ⟨u,rfl,H,P⟩;have B:=(P.under x0.out).ah;have hw:=ae (uZ M.out HL.out (fun Z0 Y0 hW=>ee hW) fR B);clear cp C P B HL
  go_wp2_with fail
  refine hw.out.mono ?_;rintro e A ⟨t,d3,B⟩;clear hw;rcases t with ⟨p0,rfl⟩|⟨g,rfl⟩
  .obtain ⟨K0,L,s,E⟩:=xD M.out p0
   have f0:=EN D0.out K0;have d0:jh T k p=if oV L≠0 then 9 else if k=0 then 7 else jQ (k-1) L (bW ps):=by rw [h0.out,if_neg (by rw [p0];simp),s];rfl
   have G0:Hid (∀ id,T id=U->0<id->id<n->jQ (k-1) L (bW ps)=0->oV L=0->k≠0->∀ j,j<=24->∀ w',aj w w'->ag w' (vA (x.more j) b v (No T (cK T ps) id (bW ps) a) (RV k L)*(az pc p*(aP kc a*F)))->l0 (Q (.tuple #[])) w'):=fun id y J i2 q hr C j hj w' dd l=>by
    have N0:jh T k p=0:=by rw [d0,if_neg (by rw [hr];simp),if_neg C,q]
    have T0:L.length<3840:=by unfold jQ at q;rw [E] at q;simp only [Option.isSome_none,Bool.false_eq_true,if_false] at q;split at q;exact absurd q (by decide);omega
    exact HQ.out _ _ ⟨0,_,_,j,⟨N0.symm,fun _=>⟨ps,L,id,HS.out,s,E,y,J,i2,rfl,rfl⟩⟩,fun _=>M.out.make s y J i2 hn c0 f0 E T0,.inl ⟨rfl,rfl⟩,dd,hj,l⟩
   have hE:=M.out.pK _ _ s;obtain ⟨d,o0⟩:∃ d,cK T ps=d:=⟨_,rfl⟩
   obtain ⟨nm,q0⟩:∃ nm,bW ps=nm:=⟨_,rfl⟩
   rw [o0,q0] at G0 ⊢;rw [q0] at d0 f0 E;rw [o0] at s;have hB:=B.alloc (V #[Z .i64 (d:Int),Y (str nm)] 92 (0,0));have dB:=ae ((H.trans d3).alloc (V #[Z .i64 (d:Int),Y (str nm)] 92 (0,0)));have hC:=hB.to (by ac_rfl:_=vA x b v T k*(pt A.heap.size (V #[Z .i64 (d:Int),Y (str nm)] 92 (0,0))*(dJ u ps*(az pc p*(aP kc a*F)))));have hr:=ae (G4 (nm:=nm) s hC);have s0:(A.alloc (V #[Z .i64 (d:Int),Y (str nm)] 92 (0,0))).cell? ⟨A.heap.size,0,U⟩=W (Z .i64 (d:Int)):=hB.cell 0;have s1:(A.alloc (V #[Z .i64 (d:Int),Y (str nm)] 92 (0,0))).cell? ⟨A.heap.size,1,U⟩=W (Y (str nm)):=hB.cell 1;have HD:=ae s;have HE:=ae hE;have HN:=ae f0;have HP:=ae E;have g0:=ae d0;clear hB hC B H d3 s hE f0 E d0 o0 q0 p0 K0 h0 HS D0
   go_wp2_with fail
   generalize A.alloc (V #[Z .i64 (d:Int),Y (str nm)] 92 (0,0))=w4 at *;generalize A.heap.size=o at *;refine hr.out.mono ?_;rintro e w5 ⟨t,d5,X⟩;have D5:=ae (dB.out.trans d5);clear hr dB d5 s0 s1;rcases t with ⟨r0,rfl⟩|⟨g,rfl⟩
   .have G:=X.to (by unfold vA;ac_rfl:_=dF x b (eY T) k*(pt v (bG b n)*(aP kc a*(pt o (V #[Z .i64 (d:Int),Y (str nm)] 92 (0,0))*(dJ u ps*(az pc p*F))))))
    have k0:w5.cell? ⟨v,0,U⟩=W (ay b)/\w5.cell? ⟨v,1,U⟩=W (Z .i64 (n:Int))/\w5.cell? ⟨kc,0,U⟩=W (Z .i64 a):=⟨G.ah.cell 0,G.ah.cell 1,G.au.cell 0⟩
    have HV:=ae G
    by_cases b0:k=0
    .have e0:=ae fun w' (h':ag w' (dF x b (eY T) k*(pt v (bG b n)*(aP kc a*(pt o (V #[Z .i64 (d:Int),Y (str nm)] 92 (0,0))*(dJ u ps*(az pc p*F)))))))=>Qv h' c0 b0
     have i0:=ae fun w=>cT w 7 (by decide);have R0:Hid ((7:Int)=jh T k p):=by show _=_;rw [g0.out,if_neg (by rw [r0];simp),if_pos b0]
     clear G X
     go_wp2_with fail
     go_region_held3 (fun w'=>w'.cell? ⟨v,0,U⟩=W (ay b)/\w'.cell? ⟨v,1,U⟩=W (Z .i64 (n:Int))/\w'.cell? ⟨kc,0,U⟩=W (Z .i64 a))
      (first|exact k0|exact K|go_keep)
      (first|(go_at_call 68;refine (e0.out _ HV.out.drew).mono ?_;rintro e r ⟨rfl,O,m⟩;have K:r.cell? ⟨v,0,U⟩=W (ay b)/\r.cell? ⟨v,1,U⟩=W (Z .i64 (n:Int))/\r.cell? ⟨kc,0,U⟩=W (Z .i64 a):=⟨m.ah.cell 0,m.ah.cell 1,m.au.cell 0⟩))
     rename_i m0;clear m0 k0 K
     go_wp2_with fail
     refine (i0.out _).mono ?_;rintro e w7 ⟨rfl,rfl⟩;exact ⟨rfl,N.out 7 (by decide) R0.out _ (D5.out.drew.trans O) (m.to (by unfold vA;ac_rfl:_=(dJ u ps*pt o (V #[Z .i64 (d:Int),Y (str nm)] 92 (0,0)))*(vA x b v T k*(az pc p*(aP kc a*F))))).right⟩
    .have e0:=ae fun w' (h':ag w' (dF x b (eY T) k*(pt v (bG b n)*(aP kc a*(pt o (V #[Z .i64 (d:Int),Y (str nm)] 92 (0,0))*(dJ u ps*(az pc p*F)))))))=>Te h' c0 (by omega)
     have i0:=ae fun w=>cO w;clear G X
     go_wp2_with fail
     go_region_held3 (fun w'=>w'.cell? ⟨v,0,U⟩=W (ay b)/\w'.cell? ⟨v,1,U⟩=W (Z .i64 (n:Int))/\w'.cell? ⟨kc,0,U⟩=W (Z .i64 a))
      (first|exact k0|exact K|go_keep)
      (first|(go_at_call 68;refine (e0.out _ HV.out.drew).mono ?_;rintro e r ⟨id,rfl,y,J,i2,O,m⟩;have K:r.cell? ⟨v,0,U⟩=W (ay b)/\r.cell? ⟨v,1,U⟩=W (Z .i64 (n:Int))/\r.cell? ⟨kc,0,U⟩=W (Z .i64 a):=⟨m.ah.cell 0,m.ah.cell 1,m.au.cell 0⟩))
     rename_i m0;clear m0 k0 K
     have u0:T id=U:=by unfold eY at y;cases hx:T id with
      | none=>rfl
      | some a1=>rw [hx] at y;cases y
     have W0:d≠id:=by rintro rfl;rw [HD.out] at u0;cases u0
     rw [<- Fz c0,sE] at m;have h7:=m.to (by unfold vA;ac_rfl:_=vA (x.more 3) b v (dp T id (W (lV a))) (k-1)*(pt o (V #[Z .i64 (d:Int),Y (str nm)] 92 (0,0))*(dJ u ps*(az pc p*(aP kc a*F)))));have q:=ae (Ac (x:=x.more 3) (child:=id) J (by omega) (show dp T id (W (lV a)) d=W (.dir L) by rw [aJ _ _ W0];exact HD.out) HE.out HN.out h7);have s0:r.cell? ⟨o,0,U⟩=W (Z .i64 (d:Int)):=h7.ah.cell 0;have s1:r.cell? ⟨o,1,U⟩=W (Y (str nm)):=h7.ah.cell 1;have D6:=ae (D5.out.drew.trans O);clear e0 HV m h7 O y
     go_wp2_with fail
     refine (i0.out _).mono ?_;rintro e w7 ⟨rfl,rfl⟩
     go_wp2_with fail
     refine q.out.mono ?_;rintro e w8 hq;rcases hq with ⟨n0,rfl,d8,I⟩|⟨n0,rfl,d8,I⟩
     .have V0:fu (dp T id (W (lV a))) d (L++[⟨id,nm⟩])=No T d id nm a:=by unfold No fu;rw [HD.out];rfl
      rw [V0] at I;have S0:=ae (G0.out id u0 J i2 n0 r0 b0 8 (by decide) _ (D6.out.trans d8) (I.to (by unfold RV;ac_rfl:_=(dJ u ps*pt o (V #[Z .i64 (d:Int),Y (str nm)] 92 (0,0)))*(vA (x.more 8) b v (No T d id nm a) (RV k L)*(az pc p*(aP kc a*F))))).right);clear q I s0 s1
      go_wp2_with fail
      go_end0
      exact S0.out
     .exact ⟨rfl,F0.out _ n0 (by rw [g0.out,if_neg (by rw [r0];simp),if_neg b0]) 3 (by decide) _ _ _ (D6.out.trans d8) (I.to (by ac_rfl:_=(dJ u ps*pt o (V #[Z .i64 (d:Int),Y (str nm)] 92 (0,0)))*(vA (x.more 3) b v (dp T id (W (lV a))) (k-1)*(az pc p*(aP kc a*F))))).right⟩
   .have h9:oV L=9:=by unfold oV at g ⊢;split;rfl;rename_i X0;rw [if_neg X0] at g;exact absurd rfl g
    exact ⟨rfl,N.out _ g (by rw [g0.out,if_pos g,h9]) _ D5.out (X.to (by ac_rfl:_=(dJ u ps*pt o (V #[Z .i64 (d:Int),Y (str nm)] 92 (0,0)))*(vA x b v T k*(az pc p*(aP kc a*F))))).right⟩
  .exact ⟨rfl,N.out _ g (by rw [h0.out,if_pos g]) _ (H.trans d3) (B.to (by ac_rfl:_=dJ u ps*(vA x b v T k*(az pc p*(aP kc a*F))))).right⟩
end
end Go.Proofs.Cl

/- Steps. -/
import Derived.Test.YtebfaobobccikaaGreatDoorSP27
import Derived.Test.YtebfaobobccikaaGreatDoorSP18
import Derived.Test.YtebfaobobccikaaGreatDoorSP29
set_option linter.all false
set_option maxRecDepth 99999
set_option maxHeartbeats 0
open Go.SL
open Go.Value renaming int->Z,string->Y
open Go.Obj renaming cells->V
open Go.Ending renaming returned->Q
open Go renaming World->R
open Go.Proofs.Tryz renaming prog->S
open Option renaming some->W,none->U
open Go.Proofs.Tryz
open List renaming getD->Y0,getElem?_eq_getElem->Z0,set_cons_succ->A1,set_cons_zero->D1,getElem_mem->E1,length_dropLast->H1,length_singleton->K1,eq_nil_or_concat->L1,concat_eq_append->M1,setIfInBounds_toArray->N1
namespace Go.Proofs.Cl
open RowKit SL Proofs.Nn Proofs.Ba Proofs.Fs
attribute [local go_sem] Oper.semAt_some
variable {y:tX}
def vA {n:Nat} (x:Fx n) (b v:Nat) (T:Tr) (k:Nat):ai:=pt v (bN b n)*ea x b (ft T) k
def VJ (X:ai) (c:Int) (r:Value) (w:R) (e:Ending) (w':R):Prop:=
 ((c=0/\e = Q r)\/(c≠0/\e = .panicked (lG c)))/\aj w w'/\ag w' X
section
variable {n:Nat} {x:Fx n} {b v k id:Nat} {T:Tr} {w:R} {D F:ai} {nm:List UInt8} {ps:List (List UInt8)} {pv:Value}
theorem pK (h:ag w (vA x b v T k*F)):ag w (pt v (bN b n)*(ea x b (ft T) k*F)):=h.to (ax _ _ _)
theorem uF (h:ag w (pt v (bN b n)*(ea x b (ft T) k*F))):ag w (vA x b v T k*F):=h.to (ax _ _ _).symm
theorem fm (A:Tidy n T) (y:ps.length<=1000) (u:∀ q P,ag q (D*P)->BP q pv ps) (h:ag w (vA x b v T k*(D*F))) :
  Calls S 32 #[az v,pv] w (VJ (vA x b v T k*(D*F)) (aQ T 1 ps).1 (Z .i64 ((aQ T 1 ps).2:Nat)) w):=by
 refine aH fun H j=>?_;have g:=pK h;have C:w.cell? ⟨v,0,U⟩=W (az b):=g.cell 0;have E:w.cell? ⟨v,1,U⟩=W (Z .i64 (n:Int)):=g.cell 1;have m:=ae (JS A y u (g.to (by ac_rfl:_=ea x b (ft T) k*(D*(pt v (bN b n)*F)))));generalize aQ T 1 ps=p at *;obtain ⟨c,r⟩:=p;dsimp only at m j;clear h g A y u
 go_enter func32,ntmps32
 go_wp2_with fail
 refine m.out.mono ?_;rintro e B ⟨rfl,s,t⟩;have o:=ae (uF (t.to (by ac_rfl:_=pt v (bN b n)*(ea x b (ft T) k*(D*F)))));clear m t C E
 by_cases l:c=0
 .subst l
  have a:=cV B
  go_wp2_with fail
  refine a.mono ?_;rintro e G ⟨rfl,rfl⟩;clear a
  go_wp2_with fail
  exact j.out _ _ ⟨.inl ⟨rfl,rfl⟩,s,o.out⟩
 .have a:=dg B c l
  go_wp2_with fail
  refine a.mono ?_;rintro e G ⟨rfl,rfl⟩;clear a
  go_wp2_with fail
  exact ⟨rfl,j.out _ _ ⟨.inr ⟨l,rfl⟩,s,o.out⟩⟩
def WR (f:AF) (X:ai) (w:R) (e:Ending) (w':R):Prop:=
 ∃ y:Nd,e = Q (.agg (ints y.l))/\y.dr.length=16/\y.kd=f.kd/\y.lk=f.lk/\y.sz=f.sz/\aj w w'/\ag w' X
theorem jc (C:T id=W y) (h:ag w (vA x b v T k*F)) :
  Calls S 42 #[az v,Z .i64 (id:Int)] w (WR y.af (vA x b v T k*F) w):=by
 refine aH fun e0 H=>?_;have g:=(pK h).alloc (V ny 65 (0,0));have t:=ae ((aj.refl w).alloc (V ny 65 (0,0)));have P:(w.alloc (V ny 65 (0,0))).cell? ⟨v,0,U⟩=W (az b):=g.ah.cell 0;have X:(w.alloc (V ny 65 (0,0))).cell? ⟨v,1,U⟩=W (Z .i64 (n:Int)):=g.ah.cell 1;have B:=ae (E7 (g.to (by ac_rfl:_=ea x b (ft T) k*(pt w.heap.size (V ny 65 (0,0))*(pt v (bN b n)*F)))) (show ft T id=W y.af by unfold ft;rw [C];rfl));clear h g C;unfold ny at *
 go_enter func42,ntmps42
 go_wp2_with fail
 refine B.out.mono ?_;rintro e a ⟨z,rfl,E,b0,c0,d0,s,u⟩;have o:(ints z.l).size=20:=by rw [er,Nd.cells E]
 have l:=u.alloc (V #[Z .i64 0,Z .i64 0,Z .i64 0,Z .i64 0,Z .i64 0,Z .i64 0,Z .i64 0,Z .i64 0,Z .i64 0,Z .i64 0,Z .i64 0,Z .i64 0,Z .i64 0,Z .i64 0,Z .i64 0,Z .i64 0,Z .i64 0,Z .i64 0,Z .i64 0,Z .i64 0] 65 (0,0));have K:=ae l.heap;have A:=l.setRow (cs':=ints z.l);have j:=A.to (by ac_rfl:_=pt w.heap.size (V #[Z .i64 0,Z .i64 0,Z .i64 0,Z .i64 0,Z .i64 0,Z .i64 0,Z .i64 0,Z .i64 0,Z .i64 0,Z .i64 0,Z .i64 0,Z .i64 0,Z .i64 0,Z .i64 0,Z .i64 0,Z .i64 0,Z .i64 0,Z .i64 0,Z .i64 0,Z .i64 0] 65 (0,0))*(pt a.heap.size (V (ints z.l) 65 (0,0))*(pt v (bN b n)*(ea x b (ft T) k*F))));have M:=ae j.ah.heap;have N:=ae j.heap;have m:=j.setRow (cs':=ints z.l);have O:=ae m.heap;have J:=ae (uF m.right.right);have G:=ae ((((t.out.trans s).alloc (V #[Z .i64 0,Z .i64 0,Z .i64 0,Z .i64 0,Z .i64 0,Z .i64 0,Z .i64 0,Z .i64 0,Z .i64 0,Z .i64 0,Z .i64 0,Z .i64 0,Z .i64 0,Z .i64 0,Z .i64 0,Z .i64 0,Z .i64 0,Z .i64 0,Z .i64 0,Z .i64 0] 65 (0,0))).setRow a.heap.size (ints z.l)).setRow w.heap.size (ints z.l));have r:Hid ((ints z.l).all (·.oneCell')=true):=by simp [RowKit.Hid,ints,Value.oneCell']
 have c:Hid ((prog.info? 65).map (·.size)=W (ints z.l).size):=by show _=_;rw [o];exact bF
 have q:=ae o;have I:=ae fun w=>cV w;clear B u l A j m o s t P X
 go_wp2_with (refine wpList_store_row (by exact rfl) 65 (.tmp 5) (.tmp 14) (by exact rfl) a.heap.size (ints z.l) (by exact rfl) (by exact rfl) 65 _ (by with_reducible exact K.out) c.out (by rw [q.out];rfl) r.out ?_)
 generalize (a.alloc (V #[Z .i64 0,Z .i64 0,Z .i64 0,Z .i64 0,Z .i64 0,Z .i64 0,Z .i64 0,Z .i64 0,Z .i64 0,Z .i64 0,Z .i64 0,Z .i64 0,Z .i64 0,Z .i64 0,Z .i64 0,Z .i64 0,Z .i64 0,Z .i64 0,Z .i64 0,Z .i64 0] 65 (0,0))).setRow a.heap.size (ints z.l)=w3 at *;refine (I.out w3).mono ?_;rintro e w4 ⟨rfl,rfl⟩
 go_wp2_with (first
  | (refine wpList_load_row (by exact rfl) 65 (.tmp 5) (by exact rfl) a.heap.size (by exact rfl) 65 (ints z.l) (0,0) _ (by with_reducible exact M.out) underlying65 rfl (by with_reducible exact c.out) ?_)
  | (refine wpList_store_row (by exact rfl) 65 (.tmp 4) (.tmp 18) (by exact rfl) w.heap.size (ints z.l) (by exact rfl) (by exact rfl) 65 _ (by with_reducible exact N.out) c.out (by rw [q.out];rfl) r.out ?_))
 exact bodyPost_ret (results_cell_row rfl _ _ w.heap.size 65 (ints z.l) (0,0) _ rfl O.out underlying65 rfl c.out) rfl (H.out _ _ ⟨z,rfl,E,b0,c0,d0,G.out,J.out⟩)
 go_show
theorem vi {f:AF} (m:T id=W (.file f)) (g a:Nat) (h:ag w (vA x b v T k*F)) :
  Calls S 54 #[az v,Z .i64 (id:Int),Z .i64 (g:Int),Z .i64 (a:Int)] w fun e w'=>
   ∃ u,e = Q u/\aj w w'/\ag w' (bs 5 u (f.sub g a)*(vA x b v T k*F)):=by
 refine aH fun B r=>?_;have c:=pK h;have s:w.cell? ⟨v,0,U⟩=W (az b):=c.cell 0;have t:w.cell? ⟨v,1,U⟩=W (Z .i64 (n:Int)):=c.cell 1;have o:=ae (MZ (c.to (by ac_rfl:_=ea x b (ft T) k*(pt v (bN b n)*F))) (jD m) g a);clear h c m
 go_enter func54,ntmps54
 go_wp2_with fail
 refine o.out.mono ?_;rintro e A ⟨u,rfl,y,j⟩;have q:=ae (j.to (by unfold vA;ac_rfl:_=bs 5 u (f.sub g a)*(vA x b v T k*F)));clear o j s t;have l:=cV A
 go_wp2_with fail
 refine l.mono ?_;rintro e C ⟨rfl,rfl⟩;clear l
 go_wp2_with fail
 exact r.out _ _ ⟨u,rfl,y,q.out⟩
theorem df {p:List UInt8} {l:List (List UInt8)} (h:aU p=W l):Calls S 31 #[Y (str p)] w fun e w'=>∃ u,e = Q u/\aj w w'/\ag w' (dh u l*whole w):=by
 refine aH fun r m=>?_;have a:=ae (xZ w p);unfold FK at a;rw [h] at a;clear h
 go_enter func31,ntmps31
 go_wp2_with fail
 refine a.out.mono ?_;rintro e q ⟨u,rfl,o,c⟩;have j:=ae c;clear a c;have g:=cV q
 go_wp2_with fail
 refine g.mono ?_;rintro e s ⟨rfl,rfl⟩;clear g
 go_wp2_with fail
 exact m.out _ _ ⟨u,rfl,o,j.out⟩
theorem lR {p:List UInt8} (h:aU p=U):Calls S 31 #[Y (str p)] w fun e w'=>e = .panicked (lG 1)/\aj w w'/\ag w' (whole w):=by
 refine aH fun q l=>?_;have a:=ae (xZ w p);unfold FK at a;rw [h] at a;clear h
 go_enter func31,ntmps31
 go_wp2_with fail
 refine a.out.mono ?_;rintro e o ⟨u,rfl,m,c⟩;have j:=ae c.right;clear a c;have g:=dg o 1 (by decide)
 go_wp2_with fail
 refine g.mono ?_;rintro e r ⟨rfl,rfl⟩;clear g
 go_wp2_with fail
 exact ⟨rfl,l.out _ _ ⟨rfl,m,j.out⟩⟩
end
section
variable {n:Nat} {x:Fx n} {b v k id:Nat} {T:Tr} {w:R} {D F:ai} {nm:List UInt8} {ps:List (List UInt8)} {pv:Value}
def Vs (c:Int) (X:ai) (w:R) (e:Ending) (w':R):Prop:=e = .panicked (lG c)/\aj w w'/\ag w' X
theorem mn {z:Nd} (h:z.dr.length=16):(ints z.l).size=20/\(ints z.l).all (·.oneCell')=true/\(prog.info? 65).map (·.size)=W (ints z.l).size:=by
 have a:(ints z.l).size=20:=by rw [er,Nd.cells h]
 exact ⟨a,by simp [ints,Value.oneCell'],by rw [a];exact bF⟩
def VG (f:AF) (X:ai) (w:R) (e:Ending) (w':R):Prop:=(f.kd=1/\WR f X w e w')\/(f.kd≠1/\Vs 8 X w e w')
theorem lS (hy:T id=W y) (h:ag w (vA x b v T k*F)) :
  Calls S 33 #[az v,Z .i64 (id:Int)] w (VG y.af (vA x b v T k*F) w):=by
 refine aH fun e0 s=>?_;have N:=(h.alloc (V ny 65 (0,0))).ah;have K:=ae ((aj.refl w).alloc (V ny 65 (0,0)));have X:=ae (jc hy N);generalize y.af=f at *
 go_enter func33,ntmps33
 go_wp2_with fail
 refine X.out.mono ?_;rintro e a ⟨z,rfl,E,G,c0,d0,J,M⟩;obtain ⟨O,b0,P⟩:=mn E;have B:=M.alloc (V ny 65 (0,0));have u:=ae B.heap;have m:=B.setRow (cs':=ints z.l);have n0:((a.alloc (V ny 65 (0,0))).setRow a.heap.size (ints z.l)).cell? ⟨a.heap.size,0,U⟩=W (Z .i64 f.kd):=by rw [<- G];exact m.cell 0
 have I:=ae m.heap;have g:=ae (m.to (by unfold ny;ac_rfl:_=pt w.heap.size (V ny 65 (0,0))*(pt a.heap.size (V (ints z.l) 65 (0,0))*(vA x b v T k*F))));have q:=ae (((K.out.trans J).alloc (V ny 65 (0,0))).setRow a.heap.size (ints z.l));have l:=ae b0;have c:=ae P;have j:=ae O;obtain ⟨o,C⟩:∃ o,f.kd=o:=⟨_,rfl⟩
 rw [C] at n0;have t:=ae C;have H:=ae fun w=>dg w 8 (by decide)
 by_cases A:o=1
 .subst A
  go_wp2_with (first
   | (refine wpList_store_row (by exact rfl) 65 (.tmp 5) (.tmp 8) (by exact rfl) a.heap.size (ints z.l) (by exact rfl) (by exact rfl) 65 _ (by with_reducible exact u.out) c.out (by rw [j.out];rfl) l.out ?_)
   | (refine wpList_load_row (by exact rfl) 65 (.tmp 5) (by exact rfl) a.heap.size (by exact rfl) 65 (ints z.l) (0,0) _ (by with_reducible exact I.out) underlying65 rfl (by with_reducible exact c.out) ?_)
   | (refine wpList_store_row (by exact rfl) 65 (.tmp 4) (.tmp 13) (by exact rfl) w.heap.size (ints z.l) (by exact rfl) (by exact rfl) 65 _ (by with_reducible exact g.out.heap) c.out (by rw [j.out];rfl) l.out ?_))
  have r:=g.out.setRow (cs':=ints z.l);exact bodyPost_ret (results_cell_row rfl _ _ w.heap.size 65 (ints z.l) (0,0) _ rfl r.heap underlying65 rfl c.out) rfl (s.out _ _ (.inl ⟨t.out,z,rfl,E,G,c0,d0,q.out.setRow w.heap.size (ints z.l),r.right.right⟩))
 .go_wp2_with (first
   | (refine wpList_store_row (by exact rfl) 65 (.tmp 5) (.tmp 8) (by exact rfl) a.heap.size (ints z.l) (by exact rfl) (by exact rfl) 65 _ (by with_reducible exact u.out) c.out (by rw [j.out];rfl) l.out ?_)
   | fail)
  refine (H.out _).mono ?_;rintro e w4 ⟨rfl,rfl⟩;exact ⟨rfl,s.out _ _ (.inr ⟨by rw [t.out];exact A,rfl,q.out,g.out.right.right⟩)⟩
theorem Cw {c:Func} {e:Array Value} {w:R} {a:Nat} {r:Int} {nm:List UInt8} (g:c.results=#[.cell 4 83]:=by rfl) (j:e[4]?=W (az a)) (h:ag w (pt a (V #[Z .i64 r,Y (str nm)] 83 (0,0))*F)) :
  (results c e).run S w = .ok (.agg #[Z .i64 r,Y (str nm)]) w:=
 results_cell_row g _ _ a 83 _ (0,0) _ (by simp [j]) h.heap underlying83 rfl (by kernel_rfl)
theorem OB {q:R} {g o c m:Nat} (l:ps.length=m+1) (h:BP q (.slice (W ⟨g,o,U⟩) (m+1) c) ps):BP q (.slice (W ⟨g,o,U⟩) m c) ps.dropLast:=by
 rcases h with ⟨a,r,e,s⟩|⟨A,C,r,e,B,y,t⟩
 .rw [s] at l;simp at l
 .simp only [Value.slice.injEq,Option.some.injEq,Addr.mk.injEq] at e
  obtain ⟨⟨rfl,rfl,-⟩,-,rfl⟩:=e;have j:ps.dropLast.length=m:=by rw [H1,l];rfl
  refine .inr ⟨g,o,c,by rw [j],by rw [j];omega,y,fun k u=>?_⟩;rw [j] at u;have:=t k (by omega)
  rwa [show ps.dropLast.getD k []=ps.getD k [] by
   rw [Y0,Y0,List.getElem?_dropLast,if_pos (by omega)]]
theorem za (ht:Tidy n T) (hl:ps.length<=1000) (b0:ps≠[]) (O:∀ a P,ag a (D*P)->BP a pv ps) (h:ag w (vA x b v T k*(D*F))) :
  Calls S 81 #[az v,pv] w (VJ (vA x b v T k*(D*F)) (aQ T 1 ps.dropLast).1 (.agg #[Z .i64 ((aQ T 1 ps.dropLast).2:Nat),Y (str (bE ps))]) w):=by
 refine aH fun g0 q=>?_;have k0:=List.length_pos_iff.2 b0;obtain ⟨m,B⟩:∃ m,ps.length=m+1:=⟨ps.length-1,by omega⟩
 have X:∀ a P,ag a (D*P)->∃ g o c,pv = .slice (W ⟨g,o,U⟩) (m+1) c/\m+1<=c/\c<=maxLen/\a.cell? ⟨g,o+m,U⟩=W (Y (str (bE ps))):=fun a P l=>by
  rcases O a P l with ⟨h0,c,_,u⟩|⟨g,o,c,e,C,E,hc⟩
  .exact absurd u b0
  .rw [B] at e C
   refine ⟨g,o,c,e,C,E,?_⟩;have:=hc m (by omega);unfold bE
   rwa [B,Nat.add_sub_cancel]
 obtain ⟨g,o,c,rfl,C,E,-⟩:=X _ _ h.ah;have c0:∀ a P,ag a (D*P)->BP a (.slice (W ⟨g,o,U⟩) m c) ps.dropLast:=fun a P l=>OB B (O a P l)
 have y:∀ a P,ag a (D*P)->a.cell? ⟨g,o+m,U⟩=W (Y (str (bE ps))):=fun a P l=>by
  obtain ⟨g',o',c',e,-,-,u⟩:=X a P l;obtain ⟨⟨rfl,rfl,-⟩,-,rfl⟩:=e;exact u
 obtain ⟨nm,d0⟩:∃ nm,bE ps=nm:=⟨_,rfl⟩
 rw [d0] at q y;have hA:=(h.alloc (V #[Z .i64 0,.string ⟨#[]⟩] 83 (0,0)))
 have K:=ae ((aj.refl w).alloc (V #[Z .i64 0,.string ⟨#[]⟩] 83 (0,0)));have hk:=fun w' (h':ag w' (vA x b v T k*(D*(pt w.heap.size (V #[Z .i64 0,.string ⟨#[]⟩] 83 (0,0))*F))))=>fm (ps:=ps.dropLast) ht (by rw [H1];omega) c0 h';have N:=hA.to (by ac_rfl:_=vA x b v T k*(D*(pt w.heap.size (V #[Z .i64 0,.string ⟨#[]⟩] 83 (0,0))*F)));have q1:=y _ _ N.ah;generalize aQ T 1 ps.dropLast=p at *;obtain ⟨J,r⟩:=p;have I:=ae hk;have G:=ae N;have H:=ae y;have b2:(m:Int)<=(c:Int):=by omega
 have b3:(m:Int)<(m:Int)+1:=by omega
 have l0:((m:Int)+1)<=(c:Int):=by omega
 have m0:(c:Int)<=9223372036854775807:=by unfold maxLen at E;omega
 go_enter func81,ntmps81
 go_wp2_with fail
 generalize w.heap.size=rc at *
 by_cases t:J=0
 .subst t
  go_region_held3 (fun w'=>w'.cell? ⟨g,o+m,U⟩=W (Y (str nm)))
   (first|exact q1|exact q2|exact q3|go_keep)
   (first|(go_at_call 32;refine (I.out _ G.out.drew).mono ?_;rintro e w5 ⟨A,s,j⟩;obtain rfl:e = Q (Z .i64 (r:Int)):=A.elim (fun h=>h.2) (fun h=>absurd rfl h.1);have q2:=H.out _ _ j.ah;have z0:=j.au.cell 0;have z1:=j.au.cell 1;have f0:=j.au.frozen 0;have f1:=j.au.frozen 1;have q3:=H.out _ _ ((j.au.setCell 0 (Z .i64 (r:Int))).setCell 1 (Y (str nm))).au;simp at z0 z1))
  have M:=((j.au.setCell 0 (Z .i64 (r:Int))).setCell 1 (Y (str nm)))
  have H6:=ae M;have H7:=ae (q.out _ _ ⟨.inl ⟨rfl,rfl⟩,((K.out.drew.trans s).setCell _ _).setCell _ _,M.right⟩)
  go_wp2_with fail
  exact bodyPost_ret (Cw rfl rfl H6.out) rfl H7.out
 .refine wp_region_held_drew (S:=fun w'=>w'.cell? ⟨g,o+m,U⟩=W (Y (str nm))) (by kernel_rfl) q1 (fun i0=>?_)
  refine tk 0 ?_;refine tk 1 ?_;refine tk 2 ?_;refine tk 3 ?_;refine tk 5 ?_;refine tk 6 ?_;refine tk 7 ?_;refine tk 8 ?_;refine tr 4 fun e0 hK=>?_
  go_simp
  go_wp2_with (go_at_call 32;refine (I.out _ G.out.drew).mono ?_;rintro e w5 ⟨A,s,j⟩;obtain rfl:e = .panicked (lG J):=A.elim (fun h=>absurd h.1 t) (fun h=>h.2);exact ⟨rfl,q.out _ _ ⟨.inr ⟨t,rfl⟩,K.out.drew.trans s,(j.to (by ac_rfl:_=pt rc (V #[Z .i64 0,.string ⟨#[]⟩] 83 (0,0))*(vA x b v T k*(D*F)))).right⟩⟩)
def _root_.Go.SL.dR (T:Tr) (ps:List (List UInt8)):Int:=
 if ps=[] then 6 else if (aQ T 1 ps.dropLast).1≠0 then (aQ T 1 ps.dropLast).1 else if (dS (T (aQ T 1 ps.dropLast).2) (bE ps)).1=0 then 6 else if (dS (T (aQ T 1 ps.dropLast).2) (bE ps)).1=5 then 0 else (dS (T (aQ T 1 ps.dropLast).2) (bE ps)).1
def _root_.Go.SL.aZ (T:Tr) (ps:List (List UInt8)):Nat:=(aQ T 1 ps.dropLast).2
theorem qF (y:Tidy n T) (hl:ps.length<=1000) (hs:∀ t P,ag t (D*P)->∃ a c,pv = .slice a ps.length c) (hD:∀ t P,ag t (D*P)->BP t pv ps) (b0:ag w (vA x b v T k*(D*F))) :
  Calls S 46 #[az v,pv] w (VJ (vA x b v T k*(D*F)) (dR T ps) (.agg #[Z .i64 (aZ T ps:Nat),Y (str (bE ps))]) w):=by
 refine aH fun e0 g=>?_;obtain ⟨a,c,rfl⟩:=hs _ _ b0.ah;obtain ⟨m,I⟩:∃ m,ps.length=m:=⟨_,rfl⟩
 have hA:=b0.alloc (V #[Z .i64 0,.string ⟨#[]⟩] 83 (0,0));have G:=ae ((aj.refl w).alloc (V #[Z .i64 0,.string ⟨#[]⟩] 83 (0,0)));have C:=ae fun (w:R) (c:Int) (r:c≠0)=>dg w c r;have N:=ae (hA.to (by ac_rfl:_=vA x b v T k*(D*(pt w.heap.size (V #[Z .i64 0,.string ⟨#[]⟩] 83 (0,0))*F))))
 by_cases s:ps=[]
 .have c0:m=0:=by rw [<- I,s];rfl
  have H:dR T ps=6:=if_pos s;rw [H] at g;rw [I,c0]
  go_enter func46,ntmps46
  go_wp2_with fail
  refine (C.out _ 6 (by decide)).mono ?_;rintro e w3 ⟨rfl,rfl⟩;exact ⟨rfl,g.out _ _ ⟨.inr ⟨by decide,rfl⟩,G.out,(N.out.to (by ac_rfl:_=pt w.heap.size (V #[Z .i64 0,.string ⟨#[]⟩] 83 (0,0))*(vA x b v T k*(D*F)))).right⟩⟩
 .have d0:=ae (za y hl s hD N.out)
  have c0:¬ ((m:Int)=0):=by have:=List.length_pos_iff.2 s;omega
  have H:dR T ps=if (aQ T 1 ps.dropLast).1≠0 then (aQ T 1 ps.dropLast).1 else if (dS (T (aQ T 1 ps.dropLast).2) (bE ps)).1=0 then 6 else if (dS (T (aQ T 1 ps.dropLast).2) (bE ps)).1=5 then 0 else (dS (T (aQ T 1 ps.dropLast).2) (bE ps)).1:=if_neg s
  have J:=fun (h0:(aQ T 1 ps.dropLast).1=0)=>y.walk ps.dropLast (y.root.choose_spec) h0;rw [H] at g;unfold aZ at g;rw [I] at d0 ⊢;generalize aQ T 1 ps.dropLast=p at *;obtain ⟨cc,d⟩:=p;generalize bE ps=nm at *;have HY:=ae J;have HT:=ae y
  go_enter func46,ntmps46
  go_wp2_with fail
  refine d0.out.mono ?_;rintro e h ⟨he,O,h2⟩;generalize w.heap.size=l at *;rcases he with ⟨rfl,rfl⟩|⟨r,rfl⟩
  .obtain ⟨i0,J⟩:=HY.out rfl
   rw [if_neg (by decide)] at g;have hB:=h2.alloc (V #[Z .i64 (d:Int),Y (str nm)] 83 (0,0));have dB:=ae ((G.out.trans O).alloc (V #[Z .i64 (d:Int),Y (str nm)] 83 (0,0)));have q:=hB.to (by unfold vA;ac_rfl:_=pt v (bN b n)*(pt h.heap.size (V #[Z .i64 (d:Int),Y (str nm)] 83 (0,0))*(ea x b (ft T) k*(pt l (V #[Z .i64 0,.string ⟨#[]⟩] 83 (0,0))*(D*F)))));have K:(h.alloc (V #[Z .i64 (d:Int),Y (str nm)] 83 (0,0))).cell? ⟨v,0,U⟩=W (az b)/\(h.alloc (V #[Z .i64 (d:Int),Y (str nm)] 83 (0,0))).cell? ⟨v,1,U⟩=W (Z .i64 (n:Int))/\(h.alloc (V #[Z .i64 (d:Int),Y (str nm)] 83 (0,0))).cell? ⟨h.heap.size,0,U⟩=W (Z .i64 (d:Int))/\(h.alloc (V #[Z .i64 (d:Int),Y (str nm)] 83 (0,0))).cell? ⟨h.heap.size,1,U⟩=W (Y (str nm)):=⟨q.cell 0,q.cell 1,q.ah.cell 0,q.ah.cell 1⟩
   have K0:=ae K;have hf:=ae fun w' (h':ag w' (ea x b (ft T) k*(pt v (bN b n)*(pt h.heap.size (V #[Z .i64 (d:Int),Y (str nm)] 83 (0,0))*(pt l (V #[Z .i64 0,.string ⟨#[]⟩] 83 (0,0))*(D*F))))))=>zi (nm:=nm) HT.out J h';have HC:=ae q.au;generalize dS (T d) nm=p at *;obtain ⟨E,g0⟩:=p
   go_wp2_with fail
   generalize h.heap.size=sc at *;have K:=K0.out
   go_region_held3 (fun w'=>w'.cell? ⟨v,0,U⟩=W (az b)/\w'.cell? ⟨v,1,U⟩=W (Z .i64 (n:Int))/\w'.cell? ⟨sc,0,U⟩=W (Z .i64 (d:Int))/\w'.cell? ⟨sc,1,U⟩=W (Y (str nm)))
    (first|exact K|exact k1|go_keep)
    (first|(go_at_call 102;refine (hf.out _ HC.out.drew).mono ?_;rintro e A ⟨rfl,d4,o⟩;have k1:A.cell? ⟨v,0,U⟩=W (az b)/\A.cell? ⟨v,1,U⟩=W (Z .i64 (n:Int))/\A.cell? ⟨sc,0,U⟩=W (Z .i64 (d:Int))/\A.cell? ⟨sc,1,U⟩=W (Y (str nm)):=⟨o.ah.cell 0,o.ah.cell 1,o.au.cell 0,o.au.cell 1⟩))
   have j:=o.to (by unfold vA;ac_rfl:_=pt sc (V #[Z .i64 (d:Int),Y (str nm)] 83 (0,0))*(pt l (V #[Z .i64 0,.string ⟨#[]⟩] 83 (0,0))*(vA x b v T k*(D*F))));have s0:=j.cell 0;have s1:=j.cell 1;have z0:=j.ah.cell 0;have z1:=j.ah.cell 1;have f0:=j.ah.frozen 0;have f1:=j.ah.frozen 1;have h6:=ae ((j.ah.setCell 0 (Z .i64 (d:Int))).setCell 1 (Y (str nm)));have M:=ae j.right.right;have B:=ae (dB.out.drew.trans d4)
   by_cases u:E=0
   .subst u
    rw [if_pos rfl] at g
    go_wp2_with fail
    refine (C.out _ 6 (by decide)).mono ?_;rintro e w5 ⟨rfl,rfl⟩;exact ⟨rfl,g.out _ _ ⟨.inr ⟨by decide,rfl⟩,B.out,M.out⟩⟩
   .rw [if_neg u] at g
    by_cases X:E=5
    .subst X
     rw [if_pos rfl] at g;have H7:=ae (g.out _ _ ⟨.inl ⟨rfl,rfl⟩,(B.out.setCell ⟨l,0,U⟩ (Z .i64 (d:Int))).setCell ⟨l,1,U⟩ (Y (str nm)),h6.out.right.right⟩)
     go_wp2_with fail
     exact bodyPost_ret (Cw rfl rfl h6.out) rfl H7.out
    .rw [if_neg X] at g
     go_wp2_with fail
     refine (C.out _ E u).mono ?_;rintro e w5 ⟨rfl,rfl⟩;exact ⟨rfl,g.out _ _ ⟨.inr ⟨u,rfl⟩,B.out,M.out⟩⟩
  .refine ⟨rfl,g.out _ _ ⟨.inr ⟨?_,?_⟩,G.out.trans O,(h2.to (by ac_rfl:_=pt l (V #[Z .i64 0,.string ⟨#[]⟩] 83 (0,0))*(vA x b v T k*(D*F)))).right⟩⟩
   .rw [if_pos r];exact r
   .rw [if_pos r]
theorem ss:∀ {z:Nd} (_:z.dr.length=16) (w:R),(Instr.field 65 (.agg (ints z.l)) 0).run S w = .ok (Z .i64 z.kd) w/\(Instr.field 65 (.agg (ints z.l)) 1).run S w = .ok (Z .i64 z.lk) w/\(Instr.field 65 (.agg (ints z.l)) 2).run S w = .ok (Z .i64 z.sz) w
 | ⟨a,c,e,[_,_,_,_,_,_,_,_,_,_,_,_,_,_,_,_],rw⟩,_,w=>⟨by kernel_rfl,by kernel_rfl,by kernel_rfl⟩
def _root_.Go.SL.rq (L:List aN):Int:=if 122880<=32*L.length then 9 else 0
theorem IP {L:List aN} (G:T id=W (.dir L)) (h:ag w (vA x b v T k*F)) :
  Calls S 70 #[az v,.agg #[Z .i64 (id:Int),Y (str nm)]] w (VJ (vA x b v T k*F) (rq L) (.tuple #[]) w):=by
 refine aH fun J a=>?_;have A:=h.alloc (V #[Z .i64 (id:Int),Y (str nm)] 83 (0,0));have t:=ae ((aj.refl w).alloc (V #[Z .i64 (id:Int),Y (str nm)] 83 (0,0)));have C:=ae (jc G A.ah)
 go_enter func70,ntmps70
 go_wp2_with fail
 refine C.out.mono ?_;rintro e K ⟨z,rfl,H,N,O,I,s,u⟩;have B:=fun w=>(ss H w).2.2;have o:z.sz=((32*L.length:Nat):Int):=I;have m:=ae (u.to (by ac_rfl:_=pt w.heap.size (V #[Z .i64 (id:Int),Y (str nm)] 83 (0,0))*(vA x b v T k*F))).right;have l:=ae (t.out.trans s);have r:=ae fun w=>dg w 9 (by decide);unfold rq at a;obtain ⟨q,E⟩:∃ q,32*L.length=q:=⟨_,rfl⟩
 rw [E] at o a;obtain ⟨g,j⟩:∃ g:Int,g=(q:Int):=⟨_,rfl⟩
 rw [o,<- j] at B
 by_cases c:122880<=q
 .rw [if_pos c] at a
  have y:(122880:Int)<=g:=by omega
  clear c j
  go_wp2_with fail
  refine (r.out _).mono ?_;rintro e M ⟨rfl,rfl⟩;exact ⟨rfl,a.out _ _ ⟨.inr ⟨by decide,rfl⟩,l.out,m.out⟩⟩
 .rw [if_neg c] at a
  have y:g<122880:=by omega
  clear c j
  go_wp2_with fail
  go_end0
  exact a.out _ _ ⟨.inl ⟨rfl,rfl⟩,l.out,m.out⟩
def _root_.Go.SL.jh (k:Nat) (L:List aN) (nm:List UInt8):Int:=if (gn L nm).isSome then 6 else if 3840<=L.length then 9 else if k+aJ L.length<aJ (L.length+1) then 7 else 0
def _root_.Go.SL.ee (T:Tr) (d:Nat) (L:List aN):Tr:=du T d (W (.dir L))
theorem NU {a:Nat} {A:Nat->Option AF} {P:Int} {L:List aN} (c0:1<=a) (d0:a<=3839) (h:ag w (ea x b A k*F)) (H:A id=W (eY P L)) (K:td L) (hl:L.length=3840) (I:cL nm=true) (M:gn L nm=U) :
  Calls S 103 #[fV b n,Z .i64 (id:Int),Y (str nm),Z .i64 (a:Int)] w (YE x b A k 9 F w):=by
 refine aH fun b0 s=>?_;have G:=h.alloc (cP b n);have B:=ae ((aj.refl w).alloc (cP b n));have O:=ae (jk G.ah H (jg K (by omega)));obtain ⟨m,J⟩:∃ m,L.length=m:=⟨_,rfl⟩
 have q:=ae J;have N:=ae (sS M);have e0:(m:Int)=3840:=by omega
 have o:Hid (L.length<=3840):=by show L.length<=3840;omega
 have e:=ae fun w=>rP w nm;rw [I] at e;have g1:¬ ((a:Int)<1):=by omega
 have g2:¬ ((3839:Int)<(a:Int)):=by omega
 unfold fV
 go_enter func103,ntmps103
 go_wp2_with fail
 refine O.out.mono ?_;generalize w.heap.size=C at *;rintro r w2 ⟨u,rfl,t,j⟩;have c:=Go.Proofs.Fs.eo w2 u L nm _ o.out j;unfold qx at c;rw [N.out] at c;have g:=ae c;obtain ⟨X,uc,rfl⟩:=aF j;rw [q.out] at g ⊢
 go_wp2_with fail
 refine (e.out _).mono ?_;rintro r w3 ⟨rfl,rfl⟩
 go_wp2_with fail
 refine g.out.mono ?_;rintro r w3 ⟨rfl,E,y⟩;have l:=ae (E.to (by ac_rfl:_=(sl 80 2 (.slice X m uc) m (bC L)*pt C (cP b n))*(ea x b A k*F))).right
 go_wp2_with fail
 exact s.out _ _ ⟨by simp,(B.out.trans t).trans y,l.out⟩
def Q9 (x:Fx n) (b v:Nat) (T:Tr) (k id a:Nat) (nm:List UInt8) (L:List aN) (F:ai) (w:R) (e:Ending) (w':R):Prop:=
 (jh k L nm=0/\e = Q (.tuple #[])/\aj w w'/\ag w' (vA (x.more 5) b v (ee T id (L++[⟨a,nm⟩])) (k+aJ L.length-aJ (L.length+1))*F)) \/
 (jh k L nm≠0/\Vs (jh k L nm) (vA x b v T k*F) w e w')
theorem Lc {a:Nat} {L:List aN} (g:1<=a) (j:a<=3839) (h:ag w (ea x b (ft T) k*F)) (l:T id=W (.dir L)) (c:nz L) (m:cL nm=true) :
  Calls S 103 #[fV b n,Z .i64 (id:Int),Y (str nm),Z .i64 (a:Int)] w fun e w'=>
   (jh k L nm=0/\YE (x.more 5) b (ft (ee T id (L++[⟨a,nm⟩]))) (k+aJ L.length-aJ (L.length+1)) 0 F w e w')\/(jh k L nm≠0/\YE x b (ft T) k (jh k L nm) F w e w'):=by
 unfold jh
 cases o:gn L nm with
 | some i=>exact (JK g j h (lh l) c.ok c.len m o).mono fun e w' q=>.inr ⟨by simp,by simpa using q⟩
 | none=>
  by_cases s:3840<=L.length
  .rw [if_pos s]
   exact (NU g j h (lh l) c.ok (by have:=c.len;omega) m o).mono fun e w' q=>.inr ⟨by decide,q⟩
  .rw [if_neg s]
   by_cases r:k+aJ L.length<aJ (L.length+1)
   .rw [if_pos r]
    exact (Tn g j h (lh l) c.ok (by omega) m o r).mono fun e w' q=>.inr ⟨by decide,q⟩
   .rw [if_neg r]
    have:=mL g j h (lh l) c.ok (by omega) m o (by omega);rw [show du (ft T) id (W (eY 1 (L++[⟨a,nm⟩])))=ft (ee T id (L++[⟨a,nm⟩])) from qG T id (.dir (L++[(⟨a,nm⟩:aN)]))] at this;exact this.mono fun e w' q=>.inl ⟨rfl,q⟩
theorem vD {child:Nat} {L:List aN} (P:1<=child) (X:child<=3839) (hf:T id=W (.dir L)) (M:nz L) (hi:cL nm=true) (h:ag w (vA x b v T k*F)) :
  Calls S 47 #[az v,.agg #[Z .i64 (id:Int),Y (str nm)],Z .i64 (child:Int)] w (Q9 x b v T k id child nm L F w):=by
 refine aH fun b0 q=>?_;have J:=h.alloc (V #[Z .i64 (id:Int),Y (str nm)] 83 (0,0));have y:=ae ((aj.refl w).alloc (V #[Z .i64 (id:Int),Y (str nm)] 83 (0,0)));have j:=J.to (by unfold vA;ac_rfl:_=ea x b (ft T) k*(pt v (bN b n)*(pt w.heap.size (V #[Z .i64 (id:Int),Y (str nm)] 83 (0,0))*F)));have m:(w.alloc (V #[Z .i64 (id:Int),Y (str nm)] 83 (0,0))).cell? ⟨v,0,U⟩=W (az b)/\(w.alloc (V #[Z .i64 (id:Int),Y (str nm)] 83 (0,0))).cell? ⟨v,1,U⟩=W (Z .i64 (n:Int))/\(w.alloc (V #[Z .i64 (id:Int),Y (str nm)] 83 (0,0))).cell? ⟨w.heap.size,0,U⟩=W (Z .i64 (id:Int))/\(w.alloc (V #[Z .i64 (id:Int),Y (str nm)] 83 (0,0))).cell? ⟨w.heap.size,1,U⟩=W (Y (str nm)):=⟨j.ah.cell 0,j.ah.cell 1,j.au.cell 0,j.au.cell 1⟩
 have B:=ae fun w' (I:ag w' (ea x b (ft T) k*(pt v (bN b n)*(pt w.heap.size (V #[Z .i64 (id:Int),Y (str nm)] 83 (0,0))*F))))=>Lc P X I hf M hi;have E:=ae fun (w:R) (c:Int) (O:c≠0)=>dg w c O;have G:=ae fun w=>cV w;have u:=ae j;have H:=ae m;unfold Q9 at q;generalize jh k L nm=c at *
 go_enter func47,ntmps47
 go_wp2_with fail
 generalize w.heap.size=sc at *;have m:=H.out
 by_cases l:c=0
 .subst l
  go_region_held3 (fun w'=>w'.cell? ⟨v,0,U⟩=W (az b)/\w'.cell? ⟨v,1,U⟩=W (Z .i64 (n:Int))/\w'.cell? ⟨sc,0,U⟩=W (Z .i64 (id:Int))/\w'.cell? ⟨sc,1,U⟩=W (Y (str nm)))
   (first|exact m|exact t|go_keep)
   (first
    | (go_at_call 103;refine (B.out _ u.out.drew).mono ?_;rintro e g s;obtain ⟨rfl,r,a⟩:=s.elim (fun h=>h.2) (fun h=>absurd rfl h.1);have t:g.cell? ⟨v,0,U⟩=W (az b)/\g.cell? ⟨v,1,U⟩=W (Z .i64 (n:Int))/\g.cell? ⟨sc,0,U⟩=W (Z .i64 (id:Int))/\g.cell? ⟨sc,1,U⟩=W (Y (str nm)):=⟨a.ah.cell 0,a.ah.cell 1,a.au.cell 0,a.au.cell 1⟩)
    | (go_at_call 34;refine (G.out _).mono ?_;rintro e w5 ⟨rfl,rfl⟩))
  have C:=ae (y.out.drew.trans r);have o:=ae (a.to (by unfold vA;ac_rfl:_=pt sc (V #[Z .i64 (id:Int),Y (str nm)] 83 (0,0))*(vA (x.more 5) b v (ee T id (L++[⟨child,nm⟩])) (k+aJ L.length-aJ (L.length+1))*F))).right
  go_wp2_with fail
  go_end0
  exact q.out _ _ (.inl ⟨by simp,rfl,C.out,o.out⟩)
 .refine wp_region_held_drew (S:=fun w'=>w'.cell? ⟨v,0,U⟩=W (az b)/\w'.cell? ⟨v,1,U⟩=W (Z .i64 (n:Int))/\w'.cell? ⟨sc,0,U⟩=W (Z .i64 (id:Int))/\w'.cell? ⟨sc,1,U⟩=W (Y (str nm))) (by kernel_rfl) m (fun N=>?_)
  refine tk 0 ?_;refine tk 1 ?_;refine tk 2 ?_;refine tk 3 ?_;refine tk 4 ?_;refine tk 5 ?_;refine tk 6 ?_;refine tk 7 ?_;refine tk 8 ?_;refine tr 9 fun K A=>?_
  go_simp
  go_wp2_with (go_at_call 103;refine (B.out _ u.out.drew).mono ?_;rintro e g s;obtain ⟨rfl,r,a⟩:=s.elim (fun h=>absurd h.1 l) (fun h=>h.2))
  have t:g.cell? ⟨v,0,U⟩=W (az b)/\g.cell? ⟨v,1,U⟩=W (Z .i64 (n:Int))/\g.cell? ⟨sc,0,U⟩=W (Z .i64 (id:Int))/\g.cell? ⟨sc,1,U⟩=W (Y (str nm)):=⟨a.ah.cell 0,a.ah.cell 1,a.au.cell 0,a.au.cell 1⟩
  have o:=(a.to (by unfold vA;ac_rfl:_=pt sc (V #[Z .i64 (id:Int),Y (str nm)] 83 (0,0))*(vA x b v T k*F))).right;refine A.out _ _ t (fun N=>?_);refine tr 10 fun K A=>?_
  go_simp
  go_wp2_with (go_at_call 34;refine (E.out _ c l).mono ?_;rintro e w5 ⟨rfl,rfl⟩;exact ⟨rfl,q.out _ _ (.inr ⟨l,rfl,y.out.drew.trans r,o⟩)⟩)
theorem tM (s:Tidy n T) (O:ps.length<=1000) (X:ps≠[]) (K:∀ m P,ag m (D*P)->BP m pv ps) {L:List aN} {i:Nat} (c0:(aQ T 1 ps.dropLast).1=0) (r:T (aZ T ps)=W (.dir L)) (hp:gn L (bE ps)=W i) (h:ag w (vA x b v T k*(D*F))) :
  Calls S 36 #[az v,pv] w (VJ (vA (x.more 9) b v (ee T (aZ T ps) (jN L i)) (k+aJ L.length-aJ (L.length-1))*(D*F)) 0 (.tuple #[]) w):=by
 refine aH fun d0 A=>?_;have b0:=ae (za s O X K h);unfold aZ at *;generalize aQ T 1 ps.dropLast=p at *;obtain ⟨cc,d⟩:=p;generalize bE ps=nm at *;subst c0;have q:=s.ow _ _ r
 go_enter func36,ntmps36
 go_wp2_with fail
 refine b0.out.mono ?_;rintro e a ⟨N,E,I⟩;obtain rfl:=N.elim (fun h=>h.2) (fun h=>absurd rfl h.1);have J:=I.alloc (V #[Z .i64 (d:Int),Y (str nm)] 83 (0,0));have G:=ae (E.alloc (V #[Z .i64 (d:Int),Y (str nm)] 83 (0,0)));have g:=J.to (by unfold vA;ac_rfl:_=ea x b (ft T) k*(pt v (bN b n)*(pt a.heap.size (V #[Z .i64 (d:Int),Y (str nm)] 83 (0,0))*(D*F))));have l:(a.alloc (V #[Z .i64 (d:Int),Y (str nm)] 83 (0,0))).cell? ⟨v,0,U⟩=W (az b)/\(a.alloc (V #[Z .i64 (d:Int),Y (str nm)] 83 (0,0))).cell? ⟨v,1,U⟩=W (Z .i64 (n:Int))/\(a.alloc (V #[Z .i64 (d:Int),Y (str nm)] 83 (0,0))).cell? ⟨a.heap.size,0,U⟩=W (Z .i64 (d:Int))/\(a.alloc (V #[Z .i64 (d:Int),Y (str nm)] 83 (0,0))).cell? ⟨a.heap.size,1,U⟩=W (Y (str nm)):=⟨g.ah.cell 0,g.ah.cell 1,g.au.cell 0,g.au.cell 1⟩
 have M:=ae fun w' (H:ag w' (ea x b (ft T) k*(pt v (bN b n)*(pt a.heap.size (V #[Z .i64 (d:Int),Y (str nm)] 83 (0,0))*(D*F)))))=>FA H (lh r) q.ok q.len hp;have B:=ae fun w=>cV w;have y:=ae g;have C:=ae l
 go_wp2_with fail
 generalize a.heap.size=sc at *;have l:=C.out
 go_region_held3 (fun w'=>w'.cell? ⟨v,0,U⟩=W (az b)/\w'.cell? ⟨v,1,U⟩=W (Z .i64 (n:Int))/\w'.cell? ⟨sc,0,U⟩=W (Z .i64 (d:Int))/\w'.cell? ⟨sc,1,U⟩=W (Y (str nm)))
  (first|exact l|exact k1|go_keep)
  (first
   | (go_at_call 82;refine (M.out _ y.out.drew).mono ?_;rintro e j ⟨rfl,o,c⟩;have k1:j.cell? ⟨v,0,U⟩=W (az b)/\j.cell? ⟨v,1,U⟩=W (Z .i64 (n:Int))/\j.cell? ⟨sc,0,U⟩=W (Z .i64 (d:Int))/\j.cell? ⟨sc,1,U⟩=W (Y (str nm)):=⟨c.ah.cell 0,c.ah.cell 1,c.au.cell 0,c.au.cell 1⟩)
   | (go_at_call 34;refine (B.out _).mono ?_;rintro e w5 ⟨rfl,rfl⟩))
 rename_i e0;have t:=ae (G.out.drew.trans o);rw [show du (ft T) d (W (eY 1 (jN L i)))=ft (ee T d (jN L i)) from qG T d (.dir (jN L i))] at c;have u:=ae (c.to (by unfold vA;ac_rfl:_=pt sc (V #[Z .i64 (d:Int),Y (str nm)] 83 (0,0))*(vA (x.more 9) b v (ee T d (jN L i)) (k+aJ L.length-aJ (L.length-1))*(D*F)))).right;clear c o
 go_wp2_with fail
 go_end0
 exact A.out _ _ ⟨.inl ⟨rfl,rfl⟩,t.out,u.out⟩
end
end Go.Proofs.Cl
namespace Go.SL
open RowKit
def nD (kd:Int):tX:=if kd=1 then .file (fh 1) else .dir []
theorem GR {kd:Int} (h:kd=1\/kd=2):(nD kd).af=fh kd:=by
 rcases h with rfl|rfl
 .rfl
 .exact NT.symm
theorem BH (a:Int):dM (W (nD a))=[]:=by unfold nD;split <;> rfl
theorem QW {id:Nat} (h:id≠1) (a:Int):DB id (W (nD a))=1:=by
 unfold nD;split
 .rfl
 .show (if id=1 then (0:Int) else 1)=1;rw [if_neg h]
theorem nz.snoc {L:List aN} (h:nz L) {id:Nat} {nm:List UInt8} (m:1<=id) (o:id<=3839) (l:cL nm=true) (g:gn L nm=U) (r:L.length<3840):nz (L++[⟨id,nm⟩]):=by
 refine ⟨C5 h.ok (aN.mG.2 ⟨m,o,sV l⟩),by rw [List.length_append,K1];omega,?_,fun e c=>?_⟩
 .rw [List.map_append,List.nodup_append]
  refine ⟨h.nd,by simp,fun a q b j=>?_⟩;obtain ⟨e,c,rfl⟩:=List.mem_map.1 q;simp only [List.map_cons,List.map_nil,List.mem_singleton] at j;subst j;unfold gn at g;rw [List.findIdx?_eq_none_iff] at g;simpa using g e c
 .rcases List.mem_append.1 c with c|c
  .exact h.nm e c
  .rw [List.mem_singleton.1 c];exact l
theorem nz.nil:nz []:=⟨fun e a=>(by cases a),Nat.zero_le _,List.nodup_nil,fun e a=>(by cases a)⟩
variable {n d id:Nat} {T:Tr} {L:List aN} {nm:List UInt8}
theorem Tidy.PT (h:Tidy n T) (a:T id=U):id≠1:=by
 rintro rfl;obtain ⟨L,c⟩:=h.root;rw [c] at a;cases a
def OW (T:Tr) (d id:Nat) (nm:List UInt8) (a:Int):Tr:=Go.SL.du (du T id (W (nD a))) d (W (.dir (dM (T d)++[⟨id,nm⟩])))
theorem Tidy.make (h:Tidy n T) (l:T d=W (.dir L)) (m:T id=U) (y:0<id) (A:id<n) (O:n<=3840) {a:Int} (N:a=1\/a=2) (H:cL nm=true) (I:gn L nm=U) (G:L.length<3840):Tidy n (OW T d id nm a):=by
 have t:id≠d:=by rintro rfl;rw [l] at m;cases m
 have s:=h.PT m;have B:dM (T d)=L:=by rw [l];rfl
 have E:=h.lt l;unfold OW;rw [B];have o:∀ x,du (du T id (W (nD a))) d (W (.dir (L++[⟨id,nm⟩]))) x=if x=d then W (.dir (L++[⟨id,nm⟩])) else if x=id then W (nD a) else T x:=fun x=>rfl
 have J:∀ x,refs n (du (du T id (W (nD a))) d (W (.dir (L++[⟨id,nm⟩])))) x=refs n T x+if id=x then 1 else 0:=fun x=>by
  have r:=rk (T:=T) A (W (nD a)) x;have c:=rk (T:=du T id (W (nD a))) E (W (.dir (L++[⟨id,nm⟩]))) x;rw [m,BH] at r;rw [aE _ _ (Ne.symm t),l] at c;simp only [dM,List.countP_nil,List.countP_append,List.countP_cons,Nat.add_zero,Nat.zero_add] at r c
  by_cases q:id=x
  .rw [if_pos q];subst q;simp at c;omega
  .rw [if_neg q];simp [q] at c;omega
 refine ⟨?_,fun x M g=>?_,fun x f j=>?_,fun x=>?_,fun x K=>?_⟩
 .obtain ⟨u,C⟩:=h.root
  rw [o]
  by_cases e:1=d
  .exact ⟨_,if_pos e⟩
  .rw [if_neg e,if_neg (Ne.symm s)];exact ⟨u,C⟩
 .rw [o] at g
  split at g
  .cases g;exact (h.ow _ _ l).snoc y (by omega) H I G
  .split at g
   .have:M=[]:=by rw [<- BH a];injection g with g;rw [g];rfl
    rw [this];exact nz.nil
   .exact h.ow _ _ g
 .rw [o] at j
  split at j
  .cases j
  .split at j
   .unfold nD at j;split at j <;> cases j;rfl
   .exact h.files _ _ j
 .rw [J,o]
  have:=h.ref x
  by_cases e:x=d
  .subst e;rw [if_pos rfl,if_neg t];rw [l] at this;exact this
  .rw [if_neg e]
   by_cases c:x=id
   .subst c;rw [if_pos rfl,if_pos rfl,QW s];rw [m] at this;simp only [DB] at this;omega
   .rw [if_neg c,if_neg (Ne.symm c)];exact this
 .rw [o,if_neg (by omega),if_neg (by omega)];exact h.out x K
def gp (T:Tr) (k:Nat) (p:List UInt8):Int:=match aU p with
 | none=>1
 | some ps=>if dR T ps≠0 then dR T ps else if rq (dM (T (aZ T ps)))≠0 then 9 else if k=0 then 7 else jh (k-1) (dM (T (aZ T ps))) (bE ps)
def VS (k:Nat) (L:List aN):Nat:=k-1+aJ L.length-aJ (L.length+1)
end Go.SL
namespace Go.SL
open RowKit
variable {y:tX} {y':Option tX}
theorem ta {c:Type} (z:c):∀ (L:List c) (i:Nat),i<L.length->(L.set i z).Perm (z :: L.eraseIdx i)
 | a :: L,0,_=>by simp
 | a :: L,i+1,h=>by
  have:=ta z L i (by simpa using h);rw [A1,List.eraseIdx_cons_succ];exact (this.cons a).trans (List.Perm.swap z a _)
theorem yy {L:List aN} {i:Nat} (a:i<L.length):(L[i] :: jN L i).Perm L:=by
 have c:(L[i] :: L.eraseIdx i).Perm L:=by
  have:=ta L[i] L i a;rw [List.set_getElem_self] at this;exact this.symm
 refine List.Perm.trans (List.Perm.cons _ ?_) c
 obtain ⟨M,z,rfl⟩:∃ M z,L=M++[z]:=by
  rcases L1 L with rfl|⟨M,z,h⟩
  .simp at a
  .exact ⟨M,z,by rw [h,M1]⟩
 have e:(M++[z]).length-1=M.length:=by simp
 unfold jN;rw [e,show (M++[z]).getD M.length aN.no=z by simp [Y0]];rw [List.length_append,K1] at a
 by_cases h:i=M.length
 .subst h
  rw [List.set_append_right _ _ (Nat.le_refl _),Nat.sub_self,D1,List.take_left',List.eraseIdx_append_of_length_le (Nat.le_refl _)]
  .simp
  .rfl
 .rw [List.set_append_left _ _ (by omega),List.take_left' (by rw [List.length_set]),List.eraseIdx_append_of_lt_length (by omega)]
  exact (ta z M i (by omega)).trans (List.perm_append_singleton z _).symm
theorem nz.rm {L:List aN} (h:nz L) {i:Nat} (a:i<L.length):nz (jN L i):=by
 have c:=yy a;refine ⟨Qb h.ok a,by rw [gz];have:=h.len;omega,?_,fun e g=>h.nm e (c.mem_iff.1 (List.mem_cons_of_mem _ g))⟩;have:=(c.map aN.nm).nodup_iff.2 h.nd;rw [List.map_cons,List.nodup_cons] at this;exact this.2
structure jL (n:Nat) (T:Tr) (z:Nat->Int):Prop where
 root:∃ L,T 1=some (.dir L)
 ow:∀ id L,T id=some (.dir L)->nz L
 files:∀ id f,T id=some (.file f)->f.kd=1
 ref:∀ id,(refs n T id:Int)=DB id (T id)+z id
 out:∀ id,n<=id->T id=none
section
variable {n d id i:Nat} {T:Tr} {L:List aN} {nm:List UInt8} {z:Nat->Int} {f f':AF}
theorem Tidy.w (h:Tidy n T):jL n T fun _=>0:=⟨h.root,h.ow,h.files,fun id=>by rw [h.ref id];omega,h.out⟩
theorem jL.tidy (h:jL n T z) (a:∀ id,z id=0):Tidy n T:=⟨h.root,h.ow,h.files,fun id=>by rw [h.ref id,a];omega,h.out⟩
theorem jL.lt (h:jL n T z) {x:tX} (a:T id=W x):id<n:=by
 by_cases c:id<n
 .exact c
 .rw [h.out id (by omega)] at a;cases a
theorem jL.set (h:jL n T z) {M:List aN} (g:T d=W (.dir L)) (r:nz M) {m:Nat->Int} (u:∀ x,((M.countP fun e=>e.nd == x:Nat):Int)-((L.countP fun e=>e.nd == x:Nat):Int)=m x-z x):jL n (ee T d M) m:=by
 have a:∀ x,ee T d M x=if x=d then W (.dir M) else T x:=fun x=>rfl
 refine ⟨?_,fun x N c=>?_,fun x f j=>?_,fun x=>?_,fun x t=>?_⟩
 .obtain ⟨o,q⟩:=h.root
  rw [a]
  by_cases e:1=d
  .exact ⟨_,if_pos e⟩
  .rw [if_neg e];exact ⟨o,q⟩
 .rw [a] at c
  split at c
  .cases c;exact r
  .exact h.ow _ _ c
 .rw [a] at j
  split at j
  .cases j
  .exact h.files _ _ j
 .have l:=rk (T:=T) (h.lt g) (W (.dir M)) x
  rw [g] at l;simp only [dM] at l;have A:=u x;have y:=h.ref x
  have s:DB x (ee T d M x)=DB x (T x):=by
   rw [a]
   by_cases e:x=d
   .subst e;rw [if_pos rfl,g];rfl
   .rw [if_neg e]
  rw [s];unfold ee;omega
 .rw [a,if_neg (by have:=h.lt g;omega)]
  exact h.out x t
theorem jL.add (h:jL n T z) (c:T d=W (.dir L)) (a:nz (L++[⟨id,nm⟩])):jL n (ee T d (L++[⟨id,nm⟩])) fun x=>z x+if x=id then 1 else 0:=by
 refine h.set c a fun x=>?_;rw [List.countP_append]
 by_cases e:x=id
 .subst e;simp;omega
 .have:¬ id=x:=Ne.symm e
  simp [e,this]
theorem jL.rm (h:jL n T z) (a:T d=W (.dir L)) (c:i<L.length):jL n (ee T d (jN L i)) fun x=>z x-if x=(L[i]).nd then 1 else 0:=by
 refine h.set a ((h.ow _ _ a).rm c) fun x=>?_;have:=(yy c).countP_eq (fun e=>e.nd == x);rw [List.countP_cons] at this
 by_cases e:x=(L[i]).nd
 .subst e;simp at this ⊢;omega
 .have g:¬ (L[i]).nd=x:=Ne.symm e
  simp [g] at this;simp [e];omega
theorem jL.leaf (h:jL n T z) (j:T id=W y) (s:dM (W y)=[]) (t:dM y'=[]) (o:id≠1) (r:∀ L,y'≠W (.dir L)) (u:∀ f,y'=W (.file f)->f.kd=1):jL n (du T id y') fun x=>z x+if x=id then DB id (W y)-DB id y' else 0:=by
 have a:∀ x,du T id y' x=if x=id then y' else T x:=fun x=>rfl
 refine ⟨?_,fun x N c=>?_,fun x f g=>?_,fun x=>?_,fun x A=>?_⟩
 .obtain ⟨m,q⟩:=h.root
  exact ⟨m,by rw [a,if_neg (Ne.symm o)];exact q⟩
 .rw [a] at c
  split at c
  .exact absurd c (r N)
  .exact h.ow _ _ c
 .rw [a] at g
  split at g
  .exact u f g
  .exact h.files _ _ g
 .have l:=rk (T:=T) (h.lt j) y' x
  rw [j,s,t] at l;simp only [List.countP_nil,Nat.add_zero] at l;rw [l,a,h.ref x]
  by_cases e:x=id
  .subst e;rw [if_pos rfl,if_pos rfl,j];omega
  .rw [if_neg e,if_neg e];omega
 .rw [a,if_neg (by have:=h.lt j;omega)]
  exact h.out x A
end
theorem uY (T:Tr) (nm:List UInt8):∀ (e:List (List UInt8)) (id:Nat),(aQ T id (e++[nm])).1=0->(aQ T id e).1=0/\(dS (T (aQ T id e).2) nm).1=0/\(aQ T id (e++[nm])).2=(dS (T (aQ T id e).2) nm).2
 | [],id,h=>by
  by_cases c:(dS (T id) nm).1=0
  .rw [List.nil_append,iz c] at *
   exact ⟨rfl,c,rfl⟩
  .rw [List.nil_append,kK c] at h
   exact absurd h c
 | a :: e,id,h=>by
  rw [List.cons_append] at h ⊢
  by_cases c:(dS (T id) a).1=0
  .rw [iz c] at h ⊢
   rw [iz c];exact uY T nm e _ h
  .rw [kK c] at h
   exact absurd h c
theorem DI {nm:List UInt8} (h:(dS y' nm).1=0):∃ L i,y'=W (.dir L)/\gn L nm=W i/\(dS y' nm).2=(L.getD i aN.no).nd:=by
 cases y' with
 | none=>exact absurd h (show ¬ (4:Int)=0 by decide)
 | some y'=>cases y' with
  | file f=>exact absurd h (show ¬ (8:Int)=0 by decide)
  | dir L=>
   cases a:gn L nm with
   | none=>rw [ij a] at h;exact absurd h (show ¬ (5:Int)=0 by decide)
   | some i=>exact ⟨L,i,rfl,a,by rw [js a]⟩
theorem yA {T:Tr} {ps:List (List UInt8)} (r:ps≠[]) (h:(aQ T 1 ps).1=0):(aQ T 1 ps.dropLast).1=0/\∃ L i,∃ c:i<L.length,T (aZ T ps)=W (.dir L)/\gn L (bE ps)=W i/\(L[i]).nd=(aQ T 1 ps).2:=by
 obtain ⟨a,nm,rfl⟩:∃ a nm,ps=a++[nm]:=by
  rcases L1 ps with h|⟨M,z,h⟩
  .exact absurd h r
  .exact ⟨M,z,by rw [h,M1]⟩
 obtain ⟨l,m,o⟩:=uY T nm a 1 h;obtain ⟨L,i,g,e,j⟩:=DI m;have q:bE (a++[nm])=nm:=by unfold bE;simp [Y0]
 have c:=wK e;unfold aZ;rw [List.dropLast_concat,q,o,j];exact ⟨l,L,i,c,g,e,by rw [Y0,Z0 c];rfl⟩
section
variable {n d id i:Nat} {T:Tr} {L:List aN} {f:AF}
theorem Tidy.NL (h:Tidy n T) (a:T d=W (.dir L)) {e:aN} (m:e ∈ L):e.nd≠1:=fun j=>by
 have o:=vt (h.lt a) a m;rw [j] at o;obtain ⟨c,l⟩:=h.root;have:=h.ref 1;rw [l] at this;have g:DB 1 (W (.dir c))=0:=rfl;rw [g] at this;omega
def GV (T:Tr) (d id:Nat) (L:List aN) (i:Nat):Tr:=Go.SL.du (ee T d (jN L i)) id U
theorem Tidy.gone (h:Tidy n T) (a:T d=W (.dir L)) (c:i<L.length) (j:(L[i]).nd=id) (l:T id=W y) (o:dM (W y)=[]) (s:DB id (W y)=1):Tidy n (GV T d id L i):=by
 have m:=h.NL a (E1 c);rw [j] at m
 have t:id≠d:=by
  rintro rfl;rw [a] at l;cases l
  have:L=[]:=o;subst this;simp at c
 have u:ee T d (jN L i) id=W y:=by unfold ee;rw [aE _ _ t];exact l
 have r:=(h.w.rm a c).leaf (y':=U) u o rfl m (fun L e=>by cases e) (fun g e=>by cases e);refine r.tidy fun x=>?_
 by_cases e:x=id
 .subst e;rw [s];simp [j,DB]
 .have q:¬ x=(L[i]).nd:=by rw [j];exact e
  simp [e,q]
def BT (T:Tr) (d id:Nat) (L:List aN) (i:Nat) (f:AF):Tr:=Go.SL.du (ee T d (jN L i)) id (W (.file { f with lk:=f.lk-1 }))
theorem Tidy.less (h:Tidy n T) (c:T d=W (.dir L)) (l:i<L.length) (j:(L[i]).nd=id) (a:T id=W (.file f)):Tidy n (BT T d id L i f):=by
 have r:id≠d:=by rintro rfl;rw [c] at a;cases a
 have s:ee T d (jN L i) id=W (.file f):=by unfold ee;rw [aE _ _ r];exact a
 have o:id≠1:=by have:=h.NL c (E1 l);rwa [j] at this
 have q:=(h.w.rm c l).leaf (y':=W (.file { f with lk:=f.lk-1 })) s rfl rfl o (fun L e=>by cases e) (fun g e=>by cases e;exact (h.files _ _ a:f.kd=1));refine q.tidy fun x=>?_
 by_cases e:x=id
 .subst e;simp [j,DB];omega
 .have m:¬ x=(L[i]).nd:=by rw [j];exact e
  simp [e,m]
end
theorem cU {p:List UInt8} {l:List (List UInt8)} (h:aU p=W l):l.all cL=true/\l.length<=1000:=by
 unfold aU at h
 split at h
 .cases h
 .rename_i a
  split at h
  .cases h;exact ⟨rfl,Nat.zero_le _⟩
  .split at h
   .rename_i c;cases h
    exact ⟨c,Nat.le_trans (lv _ _) (Nat.le_of_not_lt fun q=>a (.inl q))⟩
   .cases h
def bG (T:Tr) (p:List UInt8):Int × Nat:=match aU p with
 | none=>(1,0)
 | some l=>aQ T 1 l
theorem su {T:Tr} {p:List UInt8} (h:aU p=U):bG T p=(1,0):=by unfold bG;rw [h]
theorem dN {T:Tr} {p:List UInt8} {l:List (List UInt8)} (h:aU p=W l):bG T p=aQ T 1 l:=by unfold bG;rw [h]
def qd:Option tX->Int × Int × Int
 | some (.file f)=>(f.kd,f.lk,(f.sz:Int))
 | some (.dir L)=>(2,1,((32*L.length:Nat):Int))
 | none=>(0,0,0)
end Go.SL
namespace Go.Proofs.Cl
open RowKit SL Proofs.Nn Proofs.Ba Proofs.Fs
attribute [local go_sem] Oper.semAt_some
theorem fE {v:Value} {l:List (List UInt8)} (a:R) (P:ai) (h:ag a (dh v l*P)):BP a v l:=by
 unfold dh at h;rcases h.dm with ⟨rfl,m,_,_⟩|⟨g,e,j,rfl,o,q,y,r,u⟩
 .exact .inl ⟨U,0,rfl,List.eq_nil_of_length_eq_zero m⟩
 .refine .inr ⟨g,0,e,rfl,o,q,fun k c=>?_⟩
  have s:=u.cell k;rw [Nat.zero_add,s,<- Array.getElem?_toList];have t:(strs l)[k]?=j.toList[k]?:=by rw [<- r,List.getElem?_take,if_pos (by omega)]
  rw [<- t];unfold strs;rw [List.getElem?_map,Z0 c,Y0,Z0 c]
  rfl
theorem dI {v:Value} {l:List (List UInt8)} {e:R} {P:ai} (h:ag e (dh v l*P)):∃ a c,v = .slice a l.length c:=aF h
def Jk (c:Int) (X a:ai) (w:R) (e:Ending) (w':R):Prop:=aj w w'/\((c=0/\e = Q (.tuple #[])/\ag w' X)\/(c≠0/\e = .panicked (lG c)/\ag w' a))
def ay (a:Nat) (p:List UInt8):ai:=pt a (V #[Y (str p)] 9 (0,0))
def fy (a:Nat) (z:Int × Int × Int):ai:=pt a (V #[Z .i64 z.1,Z .i64 z.2.1,Z .i64 z.2.2] 35 (0,0))
section
variable {n:Nat} {x:Fx n} {b v k pc sc:Nat} {T:Tr} {w:R} {F:ai} {p:List UInt8}
theorem MO (C:Tidy n T) (h:ag w (vA x b v T k*(ay pc p*(fy sc (0,0,0)*F)))) :
  Calls S 41 #[az v,az pc,az sc] w (Jk (bG T p).1 (vA x b v T k*(ay pc p*(fy sc (qd (T (bG T p).2))*F))) (vA x b v T k*(ay pc p*(fy sc (0,0,0)*F))) w):=by
 refine aH fun G0 c=>?_;have cp:w.cell? ⟨pc,0,U⟩=W (Y (str p)):=h.ah.cell 0;have d0:=ae h;have HT:=ae C
 cases g:aU p with
 | none=>
  rw [su g] at c;have H:=ae (lR (w:=w) g);clear h C g
  go_enter func41,ntmps41
  go_wp2_with fail
  refine H.out.mono ?_;rintro b0 w2 ⟨rfl,s,m⟩;exact ⟨rfl,c.out _ _ ⟨s,.inr ⟨by decide,rfl,m.ei d0.out⟩⟩⟩
 | some l=>
  rw [dN g] at c;obtain ⟨x0,hl⟩:=cU g;have H:=ae (df (w:=w) g);have j:=fun h0=>C.walk l C.root.choose_spec h0;have O:=ae j;have HL:=ae hl;clear h C g j x0 hl
  go_enter func41,ntmps41
  go_wp2_with fail
  refine H.out.mono ?_;rintro b0 w2 ⟨u,rfl,s,m⟩;have o:=m.under d0.out;have hw:=ae (fm HT.out HL.out fE (o.ah));generalize aQ T 1 l=F0 at *;obtain ⟨H0,id⟩:=F0;dsimp only at c O hw;clear cp H m o HL
  go_wp2_with fail
  refine hw.out.mono ?_;rintro b0 w3 ⟨he,d3,o⟩;clear hw;rcases he with ⟨rfl,rfl⟩|⟨hc,rfl⟩
  .obtain ⟨y,j⟩:=O.out rfl
   have hn:=ae (jc j o);have o0:qd (T id)=(y.af.kd,y.af.lk,(y.af.sz:Int)):=by rw [j];cases y <;> rfl
   have k0:y.af.kd=2->y.af.lk=1:=by cases y with
    | file f=>intro h;have:=HT.out.files _ _ j;exact absurd (this.symm.trans h) (by decide)
    | dir L=>intro _;rfl
   rw [o0] at c;generalize y.af=f at *;have P:=ae k0;clear o0 j O k0
   go_wp2_with fail
   refine hn.out.mono ?_;rintro b0 a ⟨z,rfl,p0,q0,r0,s0,d4,h4⟩;obtain ⟨hX,l0,i0⟩:=mn p0;have hB:=h4.alloc (V ny 65 (0,0));have Hz:=ae hB.heap;have B:=hB.setRow (cs':=ints z.l);have n0:((a.alloc (V ny 65 (0,0))).setRow a.heap.size (ints z.l)).cell? ⟨a.heap.size,0,U⟩=W (Z .i64 f.kd):=by rw [<- q0];exact B.cell 0
   have n1:((a.alloc (V ny 65 (0,0))).setRow a.heap.size (ints z.l)).cell? ⟨a.heap.size,1,U⟩=W (Z .i64 f.lk):=by rw [<- r0];exact B.cell 1
   have n2:((a.alloc (V ny 65 (0,0))).setRow a.heap.size (ints z.l)).cell? ⟨a.heap.size,2,U⟩=W (Z .i64 (f.sz:Int)):=by rw [<- s0];exact B.cell 2
   have N:=ae B;have D5:=ae ((((s.trans d3).trans d4).alloc (V ny 65 (0,0))).setRow a.heap.size (ints z.l));have g0:=ae l0;have e0:=ae i0;have HX:=ae hX;have G:=ae n0;have X:=ae n1;have N2:=ae n2;obtain ⟨q,I⟩:∃ q,f.kd=q:=⟨_,rfl⟩
   obtain ⟨E,J⟩:∃ E,f.lk=E:=⟨_,rfl⟩
   obtain ⟨r,c0⟩:∃ r,(f.sz:Int)=r:=⟨_,rfl⟩
   rw [I,J,c0] at c;rw [I] at G;rw [J] at X;rw [c0] at N2;rw [I,J] at P;clear hn hB B hX l0 i0 n0 n1 n2 s d3 d4 o h4 p0 q0 r0 s0 I J c0;unfold ny at *
   go_upto_region 1 with (refine wpList_store_row (by exact rfl) 65 (.tmp 4) (.tmp 10) (by exact rfl) a.heap.size (ints z.l) (by exact rfl) (by exact rfl) 65 _ (by with_reducible exact Hz.out) e0.out (by rw [HX.out];rfl) g0.out ?_)
   generalize D0:(a.alloc (V #[Z .i64 0,Z .i64 0,Z .i64 0,Z .i64 0,Z .i64 0,Z .i64 0,Z .i64 0,Z .i64 0,Z .i64 0,Z .i64 0,Z .i64 0,Z .i64 0,Z .i64 0,Z .i64 0,Z .i64 0,Z .i64 0,Z .i64 0,Z .i64 0,Z .i64 0,Z .i64 0] 65 (0,0))).setRow a.heap.size (ints z.l)=w5 at *;generalize a.heap.size=nb at *;have e:=N.out.to (by unfold fy;ac_rfl:_=pt sc (V #[Z .i64 0,Z .i64 0,Z .i64 0] 35 (0,0))*(pt nb (V (ints z.l) 65 (0,0))*(vA x b v T k*(dh u l*(ay pc p*F)))));have n0:=G.out;have n1:=X.out;have n2:=N2.out;have z0:w5.cell? ⟨sc,0,U⟩=W (Z .i64 0):=e.cell 0;have z1:w5.cell? ⟨sc,1,U⟩=W (Z .i64 0):=e.cell 1;have z2:w5.cell? ⟨sc,2,U⟩=W (Z .i64 0):=e.cell 2;have f0:=e.frozen 0;have f1:=e.frozen 1;have f2:=e.frozen 2;have t:=((e.setCell 0 (Z .i64 q)).setCell 1 (Z .i64 E)).setCell 2 (Z .i64 r);have m0:=(t.ah.cell 0).trans ((N.out.cell 0).symm.trans G.out);have y1:=t.cell 1;have g1:=t.frozen 1;have M:=ae t;have K:=ae (((D5.out.setCell ⟨sc,0,U⟩ (Z .i64 q)).setCell ⟨sc,1,U⟩ (Z .i64 E)).setCell ⟨sc,2,U⟩ (Z .i64 r));simp at y1;clear e t N D5 G X N2 D0 Hz g0 e0 HX
   by_cases m:q=2
   .subst m
    have u0:=P.out rfl;subst u0;have h8:=ae (M.out.setCell 1 (Z .i64 1));have D8:=ae (K.out.setCell ⟨sc,1,U⟩ (Z .i64 1));clear M K P
    go_wp2_with fail
    go_end0
    refine c.out _ _ ⟨D8.out,.inl ⟨rfl,rfl,?_⟩⟩;have A:=h8.out;simp only [N1,D1,A1] at A;exact (A.to (by unfold fy;ac_rfl:_=(pt nb (V (ints z.l) 65 (0,0))*dh u l)*(vA x b v T k*(ay pc p*(fy sc (2,1,r)*F))))).right
   .go_wp2_with fail
    go_end0
    refine c.out _ _ ⟨K.out,.inl ⟨rfl,rfl,?_⟩⟩;have A:=M.out;simp only [N1,D1,A1] at A;exact (A.to (by unfold fy;ac_rfl:_=(pt nb (V (ints z.l) 65 (0,0))*dh u l)*(vA x b v T k*(ay pc p*(fy sc (q,E,r)*F))))).right
  .exact ⟨rfl,c.out _ _ ⟨s.trans d3,.inr ⟨hc,rfl,(o.to (by ac_rfl:_=dh u l*(vA x b v T k*(ay pc p*(fy sc (0,0,0)*F))))).right⟩⟩⟩
end
def Tf {n:Nat} (x:Fx n) (b v:Nat) (h:Int->Tr->Nat->Prop) (X:ai) (w:R) (e:Ending) (w':R):Prop:=
 ∃ c a g j,h c a g/\(c=0->Tidy n a)/\((c=0/\e = Q (.tuple #[]))\/(c≠0/\e = .panicked (lG c)))/\aj w w'/\j<=24/\ag w' (vA (x.more j) b v a g*X)
def lY (n:Nat) (T:Tr) (k:Nat) (kd:Int) (p:List UInt8) (c:Int) (a:Tr) (e:Nat):Prop:=
 c=gp T k p/\(c=0->∃ ps L id,aU p=W ps/\T (aZ T ps)=W (.dir L)/\gn L (bE ps)=U/\T id=U/\0<id/\id<n/\a=OW T (aZ T ps) id (bE ps) kd/\e=VS k L)
def aD (a:Nat) (z:Int):ai:=pt a (V #[Z .i64 z] 3 (0,0))
section
variable {n:Nat} {x:Fx n} {b v k pc kc:Nat} {T:Tr} {w w':R} {F:ai} {p:List UInt8}
theorem sM (e:Tidy n T) {ps:List (List UInt8)} (h:dR T ps=0):ps≠[]/\∃ L,T (aZ T ps)=W (.dir L)/\gn L (bE ps)=U:=by
 unfold dR at h
 split at h
 .exact absurd h (by decide)
 .rename_i g
  split at h
  .rename_i a;exact absurd h a
  .rename_i a
   have a:(aQ T 1 ps.dropLast).1=0:=by simpa using a
   obtain ⟨y,c⟩:=e.walk ps.dropLast e.root.choose_spec a;refine ⟨g,?_⟩;unfold aZ
   cases y with
   | file f=>rw [c] at h;exact absurd h (show ¬ (8:Int)=0 by decide)
   | dir L=>
    refine ⟨L,c,?_⟩
    cases j:gn L (bE ps) with
    | none=>rfl
    | some i=>rw [c,js j] at h;exact absurd h (show ¬ (6:Int)=0 by decide)
theorem Ad {ps:List (List UInt8)} (h:ps.all cL=true) (a:ps≠[]):cL (bE ps)=true:=by
 have c:=List.length_pos_iff.2 a;unfold bE;rw [Y0,Z0 (by omega)];exact List.all_eq_true.1 h _ (E1 _)
theorem NX {a:Int} (h0:a=1\/a=2) (hn:n<=3840) (ht:Tidy n T) (y:gp T k p=0) (c0:ag w (vA x b v T k*(ay pc p*(aD kc a*F)))) :
  Calls S 69 #[az v,az pc,az kc] w (Tf x b v (lY n T k a p) (ay pc p*(aD kc a*F)) w):=by
 refine aH fun F0 HQ=>?_;have cp:w.cell? ⟨pc,0,U⟩=W (Y (str p)):=c0.ah.cell 0;have x0:=ae c0;have E:=ae ht
 cases l:aU p with
 | none=>
  have g:(1:Int)=gp T k p:=by unfold gp;rw [l]
  exact absurd (g.trans y) (by decide)
 | some ps=>
  obtain ⟨u0,hl⟩:=cU l;have p0:gp T k p=if dR T ps≠0 then dR T ps else if rq (dM (T (aZ T ps)))≠0 then 9 else if k=0 then 7 else jh (k-1) (dM (T (aZ T ps))) (bE ps):=by unfold gp;rw [l]
  have J:=ae (df (w:=w) l);have HL:=ae hl;have b0:=ae p0;have HS:=ae l;have n0:=ae u0;clear c0 ht l hl p0 u0
  go_enter func69,ntmps69
  go_wp2_with fail
  refine J.out.mono ?_;rintro e w2 ⟨u,rfl,d2,h2⟩;have t:=(h2.under x0.out).ah;have hw:=ae (qF E.out HL.out (fun W0 V0 hW=>dI hW) fE t);clear cp J h2 t HL
  go_wp2_with fail
  refine hw.out.mono ?_;rintro e o ⟨he,d3,t⟩;clear hw;rcases he with ⟨f0,rfl⟩|⟨g,rfl⟩
  .obtain ⟨q0,L,h,r⟩:=sM E.out f0
   have M:=Ad n0.out q0;have K:gp T k p=if rq L≠0 then 9 else if k=0 then 7 else jh (k-1) L (bE ps):=by rw [b0.out,if_neg (by rw [f0];simp),h];rfl
   have o0:Hid (∀ id,T id=U->0<id->id<n->jh (k-1) L (bE ps)=0->rq L=0->k≠0->∀ j,j<=24->∀ w',aj w w'->ag w' (vA (x.more j) b v (OW T (aZ T ps) id (bE ps) a) (VS k L)*(ay pc p*(aD kc a*F)))->F0 (Q (.tuple #[])) w'):=fun id m B O c N J j hj w' dd l=>by
    have H0:gp T k p=0:=by rw [K,if_neg (by rw [N];simp),if_neg J,c]
    have N0:L.length<3840:=by unfold jh at c;rw [r] at c;simp only [Option.isSome_none,Bool.false_eq_true,if_false] at c;split at c;exact absurd c (by decide);omega
    exact HQ.out _ _ ⟨0,_,_,j,⟨H0.symm,fun _=>⟨ps,L,id,HS.out,h,r,m,B,O,rfl,rfl⟩⟩,fun _=>E.out.make h m B O hn h0 M r N0,.inl ⟨rfl,rfl⟩,dd,hj,l⟩
   have hE:=E.out.ow _ _ h;obtain ⟨d,e0⟩:∃ d,aZ T ps=d:=⟨_,rfl⟩
   obtain ⟨nm,i0⟩:∃ nm,bE ps=nm:=⟨_,rfl⟩
   rw [e0,i0] at o0 ⊢;rw [i0] at K M r;rw [e0] at h;have I:=t.alloc (V #[Z .i64 (d:Int),Y (str nm)] 83 (0,0));have dB:=ae ((d2.trans d3).alloc (V #[Z .i64 (d:Int),Y (str nm)] 83 (0,0)));have hC:=I.to (by ac_rfl:_=vA x b v T k*(pt o.heap.size (V #[Z .i64 (d:Int),Y (str nm)] 83 (0,0))*(dh u ps*(ay pc p*(aD kc a*F)))));have N:=ae (IP (nm:=nm) h hC);have s0:(o.alloc (V #[Z .i64 (d:Int),Y (str nm)] 83 (0,0))).cell? ⟨o.heap.size,0,U⟩=W (Z .i64 (d:Int)):=I.cell 0;have s1:(o.alloc (V #[Z .i64 (d:Int),Y (str nm)] 83 (0,0))).cell? ⟨o.heap.size,1,U⟩=W (Y (str nm)):=I.cell 1;have P:=ae h;have HE:=ae hE;have HN:=ae M;have HP:=ae r;have X:=ae K;clear I hC t d2 d3 h hE M r K e0 i0 f0 q0 b0 HS n0
   go_wp2_with fail
   generalize o.alloc (V #[Z .i64 (d:Int),Y (str nm)] 83 (0,0))=w4 at *;generalize o.heap.size=s at *;refine N.out.mono ?_;rintro e w5 ⟨he,d5,h5⟩;have D5:=ae (dB.out.trans d5);clear N dB d5 s0 s1;rcases he with ⟨l0,rfl⟩|⟨g,rfl⟩
   .have A:=h5.to (by unfold vA;ac_rfl:_=ea x b (ft T) k*(pt v (bN b n)*(aD kc a*(pt s (V #[Z .i64 (d:Int),Y (str nm)] 83 (0,0))*(dh u ps*(ay pc p*F))))))
    have k0:w5.cell? ⟨v,0,U⟩=W (az b)/\w5.cell? ⟨v,1,U⟩=W (Z .i64 (n:Int))/\w5.cell? ⟨kc,0,U⟩=W (Z .i64 a):=⟨A.ah.cell 0,A.ah.cell 1,A.au.cell 0⟩
    have HV:=ae A
    by_cases g0:k=0
    .have K0:(7:Int)=gp T k p:=by rw [X.out,if_neg (by rw [l0];simp),if_pos g0]
     exact absurd (K0.trans y) (by decide)
    .have r0:=ae fun w' (h':ag w' (ea x b (ft T) k*(pt v (bN b n)*(aD kc a*(pt s (V #[Z .i64 (d:Int),Y (str nm)] 83 (0,0))*(dh u ps*(ay pc p*F)))))))=>VC h' h0 (by omega)
     have D0:=ae fun w=>cV w;clear A h5
     go_wp2_with fail
     go_region_held3 (fun w'=>w'.cell? ⟨v,0,U⟩=W (az b)/\w'.cell? ⟨v,1,U⟩=W (Z .i64 (n:Int))/\w'.cell? ⟨kc,0,U⟩=W (Z .i64 a))
      (first|exact k0|exact k1|go_keep)
      (first|(go_at_call 71;refine (r0.out _ HV.out.drew).mono ?_;rintro e C ⟨id,rfl,m,B,O,d6,q⟩;have k1:C.cell? ⟨v,0,U⟩=W (az b)/\C.cell? ⟨v,1,U⟩=W (Z .i64 (n:Int))/\C.cell? ⟨kc,0,U⟩=W (Z .i64 a):=⟨q.ah.cell 0,q.ah.cell 1,q.au.cell 0⟩))
     rename_i G0;clear G0 k0 k1
     have m0:T id=U:=by unfold ft at m;cases hx:T id with
      | none=>rfl
      | some X0=>rw [hx] at m;cases m
     have S0:d≠id:=by rintro rfl;rw [P.out] at m0;cases m0
     rw [<- GR h0,qG] at q;have G:=q.to (by unfold vA;ac_rfl:_=vA (x.more 3) b v (du T id (W (nD a))) (k-1)*(pt s (V #[Z .i64 (d:Int),Y (str nm)] 83 (0,0))*(dh u ps*(ay pc p*(aD kc a*F)))));have c:=ae (vD (x:=x.more 3) (child:=id) B (by omega) (show du T id (W (nD a)) d=W (.dir L) by rw [aE _ _ S0];exact P.out) HE.out HN.out G);have s0:C.cell? ⟨s,0,U⟩=W (Z .i64 (d:Int)):=G.ah.cell 0;have s1:C.cell? ⟨s,1,U⟩=W (Y (str nm)):=G.ah.cell 1;have D6:=ae (D5.out.drew.trans d6);clear r0 HV q G d6 m
     go_wp2_with fail
     refine (D0.out _).mono ?_;rintro e w7 ⟨rfl,rfl⟩
     go_wp2_with fail
     refine c.out.mono ?_;rintro e w8 hq;rcases hq with ⟨d0,rfl,d8,H⟩|⟨d0,rfl,d8,H⟩
     .have R0:ee (du T id (W (nD a))) d (L++[⟨id,nm⟩])=OW T d id nm a:=by unfold OW ee;rw [P.out];rfl
      rw [R0] at H;have L0:=ae (o0.out id m0 B O d0 l0 g0 8 (by decide) _ (D6.out.trans d8) (H.to (by unfold VS;ac_rfl:_=(dh u ps*pt s (V #[Z .i64 (d:Int),Y (str nm)] 83 (0,0)))*(vA (x.more 8) b v (OW T d id nm a) (VS k L)*(ay pc p*(aD kc a*F))))).right);clear c H s0 s1
      go_wp2_with fail
      go_end0
      exact L0.out
     .exact absurd ((by rw [X.out,if_neg (by rw [l0];simp),if_neg g0]:gp T k p=_).symm.trans y) d0
   .have h9:rq L=9:=by unfold rq at g ⊢;split;rfl;rename_i T0;rw [if_neg T0] at g;exact absurd rfl g
    exact absurd ((by rw [X.out,if_pos g]:gp T k p=9).symm.trans y) (by decide)
  .exact absurd ((by rw [b0.out,if_pos g]:gp T k p=_).symm.trans y) g
end
end Go.Proofs.Cl

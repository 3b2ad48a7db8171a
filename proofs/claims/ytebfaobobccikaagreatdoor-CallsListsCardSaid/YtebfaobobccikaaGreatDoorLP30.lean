/- Steps. -/
import Derived.Test.YtebfaobobccikaaGreatDoorLP28
import Derived.Test.YtebfaobobccikaaGreatDoorLP18
import Derived.Test.YtebfaobobccikaaGreatDoorLP29
set_option linter.all false
set_option maxRecDepth 99999
set_option maxHeartbeats 0
open Go.SL
open Go.Value renaming int->Z,string->Y
open Go.Obj renaming cells->V
open Go.Ending renaming returned->Q
open Go renaming World->R
open Go.Proofs.Tryz renaming prog->S
open Option renaming some->W,none->U
open Go.Proofs.Tryz
open List renaming getD->X0,getElem?_eq_getElem->Y0,set_cons_succ->Z0,set_cons_zero->A1,getElem_mem->B1,length_dropLast->D1,length_singleton->E1,eq_nil_or_concat->H1,concat_eq_append->K1,setIfInBounds_toArray->L1
namespace Go.Proofs.Cl
open RowKit SL Proofs.Nn Proofs.Ba Proofs.Fs
attribute [local go_sem] Oper.semAt_some
variable {y:tQ}
def vA {n:Nat} (x:Fx n) (b v:Nat) (T:Tr) (k:Nat):ai:=pt v (bT b n)*dS x b (fR T) k
def TN (X:ai) (c:Int) (r:Value) (w:R) (e:Ending) (w':R):Prop:=
 ((c=0/\e = Q r)\/(c≠0/\e = .panicked (nt c)))/\aj w w'/\ag w' X
section
variable {n:Nat} {x:Fx n} {b v k id:Nat} {T:Tr} {w:R} {D F:ai} {nm:List UInt8} {ps:List (List UInt8)} {pv:Value}
theorem qo (h:ag w (vA x b v T k*F)):ag w (pt v (bT b n)*(dS x b (fR T) k*F)):=h.to (ay _ _ _)
theorem zC (h:ag w (pt v (bT b n)*(dS x b (fR T) k*F))):ag w (vA x b v T k*F):=h.to (ay _ _ _).symm
theorem fB (A:Tidy n T) (y:ps.length<=1000) (u:∀ q P,ag q (D*P)->Dj q pv ps) (h:ag w (vA x b v T k*(D*F))) :
  Calls S 32 #[az v,pv] w (TN (vA x b v T k*(D*F)) (aT T 1 ps).1 (Z .i64 ((aT T 1 ps).2:Nat)) w):=by
 refine aJ fun H j=>?_;have g:=qo h;have C:w.cell? ⟨v,0,U⟩=W (az b):=g.cell 0;have E:w.cell? ⟨v,1,U⟩=W (Z .i64 (n:Int)):=g.cell 1;have m:=ae (I1 A y u (g.to (by ac_rfl:_=dS x b (fR T) k*(D*(pt v (bT b n)*F)))));generalize aT T 1 ps=p at *;obtain ⟨c,r⟩:=p;dsimp only at m j;clear h g A y u
 go_enter func32,ntmps32
 go_wp2_with fail
 refine m.out.mono ?_;rintro e B ⟨rfl,s,t⟩;have o:=ae (zC (t.to (by ac_rfl:_=pt v (bT b n)*(dS x b (fR T) k*(D*F)))));clear m t C E
 by_cases l:c=0
 .subst l
  have a:=dm B
  go_wp2_with fail
  refine a.mono ?_;rintro e G ⟨rfl,rfl⟩;clear a
  go_wp2_with fail
  exact j.out _ _ ⟨.inl ⟨rfl,rfl⟩,s,o.out⟩
 .have a:=dR B c l
  go_wp2_with fail
  refine a.mono ?_;rintro e G ⟨rfl,rfl⟩;clear a
  go_wp2_with fail
  exact ⟨rfl,j.out _ _ ⟨.inr ⟨l,rfl⟩,s,o.out⟩⟩
def Vb (f:AF) (X:ai) (w:R) (e:Ending) (w':R):Prop:=
 ∃ y:Nd,e = Q (.agg (ints y.l))/\y.dr.length=16/\y.kd=f.kd/\y.lk=f.lk/\y.sz=f.sz/\aj w w'/\ag w' X
theorem lK (C:T id=W y) (h:ag w (vA x b v T k*F)) :
  Calls S 42 #[az v,Z .i64 (id:Int)] w (Vb y.af (vA x b v T k*F) w):=by
 refine aJ fun e0 H=>?_;have g:=(qo h).alloc (V mR 65 (0,0));have t:=ae ((aj.refl w).alloc (V mR 65 (0,0)));have P:(w.alloc (V mR 65 (0,0))).cell? ⟨v,0,U⟩=W (az b):=g.ah.cell 0;have X:(w.alloc (V mR 65 (0,0))).cell? ⟨v,1,U⟩=W (Z .i64 (n:Int)):=g.ah.cell 1;have B:=ae (EH (g.to (by ac_rfl:_=dS x b (fR T) k*(pt w.heap.size (V mR 65 (0,0))*(pt v (bT b n)*F)))) (show fR T id=W y.af by unfold fR;rw [C];rfl));clear h g C;unfold mR at *
 go_enter func42,ntmps42
 go_wp2_with fail
 refine B.out.mono ?_;rintro e a ⟨z,rfl,E,b0,c0,d0,s,u⟩;have o:(ints z.l).size=20:=by rw [dO,Nd.cells E]
 have l:=u.alloc (V #[Z .i64 0,Z .i64 0,Z .i64 0,Z .i64 0,Z .i64 0,Z .i64 0,Z .i64 0,Z .i64 0,Z .i64 0,Z .i64 0,Z .i64 0,Z .i64 0,Z .i64 0,Z .i64 0,Z .i64 0,Z .i64 0,Z .i64 0,Z .i64 0,Z .i64 0,Z .i64 0] 65 (0,0));have K:=ae l.heap;have A:=l.setRow (cs':=ints z.l);have j:=A.to (by ac_rfl:_=pt w.heap.size (V #[Z .i64 0,Z .i64 0,Z .i64 0,Z .i64 0,Z .i64 0,Z .i64 0,Z .i64 0,Z .i64 0,Z .i64 0,Z .i64 0,Z .i64 0,Z .i64 0,Z .i64 0,Z .i64 0,Z .i64 0,Z .i64 0,Z .i64 0,Z .i64 0,Z .i64 0,Z .i64 0] 65 (0,0))*(pt a.heap.size (V (ints z.l) 65 (0,0))*(pt v (bT b n)*(dS x b (fR T) k*F))));have M:=ae j.ah.heap;have N:=ae j.heap;have m:=j.setRow (cs':=ints z.l);have O:=ae m.heap;have J:=ae (zC m.right.right);have G:=ae ((((t.out.trans s).alloc (V #[Z .i64 0,Z .i64 0,Z .i64 0,Z .i64 0,Z .i64 0,Z .i64 0,Z .i64 0,Z .i64 0,Z .i64 0,Z .i64 0,Z .i64 0,Z .i64 0,Z .i64 0,Z .i64 0,Z .i64 0,Z .i64 0,Z .i64 0,Z .i64 0,Z .i64 0,Z .i64 0] 65 (0,0))).setRow a.heap.size (ints z.l)).setRow w.heap.size (ints z.l));have r:Hid ((ints z.l).all (·.oneCell')=true):=by simp [RowKit.Hid,ints,Value.oneCell']
 have c:Hid ((prog.info? 65).map (·.size)=W (ints z.l).size):=by show _=_;rw [o];exact bE
 have q:=ae o;have I:=ae fun w=>dm w;clear B u l A j m o s t P X
 go_wp2_with (refine wpList_store_row (by exact rfl) 65 (.tmp 5) (.tmp 14) (by exact rfl) a.heap.size (ints z.l) (by exact rfl) (by exact rfl) 65 _ (by with_reducible exact K.out) c.out (by rw [q.out];rfl) r.out ?_)
 generalize (a.alloc (V #[Z .i64 0,Z .i64 0,Z .i64 0,Z .i64 0,Z .i64 0,Z .i64 0,Z .i64 0,Z .i64 0,Z .i64 0,Z .i64 0,Z .i64 0,Z .i64 0,Z .i64 0,Z .i64 0,Z .i64 0,Z .i64 0,Z .i64 0,Z .i64 0,Z .i64 0,Z .i64 0] 65 (0,0))).setRow a.heap.size (ints z.l)=w3 at *;refine (I.out w3).mono ?_;rintro e w4 ⟨rfl,rfl⟩
 go_wp2_with (first
  | (refine wpList_load_row (by exact rfl) 65 (.tmp 5) (by exact rfl) a.heap.size (by exact rfl) 65 (ints z.l) (0,0) _ (by with_reducible exact M.out) underlying65 rfl (by with_reducible exact c.out) ?_)
  | (refine wpList_store_row (by exact rfl) 65 (.tmp 4) (.tmp 18) (by exact rfl) w.heap.size (ints z.l) (by exact rfl) (by exact rfl) 65 _ (by with_reducible exact N.out) c.out (by rw [q.out];rfl) r.out ?_))
 exact bodyPost_ret (results_cell_row rfl _ _ w.heap.size 65 (ints z.l) (0,0) _ rfl O.out underlying65 rfl c.out) rfl (H.out _ _ ⟨z,rfl,E,b0,c0,d0,G.out,J.out⟩)
 go_show
theorem Ey {f:AF} (m:T id=W (.file f)) (g a:Nat) (h:ag w (vA x b v T k*F)) :
  Calls S 54 #[az v,Z .i64 (id:Int),Z .i64 (g:Int),Z .i64 (a:Int)] w fun e w'=>
   ∃ u,e = Q u/\aj w w'/\ag w' (bs 5 u (f.sub g a)*(vA x b v T k*F)):=by
 refine aJ fun B r=>?_;have c:=qo h;have s:w.cell? ⟨v,0,U⟩=W (az b):=c.cell 0;have t:w.cell? ⟨v,1,U⟩=W (Z .i64 (n:Int)):=c.cell 1;have o:=ae (Mn (c.to (by ac_rfl:_=dS x b (fR T) k*(pt v (bT b n)*F))) (ld m) g a);clear h c m
 go_enter func54,ntmps54
 go_wp2_with fail
 refine o.out.mono ?_;rintro e A ⟨u,rfl,y,j⟩;have q:=ae (j.to (by unfold vA;ac_rfl:_=bs 5 u (f.sub g a)*(vA x b v T k*F)));clear o j s t;have l:=dm A
 go_wp2_with fail
 refine l.mono ?_;rintro e C ⟨rfl,rfl⟩;clear l
 go_wp2_with fail
 exact r.out _ _ ⟨u,rfl,y,q.out⟩
theorem dQ {p:List UInt8} {l:List (List UInt8)} (h:bA p=W l):Calls S 31 #[Y (str p)] w fun e w'=>∃ u,e = Q u/\aj w w'/\ag w' (ei u l*whole w):=by
 refine aJ fun r m=>?_;have a:=ae (xj w p);unfold CV at a;rw [h] at a;clear h
 go_enter func31,ntmps31
 go_wp2_with fail
 refine a.out.mono ?_;rintro e q ⟨u,rfl,o,c⟩;have j:=ae c;clear a c;have g:=dm q
 go_wp2_with fail
 refine g.mono ?_;rintro e s ⟨rfl,rfl⟩;clear g
 go_wp2_with fail
 exact m.out _ _ ⟨u,rfl,o,j.out⟩
theorem sa {p:List UInt8} (h:bA p=U):Calls S 31 #[Y (str p)] w fun e w'=>e = .panicked (nt 1)/\aj w w'/\ag w' (whole w):=by
 refine aJ fun q l=>?_;have a:=ae (xj w p);unfold CV at a;rw [h] at a;clear h
 go_enter func31,ntmps31
 go_wp2_with fail
 refine a.out.mono ?_;rintro e o ⟨u,rfl,m,c⟩;have j:=ae c.right;clear a c;have g:=dR o 1 (by decide)
 go_wp2_with fail
 refine g.mono ?_;rintro e r ⟨rfl,rfl⟩;clear g
 go_wp2_with fail
 exact ⟨rfl,l.out _ _ ⟨rfl,m,j.out⟩⟩
end
section
variable {n:Nat} {x:Fx n} {b v k id:Nat} {T:Tr} {w:R} {D F:ai} {nm:List UInt8} {ps:List (List UInt8)} {pv:Value}
def TZ (c:Int) (X:ai) (w:R) (e:Ending) (w':R):Prop:=e = .panicked (nt c)/\aj w w'/\ag w' X
theorem nK {z:Nd} (h:z.dr.length=16):(ints z.l).size=20/\(ints z.l).all (·.oneCell')=true/\(prog.info? 65).map (·.size)=W (ints z.l).size:=by
 have a:(ints z.l).size=20:=by rw [dO,Nd.cells h]
 exact ⟨a,by simp [ints,Value.oneCell'],by rw [a];exact bE⟩
def Up (f:AF) (X:ai) (w:R) (e:Ending) (w':R):Prop:=(f.kd=1/\Vb f X w e w')\/(f.kd≠1/\TZ 8 X w e w')
theorem la (hy:T id=W y) (h:ag w (vA x b v T k*F)) :
  Calls S 33 #[az v,Z .i64 (id:Int)] w (Up y.af (vA x b v T k*F) w):=by
 refine aJ fun e0 s=>?_;have N:=(h.alloc (V mR 65 (0,0))).ah;have K:=ae ((aj.refl w).alloc (V mR 65 (0,0)));have X:=ae (lK hy N);generalize y.af=f at *
 go_enter func33,ntmps33
 go_wp2_with fail
 refine X.out.mono ?_;rintro e a ⟨z,rfl,E,G,c0,d0,J,M⟩;obtain ⟨O,b0,P⟩:=nK E;have B:=M.alloc (V mR 65 (0,0));have u:=ae B.heap;have m:=B.setRow (cs':=ints z.l);have n0:((a.alloc (V mR 65 (0,0))).setRow a.heap.size (ints z.l)).cell? ⟨a.heap.size,0,U⟩=W (Z .i64 f.kd):=by rw [<- G];exact m.cell 0
 have I:=ae m.heap;have g:=ae (m.to (by unfold mR;ac_rfl:_=pt w.heap.size (V mR 65 (0,0))*(pt a.heap.size (V (ints z.l) 65 (0,0))*(vA x b v T k*F))));have q:=ae (((K.out.trans J).alloc (V mR 65 (0,0))).setRow a.heap.size (ints z.l));have l:=ae b0;have c:=ae P;have j:=ae O;obtain ⟨o,C⟩:∃ o,f.kd=o:=⟨_,rfl⟩
 rw [C] at n0;have t:=ae C;have H:=ae fun w=>dR w 8 (by decide)
 by_cases A:o=1
 .subst A
  go_wp2_with (first
   | (refine wpList_store_row (by exact rfl) 65 (.tmp 5) (.tmp 8) (by exact rfl) a.heap.size (ints z.l) (by exact rfl) (by exact rfl) 65 _ (by with_reducible exact u.out) c.out (by rw [j.out];rfl) l.out ?_)
   | (refine wpList_load_row (by exact rfl) 65 (.tmp 5) (by exact rfl) a.heap.size (by exact rfl) 65 (ints z.l) (0,0) _ (by with_reducible exact I.out) underlying65 rfl (by with_reducible exact c.out) ?_)
   | (refine wpList_store_row (by exact rfl) 65 (.tmp 4) (.tmp 13) (by exact rfl) w.heap.size (ints z.l) (by exact rfl) (by exact rfl) 65 _ (by with_reducible exact g.out.heap) c.out (by rw [j.out];rfl) l.out ?_))
  have r:=g.out.setRow (cs':=ints z.l);exact bodyPost_ret (results_cell_row rfl _ _ w.heap.size 65 (ints z.l) (0,0) _ rfl r.heap underlying65 rfl c.out) rfl (s.out _ _ (.inl ⟨t.out,z,rfl,E,G,c0,d0,q.out.setRow w.heap.size (ints z.l),r.right.right⟩))
 .go_wp2_with (first
   | (refine wpList_store_row (by exact rfl) 65 (.tmp 5) (.tmp 8) (by exact rfl) a.heap.size (ints z.l) (by exact rfl) (by exact rfl) 65 _ (by with_reducible exact u.out) c.out (by rw [j.out];rfl) l.out ?_)
   | fail)
  refine (H.out _).mono ?_;rintro e w4 ⟨rfl,rfl⟩;exact ⟨rfl,s.out _ _ (.inr ⟨by rw [t.out];exact A,rfl,q.out,g.out.right.right⟩)⟩
theorem AT {c:Func} {e:Array Value} {w:R} {a:Nat} {r:Int} {nm:List UInt8} (g:c.results=#[.cell 4 83]:=by rfl) (j:e[4]?=W (az a)) (h:ag w (pt a (V #[Z .i64 r,Y (str nm)] 83 (0,0))*F)) :
  (results c e).run S w = .ok (.agg #[Z .i64 r,Y (str nm)]) w:=
 results_cell_row g _ _ a 83 _ (0,0) _ (by simp [j]) h.heap underlying83 rfl (by kernel_rfl)
theorem Mz {q:R} {g o c m:Nat} (l:ps.length=m+1) (h:Dj q (.slice (W ⟨g,o,U⟩) (m+1) c) ps):Dj q (.slice (W ⟨g,o,U⟩) m c) ps.dropLast:=by
 rcases h with ⟨a,r,e,s⟩|⟨A,C,r,e,B,y,t⟩
 .rw [s] at l;simp at l
 .simp only [Value.slice.injEq,Option.some.injEq,Addr.mk.injEq] at e
  obtain ⟨⟨rfl,rfl,-⟩,-,rfl⟩:=e;have j:ps.dropLast.length=m:=by rw [D1,l];rfl
  refine .inr ⟨g,o,c,by rw [j],by rw [j];omega,y,fun k u=>?_⟩;rw [j] at u;have:=t k (by omega)
  rwa [show ps.dropLast.getD k []=ps.getD k [] by
   rw [X0,X0,List.getElem?_dropLast,if_pos (by omega)]]
theorem yv (ht:Tidy n T) (hl:ps.length<=1000) (b0:ps≠[]) (O:∀ a P,ag a (D*P)->Dj a pv ps) (h:ag w (vA x b v T k*(D*F))) :
  Calls S 81 #[az v,pv] w (TN (vA x b v T k*(D*F)) (aT T 1 ps.dropLast).1 (.agg #[Z .i64 ((aT T 1 ps.dropLast).2:Nat),Y (str (cG ps))]) w):=by
 refine aJ fun g0 q=>?_;have j0:=List.length_pos_iff.2 b0;obtain ⟨m,B⟩:∃ m,ps.length=m+1:=⟨ps.length-1,by omega⟩
 have X:∀ a P,ag a (D*P)->∃ g o c,pv = .slice (W ⟨g,o,U⟩) (m+1) c/\m+1<=c/\c<=maxLen/\a.cell? ⟨g,o+m,U⟩=W (Y (str (cG ps))):=fun a P l=>by
  rcases O a P l with ⟨h0,c,_,u⟩|⟨g,o,c,e,C,E,hc⟩
  .exact absurd u b0
  .rw [B] at e C
   refine ⟨g,o,c,e,C,E,?_⟩;have:=hc m (by omega);unfold cG
   rwa [B,Nat.add_sub_cancel]
 obtain ⟨g,o,c,rfl,C,E,-⟩:=X _ _ h.ah;have c0:∀ a P,ag a (D*P)->Dj a (.slice (W ⟨g,o,U⟩) m c) ps.dropLast:=fun a P l=>Mz B (O a P l)
 have y:∀ a P,ag a (D*P)->a.cell? ⟨g,o+m,U⟩=W (Y (str (cG ps))):=fun a P l=>by
  obtain ⟨g',o',c',e,-,-,u⟩:=X a P l;obtain ⟨⟨rfl,rfl,-⟩,-,rfl⟩:=e;exact u
 obtain ⟨nm,d0⟩:∃ nm,cG ps=nm:=⟨_,rfl⟩
 rw [d0] at q y;have hA:=(h.alloc (V #[Z .i64 0,.string ⟨#[]⟩] 83 (0,0)))
 have K:=ae ((aj.refl w).alloc (V #[Z .i64 0,.string ⟨#[]⟩] 83 (0,0)));have hk:=fun w' (h':ag w' (vA x b v T k*(D*(pt w.heap.size (V #[Z .i64 0,.string ⟨#[]⟩] 83 (0,0))*F))))=>fB (ps:=ps.dropLast) ht (by rw [D1];omega) c0 h';have N:=hA.to (by ac_rfl:_=vA x b v T k*(D*(pt w.heap.size (V #[Z .i64 0,.string ⟨#[]⟩] 83 (0,0))*F)));have q1:=y _ _ N.ah;generalize aT T 1 ps.dropLast=p at *;obtain ⟨J,r⟩:=p;have I:=ae hk;have G:=ae N;have H:=ae y;have b2:(m:Int)<=(c:Int):=by omega
 have b3:(m:Int)<(m:Int)+1:=by omega
 have k0:((m:Int)+1)<=(c:Int):=by omega
 have l0:(c:Int)<=9223372036854775807:=by unfold maxLen at E;omega
 go_enter func81,ntmps81
 go_wp2_with fail
 generalize w.heap.size=rc at *
 by_cases t:J=0
 .subst t
  go_region_held3 (fun w'=>w'.cell? ⟨g,o+m,U⟩=W (Y (str nm)))
   (first|exact q1|exact q2|exact q3|go_keep)
   (first|(go_at_call 32;refine (I.out _ G.out.drew).mono ?_;rintro e w5 ⟨A,s,j⟩;obtain rfl:e = Q (Z .i64 (r:Int)):=A.elim (fun h=>h.2) (fun h=>absurd rfl h.1);have q2:=H.out _ _ j.ah;have z0:=j.aw.cell 0;have z1:=j.aw.cell 1;have f0:=j.aw.frozen 0;have f1:=j.aw.frozen 1;have q3:=H.out _ _ ((j.aw.setCell 0 (Z .i64 (r:Int))).setCell 1 (Y (str nm))).aw;simp at z0 z1))
  have M:=((j.aw.setCell 0 (Z .i64 (r:Int))).setCell 1 (Y (str nm)))
  have H6:=ae M;have H7:=ae (q.out _ _ ⟨.inl ⟨rfl,rfl⟩,((K.out.drew.trans s).setCell _ _).setCell _ _,M.right⟩)
  go_wp2_with fail
  exact bodyPost_ret (AT rfl rfl H6.out) rfl H7.out
 .refine wp_region_held_drew (S:=fun w'=>w'.cell? ⟨g,o+m,U⟩=W (Y (str nm))) (by kernel_rfl) q1 (fun i0=>?_)
  refine tk 0 ?_;refine tk 1 ?_;refine tk 2 ?_;refine tk 3 ?_;refine tk 5 ?_;refine tk 6 ?_;refine tk 7 ?_;refine tk 8 ?_;refine tr 4 fun e0 hK=>?_
  go_simp
  go_wp2_with (go_at_call 32;refine (I.out _ G.out.drew).mono ?_;rintro e w5 ⟨A,s,j⟩;obtain rfl:e = .panicked (nt J):=A.elim (fun h=>absurd h.1 t) (fun h=>h.2);exact ⟨rfl,q.out _ _ ⟨.inr ⟨t,rfl⟩,K.out.drew.trans s,(j.to (by ac_rfl:_=pt rc (V #[Z .i64 0,.string ⟨#[]⟩] 83 (0,0))*(vA x b v T k*(D*F)))).right⟩⟩)
def _root_.Go.SL.fI (T:Tr) (ps:List (List UInt8)):Int:=
 if ps=[] then 6 else if (aT T 1 ps.dropLast).1≠0 then (aT T 1 ps.dropLast).1 else if (ee (T (aT T 1 ps.dropLast).2) (cG ps)).1=0 then 6 else if (ee (T (aT T 1 ps.dropLast).2) (cG ps)).1=5 then 0 else (ee (T (aT T 1 ps.dropLast).2) (cG ps)).1
def _root_.Go.SL.dw (T:Tr) (ps:List (List UInt8)):Nat:=(aT T 1 ps.dropLast).2
theorem vB (y:Tidy n T) (hl:ps.length<=1000) (hs:∀ t P,ag t (D*P)->∃ a c,pv = .slice a ps.length c) (hD:∀ t P,ag t (D*P)->Dj t pv ps) (b0:ag w (vA x b v T k*(D*F))) :
  Calls S 46 #[az v,pv] w (TN (vA x b v T k*(D*F)) (fI T ps) (.agg #[Z .i64 (dw T ps:Nat),Y (str (cG ps))]) w):=by
 refine aJ fun e0 g=>?_;obtain ⟨a,c,rfl⟩:=hs _ _ b0.ah;obtain ⟨m,I⟩:∃ m,ps.length=m:=⟨_,rfl⟩
 have hA:=b0.alloc (V #[Z .i64 0,.string ⟨#[]⟩] 83 (0,0));have G:=ae ((aj.refl w).alloc (V #[Z .i64 0,.string ⟨#[]⟩] 83 (0,0)));have C:=ae fun (w:R) (c:Int) (r:c≠0)=>dR w c r;have N:=ae (hA.to (by ac_rfl:_=vA x b v T k*(D*(pt w.heap.size (V #[Z .i64 0,.string ⟨#[]⟩] 83 (0,0))*F))))
 by_cases s:ps=[]
 .have c0:m=0:=by rw [<- I,s];rfl
  have H:fI T ps=6:=if_pos s;rw [H] at g;rw [I,c0]
  go_enter func46,ntmps46
  go_wp2_with fail
  refine (C.out _ 6 (by decide)).mono ?_;rintro e w3 ⟨rfl,rfl⟩;exact ⟨rfl,g.out _ _ ⟨.inr ⟨by decide,rfl⟩,G.out,(N.out.to (by ac_rfl:_=pt w.heap.size (V #[Z .i64 0,.string ⟨#[]⟩] 83 (0,0))*(vA x b v T k*(D*F)))).right⟩⟩
 .have d0:=ae (yv y hl s hD N.out)
  have c0:¬ ((m:Int)=0):=by have:=List.length_pos_iff.2 s;omega
  have H:fI T ps=if (aT T 1 ps.dropLast).1≠0 then (aT T 1 ps.dropLast).1 else if (ee (T (aT T 1 ps.dropLast).2) (cG ps)).1=0 then 6 else if (ee (T (aT T 1 ps.dropLast).2) (cG ps)).1=5 then 0 else (ee (T (aT T 1 ps.dropLast).2) (cG ps)).1:=if_neg s
  have J:=fun (h0:(aT T 1 ps.dropLast).1=0)=>y.walk ps.dropLast (y.root.choose_spec) h0;rw [H] at g;unfold dw at g;rw [I] at d0 ⊢;generalize aT T 1 ps.dropLast=p at *;obtain ⟨cc,d⟩:=p;generalize cG ps=nm at *;have HY:=ae J;have HT:=ae y
  go_enter func46,ntmps46
  go_wp2_with fail
  refine d0.out.mono ?_;rintro e h ⟨he,O,h2⟩;generalize w.heap.size=l at *;rcases he with ⟨rfl,rfl⟩|⟨r,rfl⟩
  .obtain ⟨i0,J⟩:=HY.out rfl
   rw [if_neg (by decide)] at g;have hB:=h2.alloc (V #[Z .i64 (d:Int),Y (str nm)] 83 (0,0));have dB:=ae ((G.out.trans O).alloc (V #[Z .i64 (d:Int),Y (str nm)] 83 (0,0)));have q:=hB.to (by unfold vA;ac_rfl:_=pt v (bT b n)*(pt h.heap.size (V #[Z .i64 (d:Int),Y (str nm)] 83 (0,0))*(dS x b (fR T) k*(pt l (V #[Z .i64 0,.string ⟨#[]⟩] 83 (0,0))*(D*F)))));have K:(h.alloc (V #[Z .i64 (d:Int),Y (str nm)] 83 (0,0))).cell? ⟨v,0,U⟩=W (az b)/\(h.alloc (V #[Z .i64 (d:Int),Y (str nm)] 83 (0,0))).cell? ⟨v,1,U⟩=W (Z .i64 (n:Int))/\(h.alloc (V #[Z .i64 (d:Int),Y (str nm)] 83 (0,0))).cell? ⟨h.heap.size,0,U⟩=W (Z .i64 (d:Int))/\(h.alloc (V #[Z .i64 (d:Int),Y (str nm)] 83 (0,0))).cell? ⟨h.heap.size,1,U⟩=W (Y (str nm)):=⟨q.cell 0,q.cell 1,q.ah.cell 0,q.ah.cell 1⟩
   have K0:=ae K;have hf:=ae fun w' (h':ag w' (dS x b (fR T) k*(pt v (bT b n)*(pt h.heap.size (V #[Z .i64 (d:Int),Y (str nm)] 83 (0,0))*(pt l (V #[Z .i64 0,.string ⟨#[]⟩] 83 (0,0))*(D*F))))))=>xL (nm:=nm) HT.out J h';have HC:=ae q.aw;generalize ee (T d) nm=p at *;obtain ⟨E,g0⟩:=p
   go_wp2_with fail
   generalize h.heap.size=sc at *;have K:=K0.out
   go_region_held3 (fun w'=>w'.cell? ⟨v,0,U⟩=W (az b)/\w'.cell? ⟨v,1,U⟩=W (Z .i64 (n:Int))/\w'.cell? ⟨sc,0,U⟩=W (Z .i64 (d:Int))/\w'.cell? ⟨sc,1,U⟩=W (Y (str nm)))
    (first|exact K|exact k1|go_keep)
    (first|(go_at_call 102;refine (hf.out _ HC.out.drew).mono ?_;rintro e A ⟨rfl,d4,o⟩;have k1:A.cell? ⟨v,0,U⟩=W (az b)/\A.cell? ⟨v,1,U⟩=W (Z .i64 (n:Int))/\A.cell? ⟨sc,0,U⟩=W (Z .i64 (d:Int))/\A.cell? ⟨sc,1,U⟩=W (Y (str nm)):=⟨o.ah.cell 0,o.ah.cell 1,o.aw.cell 0,o.aw.cell 1⟩))
   have j:=o.to (by unfold vA;ac_rfl:_=pt sc (V #[Z .i64 (d:Int),Y (str nm)] 83 (0,0))*(pt l (V #[Z .i64 0,.string ⟨#[]⟩] 83 (0,0))*(vA x b v T k*(D*F))));have s0:=j.cell 0;have s1:=j.cell 1;have z0:=j.ah.cell 0;have z1:=j.ah.cell 1;have f0:=j.ah.frozen 0;have f1:=j.ah.frozen 1;have h6:=ae ((j.ah.setCell 0 (Z .i64 (d:Int))).setCell 1 (Y (str nm)));have M:=ae j.right.right;have B:=ae (dB.out.drew.trans d4)
   by_cases u:E=0
   .subst u
    rw [if_pos rfl] at g
    go_wp2_with fail
    refine (C.out _ 6 (by decide)).mono ?_;rintro e w5 ⟨rfl,rfl⟩;exact ⟨rfl,g.out _ _ ⟨.inr ⟨by decide,rfl⟩,B.out,M.out⟩⟩
   .rw [if_neg u] at g
    by_cases X:E=5
    .subst X
     rw [if_pos rfl] at g;have H7:=ae (g.out _ _ ⟨.inl ⟨rfl,rfl⟩,(B.out.setCell ⟨l,0,U⟩ (Z .i64 (d:Int))).setCell ⟨l,1,U⟩ (Y (str nm)),h6.out.right.right⟩)
     go_wp2_with fail
     exact bodyPost_ret (AT rfl rfl h6.out) rfl H7.out
    .rw [if_neg X] at g
     go_wp2_with fail
     refine (C.out _ E u).mono ?_;rintro e w5 ⟨rfl,rfl⟩;exact ⟨rfl,g.out _ _ ⟨.inr ⟨u,rfl⟩,B.out,M.out⟩⟩
  .refine ⟨rfl,g.out _ _ ⟨.inr ⟨?_,?_⟩,G.out.trans O,(h2.to (by ac_rfl:_=pt l (V #[Z .i64 0,.string ⟨#[]⟩] 83 (0,0))*(vA x b v T k*(D*F)))).right⟩⟩
   .rw [if_pos r];exact r
   .rw [if_pos r]
theorem BK:∀ {z:Nd} (_:z.dr.length=16) (w:R),(Instr.field 65 (.agg (ints z.l)) 0).run S w = .ok (Z .i64 z.kd) w/\(Instr.field 65 (.agg (ints z.l)) 1).run S w = .ok (Z .i64 z.lk) w/\(Instr.field 65 (.agg (ints z.l)) 2).run S w = .ok (Z .i64 z.sz) w
 | ⟨a,c,e,[_,_,_,_,_,_,_,_,_,_,_,_,_,_,_,_],rw⟩,_,w=>⟨by kernel_rfl,by kernel_rfl,by kernel_rfl⟩
def _root_.Go.SL.qk (L:List aH):Int:=if 122880<=32*L.length then 9 else 0
theorem I0 {L:List aH} (G:T id=W (.dir L)) (h:ag w (vA x b v T k*F)) :
  Calls S 70 #[az v,.agg #[Z .i64 (id:Int),Y (str nm)]] w (TN (vA x b v T k*F) (qk L) (.tuple #[]) w):=by
 refine aJ fun J a=>?_;have A:=h.alloc (V #[Z .i64 (id:Int),Y (str nm)] 83 (0,0));have t:=ae ((aj.refl w).alloc (V #[Z .i64 (id:Int),Y (str nm)] 83 (0,0)));have C:=ae (lK G A.ah)
 go_enter func70,ntmps70
 go_wp2_with fail
 refine C.out.mono ?_;rintro e K ⟨z,rfl,H,N,O,I,s,u⟩;have B:=fun w=>(BK H w).2.2;have o:z.sz=((32*L.length:Nat):Int):=I;have m:=ae (u.to (by ac_rfl:_=pt w.heap.size (V #[Z .i64 (id:Int),Y (str nm)] 83 (0,0))*(vA x b v T k*F))).right;have l:=ae (t.out.trans s);have r:=ae fun w=>dR w 9 (by decide);unfold qk at a;obtain ⟨q,E⟩:∃ q,32*L.length=q:=⟨_,rfl⟩
 rw [E] at o a;obtain ⟨g,j⟩:∃ g:Int,g=(q:Int):=⟨_,rfl⟩
 rw [o,<- j] at B
 by_cases c:122880<=q
 .rw [if_pos c] at a
  have y:(122880:Int)<=g:=by omega
  clear c j
  go_wp2_with fail
  refine (r.out _).mono ?_;rintro e M ⟨rfl,rfl⟩;exact ⟨rfl,a.out _ _ ⟨.inr ⟨by decide,rfl⟩,l.out,m.out⟩⟩
 .rw [if_neg c] at a
  have y:g<122880:=by omega
  clear c j
  go_wp2_with fail
  go_end0
  exact a.out _ _ ⟨.inl ⟨rfl,rfl⟩,l.out,m.out⟩
def _root_.Go.SL.kP (k:Nat) (L:List aH) (nm:List UInt8):Int:=if (iz L nm).isSome then 6 else if 3840<=L.length then 9 else if k+aY L.length<aY (L.length+1) then 7 else 0
def _root_.Go.SL.gj (T:Tr) (d:Nat) (L:List aH):Tr:=dp T d (W (.dir L))
theorem KH {a:Nat} {A:Nat->Option AF} {P:Int} {L:List aH} (c0:1<=a) (d0:a<=3839) (h:ag w (dS x b A k*F)) (H:A id=W (eK P L)) (K:sH L) (hl:L.length=3840) (I:cM nm=true) (M:iz L nm=U) :
  Calls S 103 #[fS b n,Z .i64 (id:Int),Y (str nm),Z .i64 (a:Int)] w (YE x b A k 9 F w):=by
 refine aJ fun b0 s=>?_;have G:=h.alloc (cQ b n);have B:=ae ((aj.refl w).alloc (cQ b n));have O:=ae (iT G.ah H (iY K (by omega)));obtain ⟨m,J⟩:∃ m,L.length=m:=⟨_,rfl⟩
 have q:=ae J;have N:=ae (rW M);have e0:(m:Int)=3840:=by omega
 have o:Hid (L.length<=3840):=by show L.length<=3840;omega
 have e:=ae fun w=>pT w nm;rw [I] at e;have g1:¬ ((a:Int)<1):=by omega
 have g2:¬ ((3839:Int)<(a:Int)):=by omega
 unfold fS
 go_enter func103,ntmps103
 go_wp2_with fail
 refine O.out.mono ?_;generalize w.heap.size=C at *;rintro r w2 ⟨u,rfl,t,j⟩;have c:=Go.Proofs.Fs.dN w2 u L nm _ o.out j;unfold ph at c;rw [N.out] at c;have g:=ae c;obtain ⟨X,uc,rfl⟩:=aE j;rw [q.out] at g ⊢
 go_wp2_with fail
 refine (e.out _).mono ?_;rintro r w3 ⟨rfl,rfl⟩
 go_wp2_with fail
 refine g.out.mono ?_;rintro r w3 ⟨rfl,E,y⟩;have l:=ae (E.to (by ac_rfl:_=(sl 80 2 (.slice X m uc) m (bD L)*pt C (cQ b n))*(dS x b A k*F))).right
 go_wp2_with fail
 exact s.out _ _ ⟨by simp,(B.out.trans t).trans y,l.out⟩
def Qd (x:Fx n) (b v:Nat) (T:Tr) (k id a:Nat) (nm:List UInt8) (L:List aH) (F:ai) (w:R) (e:Ending) (w':R):Prop:=
 (kP k L nm=0/\e = Q (.tuple #[])/\aj w w'/\ag w' (vA (x.more 5) b v (gj T id (L++[⟨a,nm⟩])) (k+aY L.length-aY (L.length+1))*F)) \/
 (kP k L nm≠0/\TZ (kP k L nm) (vA x b v T k*F) w e w')
theorem Lz {a:Nat} {L:List aH} (g:1<=a) (j:a<=3839) (h:ag w (dS x b (fR T) k*F)) (l:T id=W (.dir L)) (c:oJ L) (m:cM nm=true) :
  Calls S 103 #[fS b n,Z .i64 (id:Int),Y (str nm),Z .i64 (a:Int)] w fun e w'=>
   (kP k L nm=0/\YE (x.more 5) b (fR (gj T id (L++[⟨a,nm⟩]))) (k+aY L.length-aY (L.length+1)) 0 F w e w')\/(kP k L nm≠0/\YE x b (fR T) k (kP k L nm) F w e w'):=by
 unfold kP
 cases o:iz L nm with
 | some i=>exact (GG g j h (kJ l) c.ok c.len m o).mono fun e w' q=>.inr ⟨by simp,by simpa using q⟩
 | none=>
  by_cases s:3840<=L.length
  .rw [if_pos s]
   exact (KH g j h (kJ l) c.ok (by have:=c.len;omega) m o).mono fun e w' q=>.inr ⟨by decide,q⟩
  .rw [if_neg s]
   by_cases r:k+aY L.length<aY (L.length+1)
   .rw [if_pos r]
    exact (Q8 g j h (kJ l) c.ok (by omega) m o r).mono fun e w' q=>.inr ⟨by decide,q⟩
   .rw [if_neg r]
    have:=tT g j h (kJ l) c.ok (by omega) m o (by omega);rw [show dp (fR T) id (W (eK 1 (L++[⟨a,nm⟩])))=fR (gj T id (L++[⟨a,nm⟩])) from sk T id (.dir (L++[(⟨a,nm⟩:aH)]))] at this;exact this.mono fun e w' q=>.inl ⟨rfl,q⟩
theorem Bo {child:Nat} {L:List aH} (P:1<=child) (X:child<=3839) (hf:T id=W (.dir L)) (M:oJ L) (hi:cM nm=true) (h:ag w (vA x b v T k*F)) :
  Calls S 47 #[az v,.agg #[Z .i64 (id:Int),Y (str nm)],Z .i64 (child:Int)] w (Qd x b v T k id child nm L F w):=by
 refine aJ fun b0 q=>?_;have J:=h.alloc (V #[Z .i64 (id:Int),Y (str nm)] 83 (0,0));have y:=ae ((aj.refl w).alloc (V #[Z .i64 (id:Int),Y (str nm)] 83 (0,0)));have j:=J.to (by unfold vA;ac_rfl:_=dS x b (fR T) k*(pt v (bT b n)*(pt w.heap.size (V #[Z .i64 (id:Int),Y (str nm)] 83 (0,0))*F)));have m:(w.alloc (V #[Z .i64 (id:Int),Y (str nm)] 83 (0,0))).cell? ⟨v,0,U⟩=W (az b)/\(w.alloc (V #[Z .i64 (id:Int),Y (str nm)] 83 (0,0))).cell? ⟨v,1,U⟩=W (Z .i64 (n:Int))/\(w.alloc (V #[Z .i64 (id:Int),Y (str nm)] 83 (0,0))).cell? ⟨w.heap.size,0,U⟩=W (Z .i64 (id:Int))/\(w.alloc (V #[Z .i64 (id:Int),Y (str nm)] 83 (0,0))).cell? ⟨w.heap.size,1,U⟩=W (Y (str nm)):=⟨j.ah.cell 0,j.ah.cell 1,j.aw.cell 0,j.aw.cell 1⟩
 have B:=ae fun w' (I:ag w' (dS x b (fR T) k*(pt v (bT b n)*(pt w.heap.size (V #[Z .i64 (id:Int),Y (str nm)] 83 (0,0))*F))))=>Lz P X I hf M hi;have E:=ae fun (w:R) (c:Int) (O:c≠0)=>dR w c O;have G:=ae fun w=>dm w;have u:=ae j;have H:=ae m;unfold Qd at q;generalize kP k L nm=c at *
 go_enter func47,ntmps47
 go_wp2_with fail
 generalize w.heap.size=sc at *;have m:=H.out
 by_cases l:c=0
 .subst l
  go_region_held3 (fun w'=>w'.cell? ⟨v,0,U⟩=W (az b)/\w'.cell? ⟨v,1,U⟩=W (Z .i64 (n:Int))/\w'.cell? ⟨sc,0,U⟩=W (Z .i64 (id:Int))/\w'.cell? ⟨sc,1,U⟩=W (Y (str nm)))
   (first|exact m|exact t|go_keep)
   (first
    | (go_at_call 103;refine (B.out _ u.out.drew).mono ?_;rintro e g s;obtain ⟨rfl,r,a⟩:=s.elim (fun h=>h.2) (fun h=>absurd rfl h.1);have t:g.cell? ⟨v,0,U⟩=W (az b)/\g.cell? ⟨v,1,U⟩=W (Z .i64 (n:Int))/\g.cell? ⟨sc,0,U⟩=W (Z .i64 (id:Int))/\g.cell? ⟨sc,1,U⟩=W (Y (str nm)):=⟨a.ah.cell 0,a.ah.cell 1,a.aw.cell 0,a.aw.cell 1⟩)
    | (go_at_call 34;refine (G.out _).mono ?_;rintro e w5 ⟨rfl,rfl⟩))
  have C:=ae (y.out.drew.trans r);have o:=ae (a.to (by unfold vA;ac_rfl:_=pt sc (V #[Z .i64 (id:Int),Y (str nm)] 83 (0,0))*(vA (x.more 5) b v (gj T id (L++[⟨child,nm⟩])) (k+aY L.length-aY (L.length+1))*F))).right
  go_wp2_with fail
  go_end0
  exact q.out _ _ (.inl ⟨by simp,rfl,C.out,o.out⟩)
 .refine wp_region_held_drew (S:=fun w'=>w'.cell? ⟨v,0,U⟩=W (az b)/\w'.cell? ⟨v,1,U⟩=W (Z .i64 (n:Int))/\w'.cell? ⟨sc,0,U⟩=W (Z .i64 (id:Int))/\w'.cell? ⟨sc,1,U⟩=W (Y (str nm))) (by kernel_rfl) m (fun N=>?_)
  refine tk 0 ?_;refine tk 1 ?_;refine tk 2 ?_;refine tk 3 ?_;refine tk 4 ?_;refine tk 5 ?_;refine tk 6 ?_;refine tk 7 ?_;refine tk 8 ?_;refine tr 9 fun K A=>?_
  go_simp
  go_wp2_with (go_at_call 103;refine (B.out _ u.out.drew).mono ?_;rintro e g s;obtain ⟨rfl,r,a⟩:=s.elim (fun h=>absurd h.1 l) (fun h=>h.2))
  have t:g.cell? ⟨v,0,U⟩=W (az b)/\g.cell? ⟨v,1,U⟩=W (Z .i64 (n:Int))/\g.cell? ⟨sc,0,U⟩=W (Z .i64 (id:Int))/\g.cell? ⟨sc,1,U⟩=W (Y (str nm)):=⟨a.ah.cell 0,a.ah.cell 1,a.aw.cell 0,a.aw.cell 1⟩
  have o:=(a.to (by unfold vA;ac_rfl:_=pt sc (V #[Z .i64 (id:Int),Y (str nm)] 83 (0,0))*(vA x b v T k*F))).right;refine A.out _ _ t (fun N=>?_);refine tr 10 fun K A=>?_
  go_simp
  go_wp2_with (go_at_call 34;refine (E.out _ c l).mono ?_;rintro e w5 ⟨rfl,rfl⟩;exact ⟨rfl,q.out _ _ (.inr ⟨l,rfl,y.out.drew.trans r,o⟩)⟩)
theorem zZ (s:Tidy n T) (O:ps.length<=1000) (X:ps≠[]) (K:∀ m P,ag m (D*P)->Dj m pv ps) {L:List aH} {i:Nat} (c0:(aT T 1 ps.dropLast).1=0) (r:T (dw T ps)=W (.dir L)) (hp:iz L (cG ps)=W i) (h:ag w (vA x b v T k*(D*F))) :
  Calls S 36 #[az v,pv] w (TN (vA (x.more 9) b v (gj T (dw T ps) (kZ L i)) (k+aY L.length-aY (L.length-1))*(D*F)) 0 (.tuple #[]) w):=by
 refine aJ fun d0 A=>?_;have b0:=ae (yv s O X K h);unfold dw at *;generalize aT T 1 ps.dropLast=p at *;obtain ⟨cc,d⟩:=p;generalize cG ps=nm at *;subst c0;have q:=s.pC _ _ r
 go_enter func36,ntmps36
 go_wp2_with fail
 refine b0.out.mono ?_;rintro e a ⟨N,E,I⟩;obtain rfl:=N.elim (fun h=>h.2) (fun h=>absurd rfl h.1);have J:=I.alloc (V #[Z .i64 (d:Int),Y (str nm)] 83 (0,0));have G:=ae (E.alloc (V #[Z .i64 (d:Int),Y (str nm)] 83 (0,0)));have g:=J.to (by unfold vA;ac_rfl:_=dS x b (fR T) k*(pt v (bT b n)*(pt a.heap.size (V #[Z .i64 (d:Int),Y (str nm)] 83 (0,0))*(D*F))));have l:(a.alloc (V #[Z .i64 (d:Int),Y (str nm)] 83 (0,0))).cell? ⟨v,0,U⟩=W (az b)/\(a.alloc (V #[Z .i64 (d:Int),Y (str nm)] 83 (0,0))).cell? ⟨v,1,U⟩=W (Z .i64 (n:Int))/\(a.alloc (V #[Z .i64 (d:Int),Y (str nm)] 83 (0,0))).cell? ⟨a.heap.size,0,U⟩=W (Z .i64 (d:Int))/\(a.alloc (V #[Z .i64 (d:Int),Y (str nm)] 83 (0,0))).cell? ⟨a.heap.size,1,U⟩=W (Y (str nm)):=⟨g.ah.cell 0,g.ah.cell 1,g.aw.cell 0,g.aw.cell 1⟩
 have M:=ae fun w' (H:ag w' (dS x b (fR T) k*(pt v (bT b n)*(pt a.heap.size (V #[Z .i64 (d:Int),Y (str nm)] 83 (0,0))*(D*F)))))=>DQ H (kJ r) q.ok q.len hp;have B:=ae fun w=>dm w;have y:=ae g;have C:=ae l
 go_wp2_with fail
 generalize a.heap.size=sc at *;have l:=C.out
 go_region_held3 (fun w'=>w'.cell? ⟨v,0,U⟩=W (az b)/\w'.cell? ⟨v,1,U⟩=W (Z .i64 (n:Int))/\w'.cell? ⟨sc,0,U⟩=W (Z .i64 (d:Int))/\w'.cell? ⟨sc,1,U⟩=W (Y (str nm)))
  (first|exact l|exact k1|go_keep)
  (first
   | (go_at_call 82;refine (M.out _ y.out.drew).mono ?_;rintro e j ⟨rfl,o,c⟩;have k1:j.cell? ⟨v,0,U⟩=W (az b)/\j.cell? ⟨v,1,U⟩=W (Z .i64 (n:Int))/\j.cell? ⟨sc,0,U⟩=W (Z .i64 (d:Int))/\j.cell? ⟨sc,1,U⟩=W (Y (str nm)):=⟨c.ah.cell 0,c.ah.cell 1,c.aw.cell 0,c.aw.cell 1⟩)
   | (go_at_call 34;refine (B.out _).mono ?_;rintro e w5 ⟨rfl,rfl⟩))
 rename_i e0;have t:=ae (G.out.drew.trans o);rw [show dp (fR T) d (W (eK 1 (kZ L i)))=fR (gj T d (kZ L i)) from sk T d (.dir (kZ L i))] at c;have u:=ae (c.to (by unfold vA;ac_rfl:_=pt sc (V #[Z .i64 (d:Int),Y (str nm)] 83 (0,0))*(vA (x.more 9) b v (gj T d (kZ L i)) (k+aY L.length-aY (L.length-1))*(D*F)))).right;clear c o
 go_wp2_with fail
 go_end0
 exact A.out _ _ ⟨.inl ⟨rfl,rfl⟩,t.out,u.out⟩
end
end Go.Proofs.Cl
namespace Go.SL
open RowKit
def mN (kd:Int):tQ:=if kd=1 then .file (jx 1) else .dir []
theorem FW {kd:Int} (h:kd=1\/kd=2):(mN kd).af=jx kd:=by
 rcases h with rfl|rfl
 .rfl
 .exact No.symm
theorem A7 (a:Int):eP (W (mN a))=[]:=by unfold mN;split <;> rfl
theorem N4 {id:Nat} (h:id≠1) (a:Int):CH id (W (mN a))=1:=by
 unfold mN;split
 .rfl
 .show (if id=1 then (0:Int) else 1)=1;rw [if_neg h]
theorem oJ.snoc {L:List aH} (h:oJ L) {id:Nat} {nm:List UInt8} (m:1<=id) (o:id<=3839) (l:cM nm=true) (g:iz L nm=U) (r:L.length<3840):oJ (L++[⟨id,nm⟩]):=by
 refine ⟨z8 h.ok (aH.mw.2 ⟨m,o,sf l⟩),by rw [List.length_append,E1];omega,?_,fun e c=>?_⟩
 .rw [List.map_append,List.nodup_append]
  refine ⟨h.nd,by simp,fun a q b j=>?_⟩;obtain ⟨e,c,rfl⟩:=List.mem_map.1 q;simp only [List.map_cons,List.map_nil,List.mem_singleton] at j;subst j;unfold iz at g;rw [List.findIdx?_eq_none_iff] at g;simpa using g e c
 .rcases List.mem_append.1 c with c|c
  .exact h.nm e c
  .rw [List.mem_singleton.1 c];exact l
theorem oJ.nil:oJ []:=⟨fun e a=>(by cases a),Nat.zero_le _,List.nodup_nil,fun e a=>(by cases a)⟩
variable {n d id:Nat} {T:Tr} {L:List aH} {nm:List UInt8}
theorem Tidy.Oq (h:Tidy n T) (a:T id=U):id≠1:=by
 rintro rfl;obtain ⟨L,c⟩:=h.root;rw [c] at a;cases a
def NB (T:Tr) (d id:Nat) (nm:List UInt8) (a:Int):Tr:=Go.SL.dp (dp T id (W (mN a))) d (W (.dir (eP (T d)++[⟨id,nm⟩])))
theorem Tidy.make (h:Tidy n T) (l:T d=W (.dir L)) (m:T id=U) (y:0<id) (A:id<n) (O:n<=3840) {a:Int} (N:a=1\/a=2) (H:cM nm=true) (I:iz L nm=U) (G:L.length<3840):Tidy n (NB T d id nm a):=by
 have t:id≠d:=by rintro rfl;rw [l] at m;cases m
 have s:=h.Oq m;have B:eP (T d)=L:=by rw [l];rfl
 have E:=h.lt l;unfold NB;rw [B];have o:∀ x,dp (dp T id (W (mN a))) d (W (.dir (L++[⟨id,nm⟩]))) x=if x=d then W (.dir (L++[⟨id,nm⟩])) else if x=id then W (mN a) else T x:=fun x=>rfl
 have J:∀ x,refs n (dp (dp T id (W (mN a))) d (W (.dir (L++[⟨id,nm⟩])))) x=refs n T x+if id=x then 1 else 0:=fun x=>by
  have r:=rq (T:=T) A (W (mN a)) x;have c:=rq (T:=dp T id (W (mN a))) E (W (.dir (L++[⟨id,nm⟩]))) x;rw [m,A7] at r;rw [aK _ _ (Ne.symm t),l] at c;simp only [eP,List.countP_nil,List.countP_append,List.countP_cons,Nat.add_zero,Nat.zero_add] at r c
  by_cases q:id=x
  .rw [if_pos q];subst q;simp at c;omega
  .rw [if_neg q];simp [q] at c;omega
 refine ⟨?_,fun x M g=>?_,fun x f j=>?_,fun x=>?_,fun x K=>?_⟩
 .obtain ⟨u,C⟩:=h.root
  rw [o]
  by_cases e:1=d
  .exact ⟨_,if_pos e⟩
  .rw [if_neg e,if_neg (Ne.symm s)];exact ⟨u,C⟩
 .rw [o] at g
  split at g
  .cases g;exact (h.pC _ _ l).snoc y (by omega) H I G
  .split at g
   .have:M=[]:=by rw [<- A7 a];injection g with g;rw [g];rfl
    rw [this];exact oJ.nil
   .exact h.pC _ _ g
 .rw [o] at j
  split at j
  .cases j
  .split at j
   .unfold mN at j;split at j <;> cases j;rfl
   .exact h.files _ _ j
 .rw [J,o]
  have:=h.ref x
  by_cases e:x=d
  .subst e;rw [if_pos rfl,if_neg t];rw [l] at this;exact this
  .rw [if_neg e]
   by_cases c:x=id
   .subst c;rw [if_pos rfl,if_pos rfl,N4 s];rw [m] at this;simp only [CH] at this;omega
   .rw [if_neg c,if_neg (Ne.symm c)];exact this
 .rw [o,if_neg (by omega),if_neg (by omega)];exact h.out x K
def fZ (T:Tr) (k:Nat) (p:List UInt8):Int:=match bA p with
 | none=>1
 | some ps=>if fI T ps≠0 then fI T ps else if qk (eP (T (dw T ps)))≠0 then 9 else if k=0 then 7 else kP (k-1) (eP (T (dw T ps))) (cG ps)
def Tj (k:Nat) (L:List aH):Nat:=k-1+aY L.length-aY (L.length+1)
end Go.SL
namespace Go.SL
open RowKit
variable {y:tQ} {y':Option tQ}
theorem rX {c:Type} (z:c):∀ (L:List c) (i:Nat),i<L.length->(L.set i z).Perm (z :: L.eraseIdx i)
 | a :: L,0,_=>by simp
 | a :: L,i+1,h=>by
  have:=rX z L i (by simpa using h);rw [Z0,List.eraseIdx_cons_succ];exact (this.cons a).trans (List.Perm.swap z a _)
theorem xI {L:List aH} {i:Nat} (a:i<L.length):(L[i] :: kZ L i).Perm L:=by
 have c:(L[i] :: L.eraseIdx i).Perm L:=by
  have:=rX L[i] L i a;rw [List.set_getElem_self] at this;exact this.symm
 refine List.Perm.trans (List.Perm.cons _ ?_) c
 obtain ⟨M,z,rfl⟩:∃ M z,L=M++[z]:=by
  rcases H1 L with rfl|⟨M,z,h⟩
  .simp at a
  .exact ⟨M,z,by rw [h,K1]⟩
 have e:(M++[z]).length-1=M.length:=by simp
 unfold kZ;rw [e,show (M++[z]).getD M.length aH.no=z by simp [X0]];rw [List.length_append,E1] at a
 by_cases h:i=M.length
 .subst h
  rw [List.set_append_right _ _ (Nat.le_refl _),Nat.sub_self,A1,List.take_left',List.eraseIdx_append_of_length_le (Nat.le_refl _)]
  .simp
  .rfl
 .rw [List.set_append_left _ _ (by omega),List.take_left' (by rw [List.length_set]),List.eraseIdx_append_of_lt_length (by omega)]
  exact (rX z M i (by omega)).trans (List.perm_append_singleton z _).symm
theorem oJ.rm {L:List aH} (h:oJ L) {i:Nat} (a:i<L.length):oJ (kZ L i):=by
 have c:=xI a;refine ⟨Ou h.ok a,by rw [gT];have:=h.len;omega,?_,fun e g=>h.nm e (c.mem_iff.1 (List.mem_cons_of_mem _ g))⟩;have:=(c.map aH.nm).nodup_iff.2 h.nd;rw [List.map_cons,List.nodup_cons] at this;exact this.2
structure jq (n:Nat) (T:Tr) (z:Nat->Int):Prop where
 root:∃ L,T 1=some (.dir L)
 pC:∀ id L,T id=some (.dir L)->oJ L
 files:∀ id f,T id=some (.file f)->f.kd=1
 ref:∀ id,(refs n T id:Int)=CH id (T id)+z id
 out:∀ id,n<=id->T id=none
section
variable {n d id i:Nat} {T:Tr} {L:List aH} {nm:List UInt8} {z:Nat->Int} {f f':AF}
theorem Tidy.w (h:Tidy n T):jq n T fun _=>0:=⟨h.root,h.pC,h.files,fun id=>by rw [h.ref id];omega,h.out⟩
theorem jq.tidy (h:jq n T z) (a:∀ id,z id=0):Tidy n T:=⟨h.root,h.pC,h.files,fun id=>by rw [h.ref id,a];omega,h.out⟩
theorem jq.lt (h:jq n T z) {x:tQ} (a:T id=W x):id<n:=by
 by_cases c:id<n
 .exact c
 .rw [h.out id (by omega)] at a;cases a
theorem jq.set (h:jq n T z) {M:List aH} (g:T d=W (.dir L)) (r:oJ M) {m:Nat->Int} (u:∀ x,((M.countP fun e=>e.nd == x:Nat):Int)-((L.countP fun e=>e.nd == x:Nat):Int)=m x-z x):jq n (gj T d M) m:=by
 have a:∀ x,gj T d M x=if x=d then W (.dir M) else T x:=fun x=>rfl
 refine ⟨?_,fun x N c=>?_,fun x f j=>?_,fun x=>?_,fun x t=>?_⟩
 .obtain ⟨o,q⟩:=h.root
  rw [a]
  by_cases e:1=d
  .exact ⟨_,if_pos e⟩
  .rw [if_neg e];exact ⟨o,q⟩
 .rw [a] at c
  split at c
  .cases c;exact r
  .exact h.pC _ _ c
 .rw [a] at j
  split at j
  .cases j
  .exact h.files _ _ j
 .have l:=rq (T:=T) (h.lt g) (W (.dir M)) x
  rw [g] at l;simp only [eP] at l;have A:=u x;have y:=h.ref x
  have s:CH x (gj T d M x)=CH x (T x):=by
   rw [a]
   by_cases e:x=d
   .subst e;rw [if_pos rfl,g];rfl
   .rw [if_neg e]
  rw [s];unfold gj;omega
 .rw [a,if_neg (by have:=h.lt g;omega)]
  exact h.out x t
theorem jq.add (h:jq n T z) (c:T d=W (.dir L)) (a:oJ (L++[⟨id,nm⟩])):jq n (gj T d (L++[⟨id,nm⟩])) fun x=>z x+if x=id then 1 else 0:=by
 refine h.set c a fun x=>?_;rw [List.countP_append]
 by_cases e:x=id
 .subst e;simp;omega
 .have:¬ id=x:=Ne.symm e
  simp [e,this]
theorem jq.rm (h:jq n T z) (a:T d=W (.dir L)) (c:i<L.length):jq n (gj T d (kZ L i)) fun x=>z x-if x=(L[i]).nd then 1 else 0:=by
 refine h.set a ((h.pC _ _ a).rm c) fun x=>?_;have:=(xI c).countP_eq (fun e=>e.nd == x);rw [List.countP_cons] at this
 by_cases e:x=(L[i]).nd
 .subst e;simp at this ⊢;omega
 .have g:¬ (L[i]).nd=x:=Ne.symm e
  simp [g] at this;simp [e];omega
theorem jq.leaf (h:jq n T z) (j:T id=W y) (s:eP (W y)=[]) (t:eP y'=[]) (o:id≠1) (r:∀ L,y'≠W (.dir L)) (u:∀ f,y'=W (.file f)->f.kd=1):jq n (dp T id y') fun x=>z x+if x=id then CH id (W y)-CH id y' else 0:=by
 have a:∀ x,dp T id y' x=if x=id then y' else T x:=fun x=>rfl
 refine ⟨?_,fun x N c=>?_,fun x f g=>?_,fun x=>?_,fun x A=>?_⟩
 .obtain ⟨m,q⟩:=h.root
  exact ⟨m,by rw [a,if_neg (Ne.symm o)];exact q⟩
 .rw [a] at c
  split at c
  .exact absurd c (r N)
  .exact h.pC _ _ c
 .rw [a] at g
  split at g
  .exact u f g
  .exact h.files _ _ g
 .have l:=rq (T:=T) (h.lt j) y' x
  rw [j,s,t] at l;simp only [List.countP_nil,Nat.add_zero] at l;rw [l,a,h.ref x]
  by_cases e:x=id
  .subst e;rw [if_pos rfl,if_pos rfl,j];omega
  .rw [if_neg e,if_neg e];omega
 .rw [a,if_neg (by have:=h.lt j;omega)]
  exact h.out x A
end
theorem vV (T:Tr) (nm:List UInt8):∀ (e:List (List UInt8)) (id:Nat),(aT T id (e++[nm])).1=0->(aT T id e).1=0/\(ee (T (aT T id e).2) nm).1=0/\(aT T id (e++[nm])).2=(ee (T (aT T id e).2) nm).2
 | [],id,h=>by
  by_cases c:(ee (T id) nm).1=0
  .rw [List.nil_append,iP c] at *
   exact ⟨rfl,c,rfl⟩
  .rw [List.nil_append,rj c] at h
   exact absurd h c
 | a :: e,id,h=>by
  rw [List.cons_append] at h ⊢
  by_cases c:(ee (T id) a).1=0
  .rw [iP c] at h ⊢
   rw [iP c];exact vV T nm e _ h
  .rw [rj c] at h
   exact absurd h c
theorem Ei {nm:List UInt8} (h:(ee y' nm).1=0):∃ L i,y'=W (.dir L)/\iz L nm=W i/\(ee y' nm).2=(L.getD i aH.no).nd:=by
 cases y' with
 | none=>exact absurd h (show ¬ (4:Int)=0 by decide)
 | some y'=>cases y' with
  | file f=>exact absurd h (show ¬ (8:Int)=0 by decide)
  | dir L=>
   cases a:iz L nm with
   | none=>rw [mu a] at h;exact absurd h (show ¬ (5:Int)=0 by decide)
   | some i=>exact ⟨L,i,rfl,a,by rw [jS a]⟩
theorem Gt {T:Tr} {ps:List (List UInt8)} (r:ps≠[]) (h:(aT T 1 ps).1=0):(aT T 1 ps.dropLast).1=0/\∃ L i,∃ c:i<L.length,T (dw T ps)=W (.dir L)/\iz L (cG ps)=W i/\(L[i]).nd=(aT T 1 ps).2:=by
 obtain ⟨a,nm,rfl⟩:∃ a nm,ps=a++[nm]:=by
  rcases H1 ps with h|⟨M,z,h⟩
  .exact absurd h r
  .exact ⟨M,z,by rw [h,K1]⟩
 obtain ⟨l,m,o⟩:=vV T nm a 1 h;obtain ⟨L,i,g,e,j⟩:=Ei m;have q:cG (a++[nm])=nm:=by unfold cG;simp [X0]
 have c:=vq e;unfold dw;rw [List.dropLast_concat,q,o,j];exact ⟨l,L,i,c,g,e,by rw [X0,Y0 c];rfl⟩
section
variable {n d id i:Nat} {T:Tr} {L:List aH} {f:AF}
theorem Tidy.Nu (h:Tidy n T) (a:T d=W (.dir L)) {e:aH} (m:e ∈ L):e.nd≠1:=fun j=>by
 have o:=vI (h.lt a) a m;rw [j] at o;obtain ⟨c,l⟩:=h.root;have:=h.ref 1;rw [l] at this;have g:CH 1 (W (.dir c))=0:=rfl;rw [g] at this;omega
def ET (T:Tr) (d id:Nat) (L:List aH) (i:Nat):Tr:=Go.SL.dp (gj T d (kZ L i)) id U
theorem Tidy.gone (h:Tidy n T) (a:T d=W (.dir L)) (c:i<L.length) (j:(L[i]).nd=id) (l:T id=W y) (o:eP (W y)=[]) (s:CH id (W y)=1):Tidy n (ET T d id L i):=by
 have m:=h.Nu a (B1 c);rw [j] at m
 have t:id≠d:=by
  rintro rfl;rw [a] at l;cases l
  have:L=[]:=o;subst this;simp at c
 have u:gj T d (kZ L i) id=W y:=by unfold gj;rw [aK _ _ t];exact l
 have r:=(h.w.rm a c).leaf (y':=U) u o rfl m (fun L e=>by cases e) (fun g e=>by cases e);refine r.tidy fun x=>?_
 by_cases e:x=id
 .subst e;rw [s];simp [j,CH]
 .have q:¬ x=(L[i]).nd:=by rw [j];exact e
  simp [e,q]
def zX (T:Tr) (d id:Nat) (L:List aH) (i:Nat) (f:AF):Tr:=Go.SL.dp (gj T d (kZ L i)) id (W (.file { f with lk:=f.lk-1 }))
theorem Tidy.less (h:Tidy n T) (c:T d=W (.dir L)) (l:i<L.length) (j:(L[i]).nd=id) (a:T id=W (.file f)):Tidy n (zX T d id L i f):=by
 have r:id≠d:=by rintro rfl;rw [c] at a;cases a
 have s:gj T d (kZ L i) id=W (.file f):=by unfold gj;rw [aK _ _ r];exact a
 have o:id≠1:=by have:=h.Nu c (B1 l);rwa [j] at this
 have q:=(h.w.rm c l).leaf (y':=W (.file { f with lk:=f.lk-1 })) s rfl rfl o (fun L e=>by cases e) (fun g e=>by cases e;exact (h.files _ _ a:f.kd=1));refine q.tidy fun x=>?_
 by_cases e:x=id
 .subst e;simp [j,CH];omega
 .have m:¬ x=(L[i]).nd:=by rw [j];exact e
  simp [e,m]
end
theorem dq {p:List UInt8} {l:List (List UInt8)} (h:bA p=W l):l.all cM=true/\l.length<=1000:=by
 unfold bA at h
 split at h
 .cases h
 .rename_i a
  split at h
  .cases h;exact ⟨rfl,Nat.zero_le _⟩
  .split at h
   .rename_i c;cases h
    exact ⟨c,Nat.le_trans (kO _ _) (Nat.le_of_not_lt fun q=>a (.inl q))⟩
   .cases h
def bV (T:Tr) (p:List UInt8):Int × Nat:=match bA p with
 | none=>(1,0)
 | some l=>aT T 1 l
theorem qE {T:Tr} {p:List UInt8} (h:bA p=U):bV T p=(1,0):=by unfold bV;rw [h]
theorem fD {T:Tr} {p:List UInt8} {l:List (List UInt8)} (h:bA p=W l):bV T p=aT T 1 l:=by unfold bV;rw [h]
def tp:Option tQ->Int × Int × Int
 | some (.file f)=>(f.kd,f.lk,(f.sz:Int))
 | some (.dir L)=>(2,1,((32*L.length:Nat):Int))
 | none=>(0,0,0)
end Go.SL
namespace Go.Proofs.Cl
open RowKit SL Proofs.Nn Proofs.Ba Proofs.Fs
attribute [local go_sem] Oper.semAt_some
theorem gN {v:Value} {l:List (List UInt8)} (a:R) (P:ai) (h:ag a (ei v l*P)):Dj a v l:=by
 unfold ei at h;rcases h.cW with ⟨rfl,m,_,_⟩|⟨g,e,j,rfl,o,q,y,r,u⟩
 .exact .inl ⟨U,0,rfl,List.eq_nil_of_length_eq_zero m⟩
 .refine .inr ⟨g,0,e,rfl,o,q,fun k c=>?_⟩
  have s:=u.cell k;rw [Nat.zero_add,s,<- Array.getElem?_toList];have t:(strs l)[k]?=j.toList[k]?:=by rw [<- r,List.getElem?_take,if_pos (by omega)]
  rw [<- t];unfold strs;rw [List.getElem?_map,Y0 c,X0,Y0 c]
  rfl
theorem eE {v:Value} {l:List (List UInt8)} {e:R} {P:ai} (h:ag e (ei v l*P)):∃ a c,v = .slice a l.length c:=aE h
def Nx (c:Int) (X a:ai) (w:R) (e:Ending) (w':R):Prop:=aj w w'/\((c=0/\e = Q (.tuple #[])/\ag w' X)\/(c≠0/\e = .panicked (nt c)/\ag w' a))
def aA (a:Nat) (p:List UInt8):ai:=pt a (V #[Y (str p)] 9 (0,0))
def eY (a:Nat) (z:Int × Int × Int):ai:=pt a (V #[Z .i64 z.1,Z .i64 z.2.1,Z .i64 z.2.2] 35 (0,0))
section
variable {n:Nat} {x:Fx n} {b v k pc sc:Nat} {T:Tr} {w:R} {F:ai} {p:List UInt8}
theorem Lb (C:Tidy n T) (h:ag w (vA x b v T k*(aA pc p*(eY sc (0,0,0)*F)))) :
  Calls S 41 #[az v,az pc,az sc] w (Nx (bV T p).1 (vA x b v T k*(aA pc p*(eY sc (tp (T (bV T p).2))*F))) (vA x b v T k*(aA pc p*(eY sc (0,0,0)*F))) w):=by
 refine aJ fun F0 c=>?_;have cp:w.cell? ⟨pc,0,U⟩=W (Y (str p)):=h.ah.cell 0;have d0:=ae h;have HT:=ae C
 cases g:bA p with
 | none=>
  rw [qE g] at c;have H:=ae (sa (w:=w) g);clear h C g
  go_enter func41,ntmps41
  go_wp2_with fail
  refine H.out.mono ?_;rintro b0 w2 ⟨rfl,s,m⟩;exact ⟨rfl,c.out _ _ ⟨s,.inr ⟨by decide,rfl,m.du d0.out⟩⟩⟩
 | some l=>
  rw [fD g] at c;obtain ⟨u0,hl⟩:=dq g;have H:=ae (dQ (w:=w) g);have j:=fun h0=>C.walk l C.root.choose_spec h0;have O:=ae j;have HL:=ae hl;clear h C g j u0 hl
  go_enter func41,ntmps41
  go_wp2_with fail
  refine H.out.mono ?_;rintro b0 w2 ⟨u,rfl,s,m⟩;have o:=m.under d0.out;have hw:=ae (fB HT.out HL.out gN (o.ah));generalize aT T 1 l=D0 at *;obtain ⟨G0,id⟩:=D0;dsimp only at c O hw;clear cp H m o HL
  go_wp2_with fail
  refine hw.out.mono ?_;rintro b0 w3 ⟨he,d3,o⟩;clear hw;rcases he with ⟨rfl,rfl⟩|⟨hc,rfl⟩
  .obtain ⟨y,j⟩:=O.out rfl
   have hn:=ae (lK j o);have l0:tp (T id)=(y.af.kd,y.af.lk,(y.af.sz:Int)):=by rw [j];cases y <;> rfl
   have j0:y.af.kd=2->y.af.lk=1:=by cases y with
    | file f=>intro h;have:=HT.out.files _ _ j;exact absurd (this.symm.trans h) (by decide)
    | dir L=>intro _;rfl
   rw [l0] at c;generalize y.af=f at *;have P:=ae j0;clear l0 j O j0
   go_wp2_with fail
   refine hn.out.mono ?_;rintro b0 a ⟨z,rfl,o0,p0,q0,r0,d4,h4⟩;obtain ⟨hX,k0,i0⟩:=nK o0;have hB:=h4.alloc (V mR 65 (0,0));have Hz:=ae hB.heap;have B:=hB.setRow (cs':=ints z.l);have n0:((a.alloc (V mR 65 (0,0))).setRow a.heap.size (ints z.l)).cell? ⟨a.heap.size,0,U⟩=W (Z .i64 f.kd):=by rw [<- p0];exact B.cell 0
   have n1:((a.alloc (V mR 65 (0,0))).setRow a.heap.size (ints z.l)).cell? ⟨a.heap.size,1,U⟩=W (Z .i64 f.lk):=by rw [<- q0];exact B.cell 1
   have n2:((a.alloc (V mR 65 (0,0))).setRow a.heap.size (ints z.l)).cell? ⟨a.heap.size,2,U⟩=W (Z .i64 (f.sz:Int)):=by rw [<- r0];exact B.cell 2
   have N:=ae B;have D5:=ae ((((s.trans d3).trans d4).alloc (V mR 65 (0,0))).setRow a.heap.size (ints z.l));have g0:=ae k0;have e0:=ae i0;have HX:=ae hX;have G:=ae n0;have X:=ae n1;have N2:=ae n2;obtain ⟨q,I⟩:∃ q,f.kd=q:=⟨_,rfl⟩
   obtain ⟨E,J⟩:∃ E,f.lk=E:=⟨_,rfl⟩
   obtain ⟨r,c0⟩:∃ r,(f.sz:Int)=r:=⟨_,rfl⟩
   rw [I,J,c0] at c;rw [I] at G;rw [J] at X;rw [c0] at N2;rw [I,J] at P;clear hn hB B hX k0 i0 n0 n1 n2 s d3 d4 o h4 o0 p0 q0 r0 I J c0;unfold mR at *
   go_upto_region 1 with (refine wpList_store_row (by exact rfl) 65 (.tmp 4) (.tmp 10) (by exact rfl) a.heap.size (ints z.l) (by exact rfl) (by exact rfl) 65 _ (by with_reducible exact Hz.out) e0.out (by rw [HX.out];rfl) g0.out ?_)
   generalize x0:(a.alloc (V #[Z .i64 0,Z .i64 0,Z .i64 0,Z .i64 0,Z .i64 0,Z .i64 0,Z .i64 0,Z .i64 0,Z .i64 0,Z .i64 0,Z .i64 0,Z .i64 0,Z .i64 0,Z .i64 0,Z .i64 0,Z .i64 0,Z .i64 0,Z .i64 0,Z .i64 0,Z .i64 0] 65 (0,0))).setRow a.heap.size (ints z.l)=w5 at *;generalize a.heap.size=nb at *;have e:=N.out.to (by unfold eY;ac_rfl:_=pt sc (V #[Z .i64 0,Z .i64 0,Z .i64 0] 35 (0,0))*(pt nb (V (ints z.l) 65 (0,0))*(vA x b v T k*(ei u l*(aA pc p*F)))));have n0:=G.out;have n1:=X.out;have n2:=N2.out;have z0:w5.cell? ⟨sc,0,U⟩=W (Z .i64 0):=e.cell 0;have z1:w5.cell? ⟨sc,1,U⟩=W (Z .i64 0):=e.cell 1;have z2:w5.cell? ⟨sc,2,U⟩=W (Z .i64 0):=e.cell 2;have f0:=e.frozen 0;have f1:=e.frozen 1;have f2:=e.frozen 2;have t:=((e.setCell 0 (Z .i64 q)).setCell 1 (Z .i64 E)).setCell 2 (Z .i64 r);have m0:=(t.ah.cell 0).trans ((N.out.cell 0).symm.trans G.out);have y1:=t.cell 1;have g1:=t.frozen 1;have M:=ae t;have K:=ae (((D5.out.setCell ⟨sc,0,U⟩ (Z .i64 q)).setCell ⟨sc,1,U⟩ (Z .i64 E)).setCell ⟨sc,2,U⟩ (Z .i64 r));simp at y1;clear e t N D5 G X N2 x0 Hz g0 e0 HX
   by_cases m:q=2
   .subst m
    have s0:=P.out rfl;subst s0;have h8:=ae (M.out.setCell 1 (Z .i64 1));have D8:=ae (K.out.setCell ⟨sc,1,U⟩ (Z .i64 1));clear M K P
    go_wp2_with fail
    go_end0
    refine c.out _ _ ⟨D8.out,.inl ⟨rfl,rfl,?_⟩⟩;have A:=h8.out;simp only [L1,A1,Z0] at A;exact (A.to (by unfold eY;ac_rfl:_=(pt nb (V (ints z.l) 65 (0,0))*ei u l)*(vA x b v T k*(aA pc p*(eY sc (2,1,r)*F))))).right
   .go_wp2_with fail
    go_end0
    refine c.out _ _ ⟨K.out,.inl ⟨rfl,rfl,?_⟩⟩;have A:=M.out;simp only [L1,A1,Z0] at A;exact (A.to (by unfold eY;ac_rfl:_=(pt nb (V (ints z.l) 65 (0,0))*ei u l)*(vA x b v T k*(aA pc p*(eY sc (q,E,r)*F))))).right
  .exact ⟨rfl,c.out _ _ ⟨s.trans d3,.inr ⟨hc,rfl,(o.to (by ac_rfl:_=ei u l*(vA x b v T k*(aA pc p*(eY sc (0,0,0)*F))))).right⟩⟩⟩
end
def To {n:Nat} (x:Fx n) (b v:Nat) (h:Int->Tr->Nat->Prop) (X:ai) (w:R) (e:Ending) (w':R):Prop:=
 ∃ c a g j,h c a g/\(c=0->Tidy n a)/\((c=0/\e = Q (.tuple #[]))\/(c≠0/\e = .panicked (nt c)))/\aj w w'/\j<=24/\ag w' (vA (x.more j) b v a g*X)
def mH (n:Nat) (T:Tr) (k:Nat) (kd:Int) (p:List UInt8) (c:Int) (a:Tr) (e:Nat):Prop:=
 c=fZ T k p/\(c=0->∃ ps L id,bA p=W ps/\T (dw T ps)=W (.dir L)/\iz L (cG ps)=U/\T id=U/\0<id/\id<n/\a=NB T (dw T ps) id (cG ps) kd/\e=Tj k L)
def bd (a:Nat) (z:Int):ai:=pt a (V #[Z .i64 z] 3 (0,0))
section
variable {n:Nat} {x:Fx n} {b v k pc kc:Nat} {T:Tr} {w w':R} {F:ai} {p:List UInt8}
theorem xx (e:Tidy n T) {ps:List (List UInt8)} (h:fI T ps=0):ps≠[]/\∃ L,T (dw T ps)=W (.dir L)/\iz L (cG ps)=U:=by
 unfold fI at h
 split at h
 .exact absurd h (by decide)
 .rename_i g
  split at h
  .rename_i a;exact absurd h a
  .rename_i a
   have a:(aT T 1 ps.dropLast).1=0:=by simpa using a
   obtain ⟨y,c⟩:=e.walk ps.dropLast e.root.choose_spec a;refine ⟨g,?_⟩;unfold dw
   cases y with
   | file f=>rw [c] at h;exact absurd h (show ¬ (8:Int)=0 by decide)
   | dir L=>
    refine ⟨L,c,?_⟩
    cases j:iz L (cG ps) with
    | none=>rfl
    | some i=>rw [c,jS j] at h;exact absurd h (show ¬ (6:Int)=0 by decide)
theorem FR {ps:List (List UInt8)} (h:ps.all cM=true) (a:ps≠[]):cM (cG ps)=true:=by
 have c:=List.length_pos_iff.2 a;unfold cG;rw [X0,Y0 (by omega)];exact List.all_eq_true.1 h _ (B1 _)
theorem LY {a:Int} (h0:a=1\/a=2) (hn:n<=3840) (ht:Tidy n T) (y:fZ T k p=0) (c0:ag w (vA x b v T k*(aA pc p*(bd kc a*F)))) :
  Calls S 69 #[az v,az pc,az kc] w (To x b v (mH n T k a p) (aA pc p*(bd kc a*F)) w):=by
 refine aJ fun D0 HQ=>?_;have cp:w.cell? ⟨pc,0,U⟩=W (Y (str p)):=c0.ah.cell 0;have u0:=ae c0;have E:=ae ht
 cases l:bA p with
 | none=>
  have g:(1:Int)=fZ T k p:=by unfold fZ;rw [l]
  exact absurd (g.trans y) (by decide)
 | some ps=>
  obtain ⟨r0,hl⟩:=dq l;have o0:fZ T k p=if fI T ps≠0 then fI T ps else if qk (eP (T (dw T ps)))≠0 then 9 else if k=0 then 7 else kP (k-1) (eP (T (dw T ps))) (cG ps):=by unfold fZ;rw [l]
  have J:=ae (dQ (w:=w) l);have HL:=ae hl;have b0:=ae o0;have HS:=ae l;have m0:=ae r0;clear c0 ht l hl o0 r0
  go_enter func69,ntmps69
  go_wp2_with fail
  refine J.out.mono ?_;rintro e w2 ⟨u,rfl,d2,h2⟩;have t:=(h2.under u0.out).ah;have hw:=ae (vB E.out HL.out (fun V0 T0 hW=>eE hW) gN t);clear cp J h2 t HL
  go_wp2_with fail
  refine hw.out.mono ?_;rintro e o ⟨he,d3,t⟩;clear hw;rcases he with ⟨f0,rfl⟩|⟨g,rfl⟩
  .obtain ⟨p0,L,h,r⟩:=xx E.out f0
   have M:=FR m0.out p0;have K:fZ T k p=if qk L≠0 then 9 else if k=0 then 7 else kP (k-1) L (cG ps):=by rw [b0.out,if_neg (by rw [f0];simp),h];rfl
   have n0:Hid (∀ id,T id=U->0<id->id<n->kP (k-1) L (cG ps)=0->qk L=0->k≠0->∀ j,j<=24->∀ w',aj w w'->ag w' (vA (x.more j) b v (NB T (dw T ps) id (cG ps) a) (Tj k L)*(aA pc p*(bd kc a*F)))->D0 (Q (.tuple #[])) w'):=fun id m B O c N J j hj w' dd l=>by
    have G0:fZ T k p=0:=by rw [K,if_neg (by rw [N];simp),if_neg J,c]
    have L0:L.length<3840:=by unfold kP at c;rw [r] at c;simp only [Option.isSome_none,Bool.false_eq_true,if_false] at c;split at c;exact absurd c (by decide);omega
    exact HQ.out _ _ ⟨0,_,_,j,⟨G0.symm,fun _=>⟨ps,L,id,HS.out,h,r,m,B,O,rfl,rfl⟩⟩,fun _=>E.out.make h m B O hn h0 M r L0,.inl ⟨rfl,rfl⟩,dd,hj,l⟩
   have hE:=E.out.pC _ _ h;obtain ⟨d,e0⟩:∃ d,dw T ps=d:=⟨_,rfl⟩
   obtain ⟨nm,i0⟩:∃ nm,cG ps=nm:=⟨_,rfl⟩
   rw [e0,i0] at n0 ⊢;rw [i0] at K M r;rw [e0] at h;have I:=t.alloc (V #[Z .i64 (d:Int),Y (str nm)] 83 (0,0));have dB:=ae ((d2.trans d3).alloc (V #[Z .i64 (d:Int),Y (str nm)] 83 (0,0)));have hC:=I.to (by ac_rfl:_=vA x b v T k*(pt o.heap.size (V #[Z .i64 (d:Int),Y (str nm)] 83 (0,0))*(ei u ps*(aA pc p*(bd kc a*F)))));have N:=ae (I0 (nm:=nm) h hC);have s0:(o.alloc (V #[Z .i64 (d:Int),Y (str nm)] 83 (0,0))).cell? ⟨o.heap.size,0,U⟩=W (Z .i64 (d:Int)):=I.cell 0;have s1:(o.alloc (V #[Z .i64 (d:Int),Y (str nm)] 83 (0,0))).cell? ⟨o.heap.size,1,U⟩=W (Y (str nm)):=I.cell 1;have P:=ae h;have HE:=ae hE;have HN:=ae M;have HP:=ae r;have X:=ae K;clear I hC t d2 d3 h hE M r K e0 i0 f0 p0 b0 HS m0
   go_wp2_with fail
   generalize o.alloc (V #[Z .i64 (d:Int),Y (str nm)] 83 (0,0))=w4 at *;generalize o.heap.size=s at *;refine N.out.mono ?_;rintro e w5 ⟨he,d5,h5⟩;have D5:=ae (dB.out.trans d5);clear N dB d5 s0 s1;rcases he with ⟨j0,rfl⟩|⟨g,rfl⟩
   .have A:=h5.to (by unfold vA;ac_rfl:_=dS x b (fR T) k*(pt v (bT b n)*(bd kc a*(pt s (V #[Z .i64 (d:Int),Y (str nm)] 83 (0,0))*(ei u ps*(aA pc p*F))))))
    have k0:w5.cell? ⟨v,0,U⟩=W (az b)/\w5.cell? ⟨v,1,U⟩=W (Z .i64 (n:Int))/\w5.cell? ⟨kc,0,U⟩=W (Z .i64 a):=⟨A.ah.cell 0,A.ah.cell 1,A.aw.cell 0⟩
    have HV:=ae A
    by_cases g0:k=0
    .have H0:(7:Int)=fZ T k p:=by rw [X.out,if_neg (by rw [j0];simp),if_pos g0]
     exact absurd (H0.trans y) (by decide)
    .have q0:=ae fun w' (h':ag w' (dS x b (fR T) k*(pt v (bT b n)*(bd kc a*(pt s (V #[Z .i64 (d:Int),Y (str nm)] 83 (0,0))*(ei u ps*(aA pc p*F)))))))=>Tp h' h0 (by omega)
     have x0:=ae fun w=>dm w;clear A h5
     go_wp2_with fail
     go_region_held3 (fun w'=>w'.cell? ⟨v,0,U⟩=W (az b)/\w'.cell? ⟨v,1,U⟩=W (Z .i64 (n:Int))/\w'.cell? ⟨kc,0,U⟩=W (Z .i64 a))
      (first|exact k0|exact k1|go_keep)
      (first|(go_at_call 71;refine (q0.out _ HV.out.drew).mono ?_;rintro e C ⟨id,rfl,m,B,O,d6,q⟩;have k1:C.cell? ⟨v,0,U⟩=W (az b)/\C.cell? ⟨v,1,U⟩=W (Z .i64 (n:Int))/\C.cell? ⟨kc,0,U⟩=W (Z .i64 a):=⟨q.ah.cell 0,q.ah.cell 1,q.aw.cell 0⟩))
     rename_i F0;clear F0 k0 k1
     have l0:T id=U:=by unfold fR at m;cases hx:T id with
      | none=>rfl
      | some W0=>rw [hx] at m;cases m
     have R0:d≠id:=by rintro rfl;rw [P.out] at l0;cases l0
     rw [<- FW h0,sk] at q;have G:=q.to (by unfold vA;ac_rfl:_=vA (x.more 3) b v (dp T id (W (mN a))) (k-1)*(pt s (V #[Z .i64 (d:Int),Y (str nm)] 83 (0,0))*(ei u ps*(aA pc p*(bd kc a*F)))));have c:=ae (Bo (x:=x.more 3) (child:=id) B (by omega) (show dp T id (W (mN a)) d=W (.dir L) by rw [aK _ _ R0];exact P.out) HE.out HN.out G);have s0:C.cell? ⟨s,0,U⟩=W (Z .i64 (d:Int)):=G.ah.cell 0;have s1:C.cell? ⟨s,1,U⟩=W (Y (str nm)):=G.ah.cell 1;have D6:=ae (D5.out.drew.trans d6);clear q0 HV q G d6 m
     go_wp2_with fail
     refine (x0.out _).mono ?_;rintro e w7 ⟨rfl,rfl⟩
     go_wp2_with fail
     refine c.out.mono ?_;rintro e w8 hq;rcases hq with ⟨d0,rfl,d8,H⟩|⟨d0,rfl,d8,H⟩
     .have N0:gj (dp T id (W (mN a))) d (L++[⟨id,nm⟩])=NB T d id nm a:=by unfold NB gj;rw [P.out];rfl
      rw [N0] at H;have K0:=ae (n0.out id l0 B O d0 j0 g0 8 (by decide) _ (D6.out.trans d8) (H.to (by unfold Tj;ac_rfl:_=(ei u ps*pt s (V #[Z .i64 (d:Int),Y (str nm)] 83 (0,0)))*(vA (x.more 8) b v (NB T d id nm a) (Tj k L)*(aA pc p*(bd kc a*F))))).right);clear c H s0 s1
      go_wp2_with fail
      go_end0
      exact K0.out
     .exact absurd ((by rw [X.out,if_neg (by rw [j0];simp),if_neg g0]:fZ T k p=_).symm.trans y) d0
   .have h9:qk L=9:=by unfold qk at g ⊢;split;rfl;rename_i S0;rw [if_neg S0] at g;exact absurd rfl g
    exact absurd ((by rw [X.out,if_pos g]:fZ T k p=9).symm.trans y) (by decide)
  .exact absurd ((by rw [b0.out,if_pos g]:fZ T k p=_).symm.trans y) g
end
end Go.Proofs.Cl

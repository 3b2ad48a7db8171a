/- Steps. -/
import Derived.Test.YtacliaemfegopaaGreatDoorKP27
import Derived.Test.YtacliaemfegopaaGreatDoorKP18
import Derived.Test.YtacliaemfegopaaGreatDoorKP29
set_option linter.all false
set_option maxRecDepth 99999
set_option maxHeartbeats 0
open Go.SL
open Go.Value renaming int->Z,string->W
open Go.Obj renaming cells->Y
open Go.Ending renaming returned->Q
open Go renaming World->R
open Go.Proofs.Tryz renaming prog->S
open Option renaming some->V,none->U
open Go.Proofs.Tryz
open List renaming getD->X0,getElem?_eq_getElem->Y0,length_dropLast->Z0,setIfInBounds_toArray->A1
namespace Go.Proofs.Cl
open Go.RowKit Go.SL Go.Proofs.Nn Go.Proofs.Ba Go.Proofs.Fs
attribute [local go_sem] Oper.semAt_some
variable {y:uO}
def vA {n:Nat} (x:Fx n) (b v:Nat) (T:Tr) (k:Nat):ai:=pt v (cl b n)*eA x b (gJ T) k
def Rh (X:ai) (c:Int) (r:Value) (w:R) (e:Ending) (w':R):Prop:=
 ((c=0/\e = Q r)\/(c≠0/\e = .panicked (me c)))/\aj w w'/\ag w' X
section
variable {n:Nat} {x:Fx n} {b v k id:Nat} {T:Tr} {w:R} {D F:ai} {nm:List UInt8} {ps:List (List UInt8)} {pv:Value}
theorem pR (h:ag w (vA x b v T k*F)):ag w (pt v (cl b n)*(eA x b (gJ T) k*F)):=h.to (ax _ _ _)
theorem CY (h:ag w (pt v (cl b n)*(eA x b (gJ T) k*F))):ag w (vA x b v T k*F):=h.to (ax _ _ _).symm
theorem fL (A:Tidy n T) (y:ps.length<=1000) (u:∀ q P,ag q (D*P)->Bi q pv ps) (h:ag w (vA x b v T k*(D*F))) :
  Calls S 31 #[ay v,pv] w (Rh (vA x b v T k*(D*F)) (aT T 1 ps).1 (Z .i64 ((aT T 1 ps).2:Nat)) w):=by
 refine aJ fun H j=>?_;have g:=pR h;have C:w.cell? ⟨v,0,U⟩=V (ay b):=g.cell 0;have E:w.cell? ⟨v,1,U⟩=V (Z .i64 (n:Int)):=g.cell 1;have m:=ae (DT A y u (g.to (by ac_rfl:_=eA x b (gJ T) k*(D*(pt v (cl b n)*F)))));generalize aT T 1 ps=p at *;obtain ⟨c,r⟩:=p;dsimp only at m j;clear h g A y u
 go_enter func31,ntmps31
 go_wp2_with fail
 refine m.out.mono ?_;rintro e B ⟨rfl,s,t⟩;have o:=ae (CY (t.to (by ac_rfl:_=pt v (cl b n)*(eA x b (gJ T) k*(D*F)))));clear m t C E
 by_cases l:c=0
 .subst l
  have a:=dx B
  go_wp2_with fail
  refine a.mono ?_;rintro e G ⟨rfl,rfl⟩;clear a
  go_wp2_with fail
  exact j.out _ _ ⟨.inl ⟨rfl,rfl⟩,s,o.out⟩
 .have a:=dF B c l
  go_wp2_with fail
  refine a.mono ?_;rintro e G ⟨rfl,rfl⟩;clear a
  go_wp2_with fail
  exact ⟨rfl,j.out _ _ ⟨.inr ⟨l,rfl⟩,s,o.out⟩⟩
def RZ (f:AF) (X:ai) (w:R) (e:Ending) (w':R):Prop:=
 ∃ y:Nd,e = Q (.agg (ints y.l))/\y.dr.length=16/\y.kd=f.kd/\y.lk=f.lk/\y.sz=f.sz/\aj w w'/\ag w' X
theorem jc (C:T id=V y) (h:ag w (vA x b v T k*F)) :
  Calls S 44 #[ay v,Z .i64 (id:Int)] w (RZ y.af (vA x b v T k*F) w):=by
 refine aJ fun e0 H=>?_;have g:=(pR h).alloc (Y nE 73 (0,0));have t:=ae ((aj.refl w).alloc (Y nE 73 (0,0)));have P:(w.alloc (Y nE 73 (0,0))).cell? ⟨v,0,U⟩=V (ay b):=g.ah.cell 0;have X:(w.alloc (Y nE 73 (0,0))).cell? ⟨v,1,U⟩=V (Z .i64 (n:Int)):=g.ah.cell 1;have B:=ae (Co (g.to (by ac_rfl:_=eA x b (gJ T) k*(pt w.heap.size (Y nE 73 (0,0))*(pt v (cl b n)*F)))) (show gJ T id=V y.af by unfold gJ;rw [C];rfl));clear h g C;unfold nE at *
 go_enter func44,ntmps44
 go_wp2_with fail
 refine B.out.mono ?_;rintro e a ⟨z,rfl,E,b0,c0,d0,s,u⟩;have o:(ints z.l).size=20:=by rw [dz,Nd.cells E]
 have l:=u.alloc (Y #[Z .i64 0,Z .i64 0,Z .i64 0,Z .i64 0,Z .i64 0,Z .i64 0,Z .i64 0,Z .i64 0,Z .i64 0,Z .i64 0,Z .i64 0,Z .i64 0,Z .i64 0,Z .i64 0,Z .i64 0,Z .i64 0,Z .i64 0,Z .i64 0,Z .i64 0,Z .i64 0] 73 (0,0));have K:=ae l.heap;have A:=l.setRow (cs':=ints z.l);have j:=A.to (by ac_rfl:_=pt w.heap.size (Y #[Z .i64 0,Z .i64 0,Z .i64 0,Z .i64 0,Z .i64 0,Z .i64 0,Z .i64 0,Z .i64 0,Z .i64 0,Z .i64 0,Z .i64 0,Z .i64 0,Z .i64 0,Z .i64 0,Z .i64 0,Z .i64 0,Z .i64 0,Z .i64 0,Z .i64 0,Z .i64 0] 73 (0,0))*(pt a.heap.size (Y (ints z.l) 73 (0,0))*(pt v (cl b n)*(eA x b (gJ T) k*F))));have M:=ae j.ah.heap;have N:=ae j.heap;have m:=j.setRow (cs':=ints z.l);have O:=ae m.heap;have J:=ae (CY m.right.right);have G:=ae ((((t.out.trans s).alloc (Y #[Z .i64 0,Z .i64 0,Z .i64 0,Z .i64 0,Z .i64 0,Z .i64 0,Z .i64 0,Z .i64 0,Z .i64 0,Z .i64 0,Z .i64 0,Z .i64 0,Z .i64 0,Z .i64 0,Z .i64 0,Z .i64 0,Z .i64 0,Z .i64 0,Z .i64 0,Z .i64 0] 73 (0,0))).setRow a.heap.size (ints z.l)).setRow w.heap.size (ints z.l));have r:Hid ((ints z.l).all (·.oneCell')=true):=by simp [RowKit.Hid,ints,Value.oneCell']
 have c:Hid ((prog.info? 73).map (·.size)=V (ints z.l).size):=by show _=_;rw [o];exact bf
 have q:=ae o;have I:=ae fun w=>dx w;clear B u l A j m o s t P X
 go_wp2_with (refine wpList_store_row (by exact rfl) 73 (.tmp 5) (.tmp 14) (by exact rfl) a.heap.size (ints z.l) (by exact rfl) (by exact rfl) 73 _ (by with_reducible exact K.out) c.out (by rw [q.out];rfl) r.out ?_)
 generalize (a.alloc (Y #[Z .i64 0,Z .i64 0,Z .i64 0,Z .i64 0,Z .i64 0,Z .i64 0,Z .i64 0,Z .i64 0,Z .i64 0,Z .i64 0,Z .i64 0,Z .i64 0,Z .i64 0,Z .i64 0,Z .i64 0,Z .i64 0,Z .i64 0,Z .i64 0,Z .i64 0,Z .i64 0] 73 (0,0))).setRow a.heap.size (ints z.l)=w3 at *;refine (I.out w3).mono ?_;rintro e w4 ⟨rfl,rfl⟩
 go_wp2_with (first
  | (refine wpList_load_row (by exact rfl) 73 (.tmp 5) (by exact rfl) a.heap.size (by exact rfl) 73 (ints z.l) (0,0) _ (by with_reducible exact M.out) underlying73 rfl (by with_reducible exact c.out) ?_)
  | (refine wpList_store_row (by exact rfl) 73 (.tmp 4) (.tmp 18) (by exact rfl) w.heap.size (ints z.l) (by exact rfl) (by exact rfl) 73 _ (by with_reducible exact N.out) c.out (by rw [q.out];rfl) r.out ?_))
 exact bodyPost_ret (results_cell_row rfl _ _ w.heap.size 73 (ints z.l) (0,0) _ rfl O.out underlying73 rfl c.out) rfl (H.out _ _ ⟨z,rfl,E,b0,c0,d0,G.out,J.out⟩)
 go_show
theorem tD {f:AF} (m:T id=V (.file f)) (g a:Nat) (h:ag w (vA x b v T k*F)) :
  Calls S 46 #[ay v,Z .i64 (id:Int),Z .i64 (g:Int),Z .i64 (a:Int)] w fun e w'=>
   ∃ u,e = Q u/\aj w w'/\ag w' (bs 5 u (f.sub g a)*(vA x b v T k*F)):=by
 refine aJ fun B r=>?_;have c:=pR h;have s:w.cell? ⟨v,0,U⟩=V (ay b):=c.cell 0;have t:w.cell? ⟨v,1,U⟩=V (Z .i64 (n:Int)):=c.cell 1;have o:=ae (JV (c.to (by ac_rfl:_=eA x b (gJ T) k*(pt v (cl b n)*F))) (mC m) g a);clear h c m
 go_enter func46,ntmps46
 go_wp2_with fail
 refine o.out.mono ?_;rintro e A ⟨u,rfl,y,j⟩;have q:=ae (j.to (by unfold vA;ac_rfl:_=bs 5 u (f.sub g a)*(vA x b v T k*F)));clear o j s t;have l:=dx A
 go_wp2_with fail
 refine l.mono ?_;rintro e C ⟨rfl,rfl⟩;clear l
 go_wp2_with fail
 exact r.out _ _ ⟨u,rfl,y,q.out⟩
theorem dP {p:List UInt8} {l:List (List UInt8)} (h:aX p=V l):Calls S 32 #[W (str p)] w fun e w'=>∃ u,e = Q u/\aj w w'/\ag w' (eJ u l*whole w):=by
 refine aJ fun r m=>?_;have a:=ae (vV w p);unfold B2 at a;rw [h] at a;clear h
 go_enter func32,ntmps32
 go_wp2_with fail
 refine a.out.mono ?_;rintro e q ⟨u,rfl,o,c⟩;have j:=ae c;clear a c;have g:=dx q
 go_wp2_with fail
 refine g.mono ?_;rintro e s ⟨rfl,rfl⟩;clear g
 go_wp2_with fail
 exact m.out _ _ ⟨u,rfl,o,j.out⟩
theorem we {p:List UInt8} (h:aX p=U):Calls S 32 #[W (str p)] w fun e w'=>e = .panicked (me 1)/\aj w w'/\ag w' (whole w):=by
 refine aJ fun q l=>?_;have a:=ae (vV w p);unfold B2 at a;rw [h] at a;clear h
 go_enter func32,ntmps32
 go_wp2_with fail
 refine a.out.mono ?_;rintro e o ⟨u,rfl,m,c⟩;have j:=ae c.right;clear a c;have g:=dF o 1 (by decide)
 go_wp2_with fail
 refine g.mono ?_;rintro e r ⟨rfl,rfl⟩;clear g
 go_wp2_with fail
 exact ⟨rfl,l.out _ _ ⟨rfl,m,j.out⟩⟩
end
section
variable {n:Nat} {x:Fx n} {b v k id:Nat} {T:Tr} {w:R} {D F:ai} {nm:List UInt8} {ps:List (List UInt8)} {pv:Value}
def Q4 (c:Int) (X:ai) (w:R) (e:Ending) (w':R):Prop:=e = .panicked (me c)/\aj w w'/\ag w' X
theorem mz {z:Nd} (h:z.dr.length=16):(ints z.l).size=20/\(ints z.l).all (·.oneCell')=true/\(prog.info? 73).map (·.size)=V (ints z.l).size:=by
 have a:(ints z.l).size=20:=by rw [dz,Nd.cells h]
 exact ⟨a,by simp [ints,Value.oneCell'],by rw [a];exact bf⟩
def Qw (f:AF) (X:ai) (w:R) (e:Ending) (w':R):Prop:=(f.kd=1/\RZ f X w e w')\/(f.kd≠1/\Q4 8 X w e w')
theorem mM (hy:T id=V y) (h:ag w (vA x b v T k*F)) :
  Calls S 33 #[ay v,Z .i64 (id:Int)] w (Qw y.af (vA x b v T k*F) w):=by
 refine aJ fun e0 s=>?_;have N:=(h.alloc (Y nE 73 (0,0))).ah;have K:=ae ((aj.refl w).alloc (Y nE 73 (0,0)));have X:=ae (jc hy N);generalize y.af=f at *
 go_enter func33,ntmps33
 go_wp2_with fail
 refine X.out.mono ?_;rintro e a ⟨z,rfl,E,G,c0,d0,J,M⟩;obtain ⟨O,b0,P⟩:=mz E;have B:=M.alloc (Y nE 73 (0,0));have u:=ae B.heap;have m:=B.setRow (cs':=ints z.l);have n0:((a.alloc (Y nE 73 (0,0))).setRow a.heap.size (ints z.l)).cell? ⟨a.heap.size,0,U⟩=V (Z .i64 f.kd):=by rw [<- G];exact m.cell 0
 have I:=ae m.heap;have g:=ae (m.to (by unfold nE;ac_rfl:_=pt w.heap.size (Y nE 73 (0,0))*(pt a.heap.size (Y (ints z.l) 73 (0,0))*(vA x b v T k*F))));have q:=ae (((K.out.trans J).alloc (Y nE 73 (0,0))).setRow a.heap.size (ints z.l));have l:=ae b0;have c:=ae P;have j:=ae O;obtain ⟨o,C⟩:∃ o,f.kd=o:=⟨_,rfl⟩
 rw [C] at n0;have t:=ae C;have H:=ae fun w=>dF w 8 (by decide)
 by_cases A:o=1
 .subst A
  go_wp2_with (first
   | (refine wpList_store_row (by exact rfl) 73 (.tmp 5) (.tmp 8) (by exact rfl) a.heap.size (ints z.l) (by exact rfl) (by exact rfl) 73 _ (by with_reducible exact u.out) c.out (by rw [j.out];rfl) l.out ?_)
   | (refine wpList_load_row (by exact rfl) 73 (.tmp 5) (by exact rfl) a.heap.size (by exact rfl) 73 (ints z.l) (0,0) _ (by with_reducible exact I.out) underlying73 rfl (by with_reducible exact c.out) ?_)
   | (refine wpList_store_row (by exact rfl) 73 (.tmp 4) (.tmp 13) (by exact rfl) w.heap.size (ints z.l) (by exact rfl) (by exact rfl) 73 _ (by with_reducible exact g.out.heap) c.out (by rw [j.out];rfl) l.out ?_))
  have r:=g.out.setRow (cs':=ints z.l);exact bodyPost_ret (results_cell_row rfl _ _ w.heap.size 73 (ints z.l) (0,0) _ rfl r.heap underlying73 rfl c.out) rfl (s.out _ _ (.inl ⟨t.out,z,rfl,E,G,c0,d0,q.out.setRow w.heap.size (ints z.l),r.right.right⟩))
 .go_wp2_with (first
   | (refine wpList_store_row (by exact rfl) 73 (.tmp 5) (.tmp 8) (by exact rfl) a.heap.size (ints z.l) (by exact rfl) (by exact rfl) 73 _ (by with_reducible exact u.out) c.out (by rw [j.out];rfl) l.out ?_)
   | fail)
  refine (H.out _).mono ?_;rintro e w4 ⟨rfl,rfl⟩;exact ⟨rfl,s.out _ _ (.inr ⟨by rw [t.out];exact A,rfl,q.out,g.out.right.right⟩)⟩
theorem yZ {c:Func} {e:Array Value} {w:R} {a:Nat} {r:Int} {nm:List UInt8} (g:c.results=#[.cell 4 92]:=by rfl) (j:e[4]?=V (ay a)) (h:ag w (pt a (Y #[Z .i64 r,W (str nm)] 92 (0,0))*F)) :
  (results c e).run S w = .ok (.agg #[Z .i64 r,W (str nm)]) w:=
 results_cell_row g _ _ a 92 _ (0,0) _ (by simp [j]) h.heap underlying92 rfl (by kernel_rfl)
theorem GZ {q:R} {g o c m:Nat} (l:ps.length=m+1) (h:Bi q (.slice (V ⟨g,o,U⟩) (m+1) c) ps):Bi q (.slice (V ⟨g,o,U⟩) m c) ps.dropLast:=by
 rcases h with ⟨a,r,e,s⟩|⟨A,C,r,e,B,y,t⟩
 .rw [s] at l;simp at l
 .simp only [Value.slice.injEq,Option.some.injEq,Addr.mk.injEq] at e
  obtain ⟨⟨rfl,rfl,-⟩,-,rfl⟩:=e;have j:ps.dropLast.length=m:=by rw [Z0,l];rfl
  refine .inr ⟨g,o,c,by rw [j],by rw [j];omega,y,fun k u=>?_⟩;rw [j] at u;have:=t k (by omega)
  rwa [show ps.dropLast.getD k []=ps.getD k [] by
   rw [X0,X0,List.getElem?_dropLast,if_pos (by omega)]]
theorem Fj (ht:Tidy n T) (hl:ps.length<=1000) (b0:ps≠[]) (O:∀ a P,ag a (D*P)->Bi a pv ps) (h:ag w (vA x b v T k*(D*F))) :
  Calls S 78 #[ay v,pv] w (Rh (vA x b v T k*(D*F)) (aT T 1 ps.dropLast).1 (.agg #[Z .i64 ((aT T 1 ps.dropLast).2:Nat),W (str (cT ps))]) w):=by
 refine aJ fun g0 q=>?_;have k0:=List.length_pos_iff.2 b0;obtain ⟨m,B⟩:∃ m,ps.length=m+1:=⟨ps.length-1,by omega⟩
 have X:∀ a P,ag a (D*P)->∃ g o c,pv = .slice (V ⟨g,o,U⟩) (m+1) c/\m+1<=c/\c<=maxLen/\a.cell? ⟨g,o+m,U⟩=V (W (str (cT ps))):=fun a P l=>by
  rcases O a P l with ⟨h0,c,_,u⟩|⟨g,o,c,e,C,E,hc⟩
  .exact absurd u b0
  .rw [B] at e C
   refine ⟨g,o,c,e,C,E,?_⟩;have:=hc m (by omega);unfold cT
   rwa [B,Nat.add_sub_cancel]
 obtain ⟨g,o,c,rfl,C,E,-⟩:=X _ _ h.ah;have c0:∀ a P,ag a (D*P)->Bi a (.slice (V ⟨g,o,U⟩) m c) ps.dropLast:=fun a P l=>GZ B (O a P l)
 have y:∀ a P,ag a (D*P)->a.cell? ⟨g,o+m,U⟩=V (W (str (cT ps))):=fun a P l=>by
  obtain ⟨g',o',c',e,-,-,u⟩:=X a P l;obtain ⟨⟨rfl,rfl,-⟩,-,rfl⟩:=e;exact u
 obtain ⟨nm,d0⟩:∃ nm,cT ps=nm:=⟨_,rfl⟩
 rw [d0] at q y;have hA:=(h.alloc (Y #[Z .i64 0,.string ⟨#[]⟩] 92 (0,0)))
 have K:=ae ((aj.refl w).alloc (Y #[Z .i64 0,.string ⟨#[]⟩] 92 (0,0)));have hk:=fun w' (h':ag w' (vA x b v T k*(D*(pt w.heap.size (Y #[Z .i64 0,.string ⟨#[]⟩] 92 (0,0))*F))))=>fL (ps:=ps.dropLast) ht (by rw [Z0];omega) c0 h';have N:=hA.to (by ac_rfl:_=vA x b v T k*(D*(pt w.heap.size (Y #[Z .i64 0,.string ⟨#[]⟩] 92 (0,0))*F)));have q1:=y _ _ N.ah;generalize aT T 1 ps.dropLast=p at *;obtain ⟨J,r⟩:=p;have I:=ae hk;have G:=ae N;have H:=ae y;have b2:(m:Int)<=(c:Int):=by omega
 have b3:(m:Int)<(m:Int)+1:=by omega
 have l0:((m:Int)+1)<=(c:Int):=by omega
 have m0:(c:Int)<=9223372036854775807:=by unfold maxLen at E;omega
 go_enter func78,ntmps78
 go_wp2_with fail
 generalize w.heap.size=rc at *
 by_cases t:J=0
 .subst t
  go_region_held3 (fun w'=>w'.cell? ⟨g,o+m,U⟩=V (W (str nm)))
   (first|exact q1|exact q2|exact q3|go_keep)
   (first|(go_at_call 31;refine (I.out _ G.out.drew).mono ?_;rintro e w5 ⟨A,s,j⟩;obtain rfl:e = Q (Z .i64 (r:Int)):=A.elim (fun h=>h.2) (fun h=>absurd rfl h.1);have q2:=H.out _ _ j.ah;have z0:=j.aq.cell 0;have z1:=j.aq.cell 1;have f0:=j.aq.frozen 0;have f1:=j.aq.frozen 1;have q3:=H.out _ _ ((j.aq.setCell 0 (Z .i64 (r:Int))).setCell 1 (W (str nm))).aq;simp at z0 z1))
  have M:=((j.aq.setCell 0 (Z .i64 (r:Int))).setCell 1 (W (str nm)))
  have H6:=ae M;have H7:=ae (q.out _ _ ⟨.inl ⟨rfl,rfl⟩,((K.out.drew.trans s).setCell _ _).setCell _ _,M.right⟩)
  go_wp2_with fail
  exact bodyPost_ret (yZ rfl rfl H6.out) rfl H7.out
 .refine wp_region_held_drew (S:=fun w'=>w'.cell? ⟨g,o+m,U⟩=V (W (str nm))) (by kernel_rfl) q1 (fun i0=>?_)
  refine tk 0 ?_;refine tk 1 ?_;refine tk 2 ?_;refine tk 3 ?_;refine tk 5 ?_;refine tk 6 ?_;refine tk 7 ?_;refine tk 8 ?_;refine tr 4 fun e0 hK=>?_
  go_simp
  go_wp2_with (go_at_call 31;refine (I.out _ G.out.drew).mono ?_;rintro e w5 ⟨A,s,j⟩;obtain rfl:e = .panicked (me J):=A.elim (fun h=>absurd h.1 t) (fun h=>h.2);exact ⟨rfl,q.out _ _ ⟨.inr ⟨t,rfl⟩,K.out.drew.trans s,(j.to (by ac_rfl:_=pt rc (Y #[Z .i64 0,.string ⟨#[]⟩] 92 (0,0))*(vA x b v T k*(D*F)))).right⟩⟩)
def _root_.Go.SL.ft (T:Tr) (ps:List (List UInt8)):Int:=
 if ps=[] then 6 else if (aT T 1 ps.dropLast).1≠0 then (aT T 1 ps.dropLast).1 else if (eI (T (aT T 1 ps.dropLast).2) (cT ps)).1=0 then 6 else if (eI (T (aT T 1 ps.dropLast).2) (cT ps)).1=5 then 0 else (eI (T (aT T 1 ps.dropLast).2) (cT ps)).1
def _root_.Go.SL.fK (T:Tr) (ps:List (List UInt8)):Nat:=(aT T 1 ps.dropLast).2
theorem sH (y:Tidy n T) (hl:ps.length<=1000) (hs:∀ t P,ag t (D*P)->∃ a c,pv = .slice a ps.length c) (hD:∀ t P,ag t (D*P)->Bi t pv ps) (b0:ag w (vA x b v T k*(D*F))) :
  Calls S 51 #[ay v,pv] w (Rh (vA x b v T k*(D*F)) (ft T ps) (.agg #[Z .i64 (fK T ps:Nat),W (str (cT ps))]) w):=by
 refine aJ fun e0 g=>?_;obtain ⟨a,c,rfl⟩:=hs _ _ b0.ah;obtain ⟨m,I⟩:∃ m,ps.length=m:=⟨_,rfl⟩
 have hA:=b0.alloc (Y #[Z .i64 0,.string ⟨#[]⟩] 92 (0,0));have G:=ae ((aj.refl w).alloc (Y #[Z .i64 0,.string ⟨#[]⟩] 92 (0,0)));have C:=ae fun (w:R) (c:Int) (r:c≠0)=>dF w c r;have N:=ae (hA.to (by ac_rfl:_=vA x b v T k*(D*(pt w.heap.size (Y #[Z .i64 0,.string ⟨#[]⟩] 92 (0,0))*F))))
 by_cases s:ps=[]
 .have c0:m=0:=by rw [<- I,s];rfl
  have H:ft T ps=6:=if_pos s;rw [H] at g;rw [I,c0]
  go_enter func51,ntmps51
  go_wp2_with fail
  refine (C.out _ 6 (by decide)).mono ?_;rintro e w3 ⟨rfl,rfl⟩;exact ⟨rfl,g.out _ _ ⟨.inr ⟨by decide,rfl⟩,G.out,(N.out.to (by ac_rfl:_=pt w.heap.size (Y #[Z .i64 0,.string ⟨#[]⟩] 92 (0,0))*(vA x b v T k*(D*F)))).right⟩⟩
 .have d0:=ae (Fj y hl s hD N.out)
  have c0:¬ ((m:Int)=0):=by have:=List.length_pos_iff.2 s;omega
  have H:ft T ps=if (aT T 1 ps.dropLast).1≠0 then (aT T 1 ps.dropLast).1 else if (eI (T (aT T 1 ps.dropLast).2) (cT ps)).1=0 then 6 else if (eI (T (aT T 1 ps.dropLast).2) (cT ps)).1=5 then 0 else (eI (T (aT T 1 ps.dropLast).2) (cT ps)).1:=if_neg s
  have J:=fun (h0:(aT T 1 ps.dropLast).1=0)=>y.walk ps.dropLast (y.root.choose_spec) h0;rw [H] at g;unfold fK at g;rw [I] at d0 ⊢;generalize aT T 1 ps.dropLast=p at *;obtain ⟨cc,d⟩:=p;generalize cT ps=nm at *;have HY:=ae J;have HT:=ae y
  go_enter func51,ntmps51
  go_wp2_with fail
  refine d0.out.mono ?_;rintro e h ⟨he,O,h2⟩;generalize w.heap.size=l at *;rcases he with ⟨rfl,rfl⟩|⟨r,rfl⟩
  .obtain ⟨i0,J⟩:=HY.out rfl
   rw [if_neg (by decide)] at g;have hB:=h2.alloc (Y #[Z .i64 (d:Int),W (str nm)] 92 (0,0));have dB:=ae ((G.out.trans O).alloc (Y #[Z .i64 (d:Int),W (str nm)] 92 (0,0)));have q:=hB.to (by unfold vA;ac_rfl:_=pt v (cl b n)*(pt h.heap.size (Y #[Z .i64 (d:Int),W (str nm)] 92 (0,0))*(eA x b (gJ T) k*(pt l (Y #[Z .i64 0,.string ⟨#[]⟩] 92 (0,0))*(D*F)))));have K:(h.alloc (Y #[Z .i64 (d:Int),W (str nm)] 92 (0,0))).cell? ⟨v,0,U⟩=V (ay b)/\(h.alloc (Y #[Z .i64 (d:Int),W (str nm)] 92 (0,0))).cell? ⟨v,1,U⟩=V (Z .i64 (n:Int))/\(h.alloc (Y #[Z .i64 (d:Int),W (str nm)] 92 (0,0))).cell? ⟨h.heap.size,0,U⟩=V (Z .i64 (d:Int))/\(h.alloc (Y #[Z .i64 (d:Int),W (str nm)] 92 (0,0))).cell? ⟨h.heap.size,1,U⟩=V (W (str nm)):=⟨q.cell 0,q.cell 1,q.ah.cell 0,q.ah.cell 1⟩
   have K0:=ae K;have hf:=ae fun w' (h':ag w' (eA x b (gJ T) k*(pt v (cl b n)*(pt h.heap.size (Y #[Z .i64 (d:Int),W (str nm)] 92 (0,0))*(pt l (Y #[Z .i64 0,.string ⟨#[]⟩] 92 (0,0))*(D*F))))))=>vt (nm:=nm) HT.out J h';have HC:=ae q.aq;generalize eI (T d) nm=p at *;obtain ⟨E,g0⟩:=p
   go_wp2_with fail
   generalize h.heap.size=sc at *;have K:=K0.out
   go_region_held3 (fun w'=>w'.cell? ⟨v,0,U⟩=V (ay b)/\w'.cell? ⟨v,1,U⟩=V (Z .i64 (n:Int))/\w'.cell? ⟨sc,0,U⟩=V (Z .i64 (d:Int))/\w'.cell? ⟨sc,1,U⟩=V (W (str nm)))
    (first|exact K|exact k1|go_keep)
    (first|(go_at_call 97;refine (hf.out _ HC.out.drew).mono ?_;rintro e A ⟨rfl,d4,o⟩;have k1:A.cell? ⟨v,0,U⟩=V (ay b)/\A.cell? ⟨v,1,U⟩=V (Z .i64 (n:Int))/\A.cell? ⟨sc,0,U⟩=V (Z .i64 (d:Int))/\A.cell? ⟨sc,1,U⟩=V (W (str nm)):=⟨o.ah.cell 0,o.ah.cell 1,o.aq.cell 0,o.aq.cell 1⟩))
   have j:=o.to (by unfold vA;ac_rfl:_=pt sc (Y #[Z .i64 (d:Int),W (str nm)] 92 (0,0))*(pt l (Y #[Z .i64 0,.string ⟨#[]⟩] 92 (0,0))*(vA x b v T k*(D*F))));have s0:=j.cell 0;have s1:=j.cell 1;have z0:=j.ah.cell 0;have z1:=j.ah.cell 1;have f0:=j.ah.frozen 0;have f1:=j.ah.frozen 1;have h6:=ae ((j.ah.setCell 0 (Z .i64 (d:Int))).setCell 1 (W (str nm)));have M:=ae j.right.right;have B:=ae (dB.out.drew.trans d4)
   by_cases u:E=0
   .subst u
    rw [if_pos rfl] at g
    go_wp2_with fail
    refine (C.out _ 6 (by decide)).mono ?_;rintro e w5 ⟨rfl,rfl⟩;exact ⟨rfl,g.out _ _ ⟨.inr ⟨by decide,rfl⟩,B.out,M.out⟩⟩
   .rw [if_neg u] at g
    by_cases X:E=5
    .subst X
     rw [if_pos rfl] at g;have H7:=ae (g.out _ _ ⟨.inl ⟨rfl,rfl⟩,(B.out.setCell ⟨l,0,U⟩ (Z .i64 (d:Int))).setCell ⟨l,1,U⟩ (W (str nm)),h6.out.right.right⟩)
     go_wp2_with fail
     exact bodyPost_ret (yZ rfl rfl h6.out) rfl H7.out
    .rw [if_neg X] at g
     go_wp2_with fail
     refine (C.out _ E u).mono ?_;rintro e w5 ⟨rfl,rfl⟩;exact ⟨rfl,g.out _ _ ⟨.inr ⟨u,rfl⟩,B.out,M.out⟩⟩
  .refine ⟨rfl,g.out _ _ ⟨.inr ⟨?_,?_⟩,G.out.trans O,(h2.to (by ac_rfl:_=pt l (Y #[Z .i64 0,.string ⟨#[]⟩] 92 (0,0))*(vA x b v T k*(D*F)))).right⟩⟩
   .rw [if_pos r];exact r
   .rw [if_pos r]
theorem uz:∀ {z:Nd} (_:z.dr.length=16) (w:R),(Instr.field 73 (.agg (ints z.l)) 0).run S w = .ok (Z .i64 z.kd) w/\(Instr.field 73 (.agg (ints z.l)) 1).run S w = .ok (Z .i64 z.lk) w/\(Instr.field 73 (.agg (ints z.l)) 2).run S w = .ok (Z .i64 z.sz) w
 | ⟨a,c,e,[_,_,_,_,_,_,_,_,_,_,_,_,_,_,_,_],rw⟩,_,w=>⟨by kernel_rfl,by kernel_rfl,by kernel_rfl⟩
def _root_.Go.SL.pV (L:List aN):Int:=if 122880<=32*L.length then 9 else 0
theorem E0 {L:List aN} (G:T id=V (.dir L)) (h:ag w (vA x b v T k*F)) :
  Calls S 67 #[ay v,.agg #[Z .i64 (id:Int),W (str nm)]] w (Rh (vA x b v T k*F) (pV L) (.tuple #[]) w):=by
 refine aJ fun J a=>?_;have A:=h.alloc (Y #[Z .i64 (id:Int),W (str nm)] 92 (0,0));have t:=ae ((aj.refl w).alloc (Y #[Z .i64 (id:Int),W (str nm)] 92 (0,0)));have C:=ae (jc G A.ah)
 go_enter func67,ntmps67
 go_wp2_with fail
 refine C.out.mono ?_;rintro e K ⟨z,rfl,H,N,O,I,s,u⟩;have B:=fun w=>(uz H w).2.2;have o:z.sz=((32*L.length:Nat):Int):=I;have m:=ae (u.to (by ac_rfl:_=pt w.heap.size (Y #[Z .i64 (id:Int),W (str nm)] 92 (0,0))*(vA x b v T k*F))).right;have l:=ae (t.out.trans s);have r:=ae fun w=>dF w 9 (by decide);unfold pV at a;obtain ⟨q,E⟩:∃ q,32*L.length=q:=⟨_,rfl⟩
 rw [E] at o a;obtain ⟨g,j⟩:∃ g:Int,g=(q:Int):=⟨_,rfl⟩
 rw [o,<- j] at B
 by_cases c:122880<=q
 .rw [if_pos c] at a
  have y:(122880:Int)<=g:=by omega
  clear c j
  go_wp2_with fail
  refine (r.out _).mono ?_;rintro e M ⟨rfl,rfl⟩;exact ⟨rfl,a.out _ _ ⟨.inr ⟨by decide,rfl⟩,l.out,m.out⟩⟩
 .rw [if_neg c] at a
  have y:g<122880:=by omega
  clear c j
  go_wp2_with fail
  go_end0
  exact a.out _ _ ⟨.inl ⟨rfl,rfl⟩,l.out,m.out⟩
def _root_.Go.SL.km (k:Nat) (L:List aN) (nm:List UInt8):Int:=if (jW L nm).isSome then 6 else if 3840<=L.length then 9 else if k+cD L.length<cD (L.length+1) then 7 else 0
def _root_.Go.SL.lf (T:Tr) (d:Nat) (L:List aN):Tr:=eU T d (V (.dir L))
theorem GW {a:Nat} {A:Nat->Option AF} {P:Int} {L:List aN} (c0:1<=a) (d0:a<=3839) (h:ag w (eA x b A k*F)) (H:A id=V (gT P L)) (K:AU L) (hl:L.length=3840) (I:cE nm=true) (M:jW L nm=U) :
  Calls S 98 #[gq b n,Z .i64 (id:Int),W (str nm),Z .i64 (a:Int)] w (YE x b A k 9 F w):=by
 refine aJ fun b0 s=>?_;have G:=h.alloc (dm b n);have B:=ae ((aj.refl w).alloc (dm b n));have O:=ae (jg G.ah H (jh K (by omega)));obtain ⟨m,J⟩:∃ m,L.length=m:=⟨_,rfl⟩
 have q:=ae J;have N:=ae (qH M);have e0:(m:Int)=3840:=by omega
 have o:Hid (L.length<=3840):=by show L.length<=3840;omega
 have e:=ae fun w=>pG w nm;rw [I] at e;have g1:¬ ((a:Int)<1):=by omega
 have g2:¬ ((3839:Int)<(a:Int)):=by omega
 unfold gq
 go_enter func98,ntmps98
 go_wp2_with fail
 refine O.out.mono ?_;generalize w.heap.size=C at *;rintro r w2 ⟨u,rfl,t,j⟩;have c:=Go.Proofs.Fs.dN w2 u L nm _ o.out j;unfold qV at c;rw [N.out] at c;have g:=ae c;obtain ⟨X,uc,rfl⟩:=aC j;rw [q.out] at g ⊢
 go_wp2_with fail
 refine (e.out _).mono ?_;rintro r w3 ⟨rfl,rfl⟩
 go_wp2_with fail
 refine g.out.mono ?_;rintro r w3 ⟨rfl,E,y⟩;have l:=ae (E.to (by ac_rfl:_=(sl 99 2 (.slice X m uc) m (bu L)*pt C (dm b n))*(eA x b A k*F))).right
 go_wp2_with fail
 exact s.out _ _ ⟨by simp,(B.out.trans t).trans y,l.out⟩
def NH (x:Fx n) (b v:Nat) (T:Tr) (k id a:Nat) (nm:List UInt8) (L:List aN) (F:ai) (w:R) (e:Ending) (w':R):Prop:=
 (km k L nm=0/\e = Q (.tuple #[])/\aj w w'/\ag w' (vA (x.more 5) b v (lf T id (L++[⟨a,nm⟩])) (k+cD L.length-cD (L.length+1))*F)) \/
 (km k L nm≠0/\Q4 (km k L nm) (vA x b v T k*F) w e w')
theorem IP {a:Nat} {L:List aN} (g:1<=a) (j:a<=3839) (h:ag w (eA x b (gJ T) k*F)) (l:T id=V (.dir L)) (c:qz L) (m:cE nm=true) :
  Calls S 98 #[gq b n,Z .i64 (id:Int),W (str nm),Z .i64 (a:Int)] w fun e w'=>
   (km k L nm=0/\YE (x.more 5) b (gJ (lf T id (L++[⟨a,nm⟩]))) (k+cD L.length-cD (L.length+1)) 0 F w e w')\/(km k L nm≠0/\YE x b (gJ T) k (km k L nm) F w e w'):=by
 unfold km
 cases o:jW L nm with
 | some i=>exact (FY g j h (lu l) c.ok c.len m o).mono fun e w' q=>.inr ⟨by simp,by simpa using q⟩
 | none=>
  by_cases s:3840<=L.length
  .rw [if_pos s]
   exact (GW g j h (lu l) c.ok (by have:=c.len;omega) m o).mono fun e w' q=>.inr ⟨by decide,q⟩
  .rw [if_neg s]
   by_cases r:k+cD L.length<cD (L.length+1)
   .rw [if_pos r]
    exact (PH g j h (lu l) c.ok (by omega) m o r).mono fun e w' q=>.inr ⟨by decide,q⟩
   .rw [if_neg r]
    have:=si g j h (lu l) c.ok (by omega) m o (by omega);rw [show eU (gJ T) id (V (gT 1 (L++[⟨a,nm⟩])))=gJ (lf T id (L++[⟨a,nm⟩])) from wS T id (.dir (L++[(⟨a,nm⟩:aN)]))] at this;exact this.mono fun e w' q=>.inl ⟨rfl,q⟩
theorem AG {child:Nat} {L:List aN} (P:1<=child) (X:child<=3839) (hf:T id=V (.dir L)) (M:qz L) (hi:cE nm=true) (h:ag w (vA x b v T k*F)) :
  Calls S 52 #[ay v,.agg #[Z .i64 (id:Int),W (str nm)],Z .i64 (child:Int)] w (NH x b v T k id child nm L F w):=by
 refine aJ fun b0 q=>?_;have J:=h.alloc (Y #[Z .i64 (id:Int),W (str nm)] 92 (0,0));have y:=ae ((aj.refl w).alloc (Y #[Z .i64 (id:Int),W (str nm)] 92 (0,0)));have j:=J.to (by unfold vA;ac_rfl:_=eA x b (gJ T) k*(pt v (cl b n)*(pt w.heap.size (Y #[Z .i64 (id:Int),W (str nm)] 92 (0,0))*F)));have m:(w.alloc (Y #[Z .i64 (id:Int),W (str nm)] 92 (0,0))).cell? ⟨v,0,U⟩=V (ay b)/\(w.alloc (Y #[Z .i64 (id:Int),W (str nm)] 92 (0,0))).cell? ⟨v,1,U⟩=V (Z .i64 (n:Int))/\(w.alloc (Y #[Z .i64 (id:Int),W (str nm)] 92 (0,0))).cell? ⟨w.heap.size,0,U⟩=V (Z .i64 (id:Int))/\(w.alloc (Y #[Z .i64 (id:Int),W (str nm)] 92 (0,0))).cell? ⟨w.heap.size,1,U⟩=V (W (str nm)):=⟨j.ah.cell 0,j.ah.cell 1,j.aq.cell 0,j.aq.cell 1⟩
 have B:=ae fun w' (I:ag w' (eA x b (gJ T) k*(pt v (cl b n)*(pt w.heap.size (Y #[Z .i64 (id:Int),W (str nm)] 92 (0,0))*F))))=>IP P X I hf M hi;have E:=ae fun (w:R) (c:Int) (O:c≠0)=>dF w c O;have G:=ae fun w=>dx w;have u:=ae j;have H:=ae m;unfold NH at q;generalize km k L nm=c at *
 go_enter func52,ntmps52
 go_wp2_with fail
 generalize w.heap.size=sc at *;have m:=H.out
 by_cases l:c=0
 .subst l
  go_region_held3 (fun w'=>w'.cell? ⟨v,0,U⟩=V (ay b)/\w'.cell? ⟨v,1,U⟩=V (Z .i64 (n:Int))/\w'.cell? ⟨sc,0,U⟩=V (Z .i64 (id:Int))/\w'.cell? ⟨sc,1,U⟩=V (W (str nm)))
   (first|exact m|exact t|go_keep)
   (first
    | (go_at_call 98;refine (B.out _ u.out.drew).mono ?_;rintro e g s;obtain ⟨rfl,r,a⟩:=s.elim (fun h=>h.2) (fun h=>absurd rfl h.1);have t:g.cell? ⟨v,0,U⟩=V (ay b)/\g.cell? ⟨v,1,U⟩=V (Z .i64 (n:Int))/\g.cell? ⟨sc,0,U⟩=V (Z .i64 (id:Int))/\g.cell? ⟨sc,1,U⟩=V (W (str nm)):=⟨a.ah.cell 0,a.ah.cell 1,a.aq.cell 0,a.aq.cell 1⟩)
    | (go_at_call 34;refine (G.out _).mono ?_;rintro e w5 ⟨rfl,rfl⟩))
  have C:=ae (y.out.drew.trans r);have o:=ae (a.to (by unfold vA;ac_rfl:_=pt sc (Y #[Z .i64 (id:Int),W (str nm)] 92 (0,0))*(vA (x.more 5) b v (lf T id (L++[⟨child,nm⟩])) (k+cD L.length-cD (L.length+1))*F))).right
  go_wp2_with fail
  go_end0
  exact q.out _ _ (.inl ⟨by simp,rfl,C.out,o.out⟩)
 .refine wp_region_held_drew (S:=fun w'=>w'.cell? ⟨v,0,U⟩=V (ay b)/\w'.cell? ⟨v,1,U⟩=V (Z .i64 (n:Int))/\w'.cell? ⟨sc,0,U⟩=V (Z .i64 (id:Int))/\w'.cell? ⟨sc,1,U⟩=V (W (str nm))) (by kernel_rfl) m (fun N=>?_)
  refine tk 0 ?_;refine tk 1 ?_;refine tk 2 ?_;refine tk 3 ?_;refine tk 4 ?_;refine tk 5 ?_;refine tk 6 ?_;refine tk 7 ?_;refine tk 8 ?_;refine tr 9 fun K A=>?_
  go_simp
  go_wp2_with (go_at_call 98;refine (B.out _ u.out.drew).mono ?_;rintro e g s;obtain ⟨rfl,r,a⟩:=s.elim (fun h=>absurd h.1 l) (fun h=>h.2))
  have t:g.cell? ⟨v,0,U⟩=V (ay b)/\g.cell? ⟨v,1,U⟩=V (Z .i64 (n:Int))/\g.cell? ⟨sc,0,U⟩=V (Z .i64 (id:Int))/\g.cell? ⟨sc,1,U⟩=V (W (str nm)):=⟨a.ah.cell 0,a.ah.cell 1,a.aq.cell 0,a.aq.cell 1⟩
  have o:=(a.to (by unfold vA;ac_rfl:_=pt sc (Y #[Z .i64 (id:Int),W (str nm)] 92 (0,0))*(vA x b v T k*F))).right;refine A.out _ _ t (fun N=>?_);refine tr 10 fun K A=>?_
  go_simp
  go_wp2_with (go_at_call 34;refine (E.out _ c l).mono ?_;rintro e w5 ⟨rfl,rfl⟩;exact ⟨rfl,q.out _ _ (.inr ⟨l,rfl,y.out.drew.trans r,o⟩)⟩)
end
end Go.Proofs.Cl
namespace Go.SL
open Go.RowKit
def lO (kd:Int):uO:=if kd=1 then .file (iM 1) else .dir []
theorem DE {kd:Int} (h:kd=1\/kd=2):(lO kd).af=iM kd:=by
 rcases h with rfl|rfl
 .rfl
 .exact Jt.symm
theorem zF (a:Int):eP (V (lO a))=[]:=by unfold lO;split <;> rfl
theorem MO {id:Nat} (h:id≠1) (a:Int):J9 id (V (lO a))=1:=by
 unfold lO;split
 .rfl
 .show (if id=1 then (0:Int) else 1)=1;rw [if_neg h]
theorem qz.snoc {L:List aN} (h:qz L) {id:Nat} {nm:List UInt8} (m:1<=id) (o:id<=3839) (l:cE nm=true) (g:jW L nm=U) (r:L.length<3840):qz (L++[⟨id,nm⟩]):=by
 refine ⟨Av h.ok (aN.kX.2 ⟨m,o,re l⟩),by rw [List.length_append,List.length_singleton];omega,?_,fun e c=>?_⟩
 .rw [List.map_append,List.nodup_append]
  refine ⟨h.nd,by simp,fun a q b j=>?_⟩;obtain ⟨e,c,rfl⟩:=List.mem_map.1 q;simp only [List.map_cons,List.map_nil,List.mem_singleton] at j;subst j;unfold jW at g;rw [List.findIdx?_eq_none_iff] at g;simpa using g e c
 .rcases List.mem_append.1 c with c|c
  .exact h.nm e c
  .rw [List.mem_singleton.1 c];exact l
theorem qz.nil:qz []:=⟨fun e a=>(by cases a),Nat.zero_le _,List.nodup_nil,fun e a=>(by cases a)⟩
variable {n d id:Nat} {T:Tr} {L:List aN} {nm:List UInt8}
theorem Tidy.Mw (h:Tidy n T) (a:T id=U):id≠1:=by
 rintro rfl;obtain ⟨L,c⟩:=h.root;rw [c] at a;cases a
def KZ (T:Tr) (d id:Nat) (nm:List UInt8) (a:Int):Tr:=Go.SL.eU (eU T id (V (lO a))) d (V (.dir (eP (T d)++[⟨id,nm⟩])))
theorem Tidy.make (h:Tidy n T) (l:T d=V (.dir L)) (m:T id=U) (y:0<id) (A:id<n) (O:n<=3840) {a:Int} (N:a=1\/a=2) (H:cE nm=true) (I:jW L nm=U) (G:L.length<3840):Tidy n (KZ T d id nm a):=by
 have t:id≠d:=by rintro rfl;rw [l] at m;cases m
 have s:=h.Mw m;have B:eP (T d)=L:=by rw [l];rfl
 have E:=h.lt l;unfold KZ;rw [B];have o:∀ x,eU (eU T id (V (lO a))) d (V (.dir (L++[⟨id,nm⟩]))) x=if x=d then V (.dir (L++[⟨id,nm⟩])) else if x=id then V (lO a) else T x:=fun x=>rfl
 have J:∀ x,refs n (eU (eU T id (V (lO a))) d (V (.dir (L++[⟨id,nm⟩])))) x=refs n T x+if id=x then 1 else 0:=fun x=>by
  have r:=oH (T:=T) A (V (lO a)) x;have c:=oH (T:=eU T id (V (lO a))) E (V (.dir (L++[⟨id,nm⟩]))) x;rw [m,zF] at r;rw [aS _ _ (Ne.symm t),l] at c;simp only [eP,List.countP_nil,List.countP_append,List.countP_cons,Nat.add_zero,Nat.zero_add] at r c
  by_cases q:id=x
  .rw [if_pos q];subst q;simp at c;omega
  .rw [if_neg q];simp [q] at c;omega
 refine ⟨?_,fun x M g=>?_,fun x f j=>?_,fun x=>?_,fun x K=>?_⟩
 .obtain ⟨u,C⟩:=h.root
  rw [o]
  by_cases e:1=d
  .exact ⟨_,if_pos e⟩
  .rw [if_neg e,if_neg (Ne.symm s)];exact ⟨u,C⟩
 .rw [o] at g
  split at g
  .cases g;exact (h.rf _ _ l).snoc y (by omega) H I G
  .split at g
   .have:M=[]:=by rw [<- zF a];injection g with g;rw [g];rfl
    rw [this];exact qz.nil
   .exact h.rf _ _ g
 .rw [o] at j
  split at j
  .cases j
  .split at j
   .unfold lO at j;split at j <;> cases j;rfl
   .exact h.files _ _ j
 .rw [J,o]
  have:=h.ref x
  by_cases e:x=d
  .subst e;rw [if_pos rfl,if_neg t];rw [l] at this;exact this
  .rw [if_neg e]
   by_cases c:x=id
   .subst c;rw [if_pos rfl,if_pos rfl,MO s];rw [m] at this;simp only [J9] at this;omega
   .rw [if_neg c,if_neg (Ne.symm c)];exact this
 .rw [o,if_neg (by omega),if_neg (by omega)];exact h.out x K
def fS (T:Tr) (k:Nat) (p:List UInt8):Int:=match aX p with
 | none=>1
 | some ps=>if ft T ps≠0 then ft T ps else if pV (eP (T (fK T ps)))≠0 then 9 else if k=0 then 7 else km (k-1) (eP (T (fK T ps))) (cT ps)
def PT (k:Nat) (L:List aN):Nat:=k-1+cD L.length-cD (L.length+1)
end Go.SL
namespace Go.SL
open Go.RowKit
structure jK (n:Nat) (T:Tr) (z:Nat->Int):Prop where
 root:∃ L,T 1=some (.dir L)
 rf:∀ id L,T id=some (.dir L)->qz L
 files:∀ id f,T id=some (.file f)->f.kd=1
 ref:∀ id,(refs n T id:Int)=J9 id (T id)+z id
 out:∀ id,n<=id->T id=none
section
variable {n d id i:Nat} {T:Tr} {L:List aN} {nm:List UInt8} {z:Nat->Int} {f f':AF}
theorem Tidy.w (h:Tidy n T):jK n T fun _=>0:=⟨h.root,h.rf,h.files,fun id=>by rw [h.ref id];omega,h.out⟩
theorem jK.tidy (h:jK n T z) (a:∀ id,z id=0):Tidy n T:=⟨h.root,h.rf,h.files,fun id=>by rw [h.ref id,a];omega,h.out⟩
theorem jK.lt (h:jK n T z) {x:uO} (a:T id=V x):id<n:=by
 by_cases c:id<n
 .exact c
 .rw [h.out id (by omega)] at a;cases a
theorem jK.set (h:jK n T z) {M:List aN} (g:T d=V (.dir L)) (r:qz M) {m:Nat->Int} (u:∀ x,((M.countP fun e=>e.nd == x:Nat):Int)-((L.countP fun e=>e.nd == x:Nat):Int)=m x-z x):jK n (lf T d M) m:=by
 have a:∀ x,lf T d M x=if x=d then V (.dir M) else T x:=fun x=>rfl
 refine ⟨?_,fun x N c=>?_,fun x f j=>?_,fun x=>?_,fun x t=>?_⟩
 .obtain ⟨o,q⟩:=h.root
  rw [a]
  by_cases e:1=d
  .exact ⟨_,if_pos e⟩
  .rw [if_neg e];exact ⟨o,q⟩
 .rw [a] at c
  split at c
  .cases c;exact r
  .exact h.rf _ _ c
 .rw [a] at j
  split at j
  .cases j
  .exact h.files _ _ j
 .have l:=oH (T:=T) (h.lt g) (V (.dir M)) x
  rw [g] at l;simp only [eP] at l;have A:=u x;have y:=h.ref x
  have s:J9 x (lf T d M x)=J9 x (T x):=by
   rw [a]
   by_cases e:x=d
   .subst e;rw [if_pos rfl,g];rfl
   .rw [if_neg e]
  rw [s];unfold lf;omega
 .rw [a,if_neg (by have:=h.lt g;omega)]
  exact h.out x t
theorem jK.add (h:jK n T z) (c:T d=V (.dir L)) (a:qz (L++[⟨id,nm⟩])):jK n (lf T d (L++[⟨id,nm⟩])) fun x=>z x+if x=id then 1 else 0:=by
 refine h.set c a fun x=>?_;rw [List.countP_append]
 by_cases e:x=id
 .subst e;simp;omega
 .have:¬ id=x:=Ne.symm e
  simp [e,this]
theorem jK.leaf (h:jK n T z) {y:uO} {y':Option uO} (j:T id=V y) (s:eP (V y)=[]) (t:eP y'=[]) (o:id≠1) (r:∀ L,y'≠V (.dir L)) (u:∀ f,y'=V (.file f)->f.kd=1):jK n (eU T id y') fun x=>z x+if x=id then J9 id (V y)-J9 id y' else 0:=by
 have a:∀ x,eU T id y' x=if x=id then y' else T x:=fun x=>rfl
 refine ⟨?_,fun x N c=>?_,fun x f g=>?_,fun x=>?_,fun x A=>?_⟩
 .obtain ⟨m,q⟩:=h.root
  exact ⟨m,by rw [a,if_neg (Ne.symm o)];exact q⟩
 .rw [a] at c
  split at c
  .exact absurd c (r N)
  .exact h.rf _ _ c
 .rw [a] at g
  split at g
  .exact u f g
  .exact h.files _ _ g
 .have l:=oH (T:=T) (h.lt j) y' x
  rw [j,s,t] at l;simp only [List.countP_nil,Nat.add_zero] at l;rw [l,a,h.ref x]
  by_cases e:x=id
  .subst e;rw [if_pos rfl,if_pos rfl,j];omega
  .rw [if_neg e,if_neg e];omega
 .rw [a,if_neg (by have:=h.lt j;omega)]
  exact h.out x A
end
theorem dq {p:List UInt8} {l:List (List UInt8)} (h:aX p=V l):l.all cE=true/\l.length<=1000:=by
 unfold aX at h
 split at h
 .cases h
 .rename_i a
  split at h
  .cases h;exact ⟨rfl,Nat.zero_le _⟩
  .split at h
   .rename_i c;cases h
    exact ⟨c,Nat.le_trans (j7 _ _) (Nat.le_of_not_lt fun q=>a (.inl q))⟩
   .cases h
def bX (T:Tr) (p:List UInt8):Int × Nat:=match aX p with
 | none=>(1,0)
 | some l=>aT T 1 l
theorem oU {T:Tr} {p:List UInt8} (h:aX p=U):bX T p=(1,0):=by unfold bX;rw [h]
theorem e7 {T:Tr} {p:List UInt8} {l:List (List UInt8)} (h:aX p=V l):bX T p=aT T 1 l:=by unfold bX;rw [h]
def sF:Option uO->Int × Int × Int
 | some (.file f)=>(f.kd,f.lk,(f.sz:Int))
 | some (.dir L)=>(2,1,((32*L.length:Nat):Int))
 | none=>(0,0,0)
end Go.SL
namespace Go.Proofs.Cl
open Go.RowKit Go.SL Go.Proofs.Nn Go.Proofs.Ba Go.Proofs.Fs
attribute [local go_sem] Oper.semAt_some
theorem iD {v:Value} {l:List (List UInt8)} (a:R) (P:ai) (h:ag a (eJ v l*P)):Bi a v l:=by
 unfold eJ at h;rcases h.de with ⟨rfl,m,_,_⟩|⟨g,e,j,rfl,o,q,y,r,u⟩
 .exact .inl ⟨U,0,rfl,List.eq_nil_of_length_eq_zero m⟩
 .refine .inr ⟨g,0,e,rfl,o,q,fun k c=>?_⟩
  have s:=u.cell k;rw [Nat.zero_add,s,<- Array.getElem?_toList];have t:(strs l)[k]?=j.toList[k]?:=by rw [<- r,List.getElem?_take,if_pos (by omega)]
  rw [<- t];unfold strs;rw [List.getElem?_map,Y0 c,X0,Y0 c]
  rfl
theorem eH {v:Value} {l:List (List UInt8)} {e:R} {P:ai} (h:ag e (eJ v l*P)):∃ a c,v = .slice a l.length c:=aC h
def Gd (c:Int) (X a:ai) (w:R) (e:Ending) (w':R):Prop:=aj w w'/\((c=0/\e = Q (.tuple #[])/\ag w' X)\/(c≠0/\e = .panicked (me c)/\ag w' a))
def aB (a:Nat) (p:List UInt8):ai:=pt a (Y #[W (str p)] 9 (0,0))
def eQ (a:Nat) (z:Int × Int × Int):ai:=pt a (Y #[Z .i64 z.1,Z .i64 z.2.1,Z .i64 z.2.2] 48 (0,0))
section
variable {n:Nat} {x:Fx n} {b v k pc sc:Nat} {T:Tr} {w:R} {F:ai} {p:List UInt8}
theorem Kw (C:Tidy n T) (h:ag w (vA x b v T k*(aB pc p*(eQ sc (0,0,0)*F)))) :
  Calls S 53 #[ay v,ay pc,ay sc] w (Gd (bX T p).1 (vA x b v T k*(aB pc p*(eQ sc (sF (T (bX T p).2))*F))) (vA x b v T k*(aB pc p*(eQ sc (0,0,0)*F))) w):=by
 refine aJ fun G0 c=>?_;have cp:w.cell? ⟨pc,0,U⟩=V (W (str p)):=h.ah.cell 0;have d0:=ae h;have HT:=ae C
 cases g:aX p with
 | none=>
  rw [oU g] at c;have H:=ae (we (w:=w) g);clear h C g
  go_enter func53,ntmps53
  go_wp2_with fail
  refine H.out.mono ?_;rintro b0 w2 ⟨rfl,s,m⟩;exact ⟨rfl,c.out _ _ ⟨s,.inr ⟨by decide,rfl,m.dU d0.out⟩⟩⟩
 | some l=>
  rw [e7 g] at c;obtain ⟨x0,hl⟩:=dq g;have H:=ae (dP (w:=w) g);have j:=fun h0=>C.walk l C.root.choose_spec h0;have O:=ae j;have HL:=ae hl;clear h C g j x0 hl
  go_enter func53,ntmps53
  go_wp2_with fail
  refine H.out.mono ?_;rintro b0 w2 ⟨u,rfl,s,m⟩;have o:=m.under d0.out;have hw:=ae (fL HT.out HL.out iD (o.ah));generalize aT T 1 l=F0 at *;obtain ⟨H0,id⟩:=F0;dsimp only at c O hw;clear cp H m o HL
  go_wp2_with fail
  refine hw.out.mono ?_;rintro b0 w3 ⟨he,d3,o⟩;clear hw;rcases he with ⟨rfl,rfl⟩|⟨hc,rfl⟩
  .obtain ⟨y,j⟩:=O.out rfl
   have hn:=ae (jc j o);have o0:sF (T id)=(y.af.kd,y.af.lk,(y.af.sz:Int)):=by rw [j];cases y <;> rfl
   have k0:y.af.kd=2->y.af.lk=1:=by cases y with
    | file f=>intro h;have:=HT.out.files _ _ j;exact absurd (this.symm.trans h) (by decide)
    | dir L=>intro _;rfl
   rw [o0] at c;generalize y.af=f at *;have P:=ae k0;clear o0 j O k0
   go_wp2_with fail
   refine hn.out.mono ?_;rintro b0 a ⟨z,rfl,p0,q0,r0,s0,d4,h4⟩;obtain ⟨hX,l0,i0⟩:=mz p0;have hB:=h4.alloc (Y nE 73 (0,0));have Hz:=ae hB.heap;have B:=hB.setRow (cs':=ints z.l);have n0:((a.alloc (Y nE 73 (0,0))).setRow a.heap.size (ints z.l)).cell? ⟨a.heap.size,0,U⟩=V (Z .i64 f.kd):=by rw [<- q0];exact B.cell 0
   have n1:((a.alloc (Y nE 73 (0,0))).setRow a.heap.size (ints z.l)).cell? ⟨a.heap.size,1,U⟩=V (Z .i64 f.lk):=by rw [<- r0];exact B.cell 1
   have n2:((a.alloc (Y nE 73 (0,0))).setRow a.heap.size (ints z.l)).cell? ⟨a.heap.size,2,U⟩=V (Z .i64 (f.sz:Int)):=by rw [<- s0];exact B.cell 2
   have N:=ae B;have D5:=ae ((((s.trans d3).trans d4).alloc (Y nE 73 (0,0))).setRow a.heap.size (ints z.l));have g0:=ae l0;have e0:=ae i0;have HX:=ae hX;have G:=ae n0;have X:=ae n1;have N2:=ae n2;obtain ⟨q,I⟩:∃ q,f.kd=q:=⟨_,rfl⟩
   obtain ⟨E,J⟩:∃ E,f.lk=E:=⟨_,rfl⟩
   obtain ⟨r,c0⟩:∃ r,(f.sz:Int)=r:=⟨_,rfl⟩
   rw [I,J,c0] at c;rw [I] at G;rw [J] at X;rw [c0] at N2;rw [I,J] at P;clear hn hB B hX l0 i0 n0 n1 n2 s d3 d4 o h4 p0 q0 r0 s0 I J c0;unfold nE at *
   go_upto_region 1 with (refine wpList_store_row (by exact rfl) 73 (.tmp 4) (.tmp 10) (by exact rfl) a.heap.size (ints z.l) (by exact rfl) (by exact rfl) 73 _ (by with_reducible exact Hz.out) e0.out (by rw [HX.out];rfl) g0.out ?_)
   generalize D0:(a.alloc (Y #[Z .i64 0,Z .i64 0,Z .i64 0,Z .i64 0,Z .i64 0,Z .i64 0,Z .i64 0,Z .i64 0,Z .i64 0,Z .i64 0,Z .i64 0,Z .i64 0,Z .i64 0,Z .i64 0,Z .i64 0,Z .i64 0,Z .i64 0,Z .i64 0,Z .i64 0,Z .i64 0] 73 (0,0))).setRow a.heap.size (ints z.l)=w5 at *;generalize a.heap.size=nb at *;have e:=N.out.to (by unfold eQ;ac_rfl:_=pt sc (Y #[Z .i64 0,Z .i64 0,Z .i64 0] 48 (0,0))*(pt nb (Y (ints z.l) 73 (0,0))*(vA x b v T k*(eJ u l*(aB pc p*F)))));have n0:=G.out;have n1:=X.out;have n2:=N2.out;have z0:w5.cell? ⟨sc,0,U⟩=V (Z .i64 0):=e.cell 0;have z1:w5.cell? ⟨sc,1,U⟩=V (Z .i64 0):=e.cell 1;have z2:w5.cell? ⟨sc,2,U⟩=V (Z .i64 0):=e.cell 2;have f0:=e.frozen 0;have f1:=e.frozen 1;have f2:=e.frozen 2;have t:=((e.setCell 0 (Z .i64 q)).setCell 1 (Z .i64 E)).setCell 2 (Z .i64 r);have m0:=(t.ah.cell 0).trans ((N.out.cell 0).symm.trans G.out);have y1:=t.cell 1;have g1:=t.frozen 1;have M:=ae t;have K:=ae (((D5.out.setCell ⟨sc,0,U⟩ (Z .i64 q)).setCell ⟨sc,1,U⟩ (Z .i64 E)).setCell ⟨sc,2,U⟩ (Z .i64 r));simp at y1;clear e t N D5 G X N2 D0 Hz g0 e0 HX
   by_cases m:q=2
   .subst m
    have u0:=P.out rfl;subst u0;have h8:=ae (M.out.setCell 1 (Z .i64 1));have D8:=ae (K.out.setCell ⟨sc,1,U⟩ (Z .i64 1));clear M K P
    go_wp2_with fail
    go_end0
    refine c.out _ _ ⟨D8.out,.inl ⟨rfl,rfl,?_⟩⟩;have A:=h8.out;simp only [A1,List.set_cons_zero,List.set_cons_succ] at A;exact (A.to (by unfold eQ;ac_rfl:_=(pt nb (Y (ints z.l) 73 (0,0))*eJ u l)*(vA x b v T k*(aB pc p*(eQ sc (2,1,r)*F))))).right
   .go_wp2_with fail
    go_end0
    refine c.out _ _ ⟨K.out,.inl ⟨rfl,rfl,?_⟩⟩;have A:=M.out;simp only [A1,List.set_cons_zero,List.set_cons_succ] at A;exact (A.to (by unfold eQ;ac_rfl:_=(pt nb (Y (ints z.l) 73 (0,0))*eJ u l)*(vA x b v T k*(aB pc p*(eQ sc (q,E,r)*F))))).right
  .exact ⟨rfl,c.out _ _ ⟨s.trans d3,.inr ⟨hc,rfl,(o.to (by ac_rfl:_=eJ u l*(vA x b v T k*(aB pc p*(eQ sc (0,0,0)*F))))).right⟩⟩⟩
end
def Rk {n:Nat} (x:Fx n) (b v:Nat) (h:Int->Tr->Nat->Prop) (X:ai) (w:R) (e:Ending) (w':R):Prop:=
 ∃ c a g j,h c a g/\(c=0->Tidy n a)/\((c=0/\e = Q (.tuple #[]))\/(c≠0/\e = .panicked (me c)))/\aj w w'/\j<=24/\ag w' (vA (x.more j) b v a g*X)
def lT (n:Nat) (T:Tr) (k:Nat) (kd:Int) (p:List UInt8) (c:Int) (a:Tr) (e:Nat):Prop:=
 c=fS T k p/\(c=0->∃ ps L id,aX p=V ps/\T (fK T ps)=V (.dir L)/\jW L (cT ps)=U/\T id=U/\0<id/\id<n/\a=KZ T (fK T ps) id (cT ps) kd/\e=PT k L)
def aH (a:Nat) (z:Int):ai:=pt a (Y #[Z .i64 z] 3 (0,0))
section
variable {n:Nat} {x:Fx n} {b v k pc kc:Nat} {T:Tr} {w w':R} {F:ai} {p:List UInt8}
theorem wz (e:Tidy n T) {ps:List (List UInt8)} (h:ft T ps=0):ps≠[]/\∃ L,T (fK T ps)=V (.dir L)/\jW L (cT ps)=U:=by
 unfold ft at h
 split at h
 .exact absurd h (by decide)
 .rename_i g
  split at h
  .rename_i a;exact absurd h a
  .rename_i a
   have a:(aT T 1 ps.dropLast).1=0:=by simpa using a
   obtain ⟨y,c⟩:=e.walk ps.dropLast e.root.choose_spec a;refine ⟨g,?_⟩;unfold fK
   cases y with
   | file f=>rw [c] at h;exact absurd h (show ¬ (8:Int)=0 by decide)
   | dir L=>
    refine ⟨L,c,?_⟩
    cases j:jW L (cT ps) with
    | none=>rfl
    | some i=>rw [c,kH j] at h;exact absurd h (show ¬ (6:Int)=0 by decide)
theorem CL {ps:List (List UInt8)} (h:ps.all cE=true) (a:ps≠[]):cE (cT ps)=true:=by
 have c:=List.length_pos_iff.2 a;unfold cT;rw [X0,Y0 (by omega)];exact List.all_eq_true.1 h _ (List.getElem_mem _)
theorem IU {a:Int} (h0:a=1\/a=2) (hn:n<=3840) (ht:Tidy n T) (y:fS T k p=0) (c0:ag w (vA x b v T k*(aB pc p*(aH kc a*F)))) :
  Calls S 66 #[ay v,ay pc,ay kc] w (Rk x b v (lT n T k a p) (aB pc p*(aH kc a*F)) w):=by
 refine aJ fun F0 HQ=>?_;have cp:w.cell? ⟨pc,0,U⟩=V (W (str p)):=c0.ah.cell 0;have x0:=ae c0;have E:=ae ht
 cases l:aX p with
 | none=>
  have g:(1:Int)=fS T k p:=by unfold fS;rw [l]
  exact absurd (g.trans y) (by decide)
 | some ps=>
  obtain ⟨u0,hl⟩:=dq l;have p0:fS T k p=if ft T ps≠0 then ft T ps else if pV (eP (T (fK T ps)))≠0 then 9 else if k=0 then 7 else km (k-1) (eP (T (fK T ps))) (cT ps):=by unfold fS;rw [l]
  have J:=ae (dP (w:=w) l);have HL:=ae hl;have b0:=ae p0;have HS:=ae l;have n0:=ae u0;clear c0 ht l hl p0 u0
  go_enter func66,ntmps66
  go_wp2_with fail
  refine J.out.mono ?_;rintro e w2 ⟨u,rfl,d2,h2⟩;have t:=(h2.under x0.out).ah;have hw:=ae (sH E.out HL.out (fun V0 U0 hW=>eH hW) iD t);clear cp J h2 t HL
  go_wp2_with fail
  refine hw.out.mono ?_;rintro e o ⟨he,d3,t⟩;clear hw;rcases he with ⟨f0,rfl⟩|⟨g,rfl⟩
  .obtain ⟨q0,L,h,r⟩:=wz E.out f0
   have M:=CL n0.out q0;have K:fS T k p=if pV L≠0 then 9 else if k=0 then 7 else km (k-1) L (cT ps):=by rw [b0.out,if_neg (by rw [f0];simp),h];rfl
   have o0:Hid (∀ id,T id=U->0<id->id<n->km (k-1) L (cT ps)=0->pV L=0->k≠0->∀ j,j<=24->∀ w',aj w w'->ag w' (vA (x.more j) b v (KZ T (fK T ps) id (cT ps) a) (PT k L)*(aB pc p*(aH kc a*F)))->F0 (Q (.tuple #[])) w'):=fun id m B O c N J j hj w' dd l=>by
    have H0:fS T k p=0:=by rw [K,if_neg (by rw [N];simp),if_neg J,c]
    have N0:L.length<3840:=by unfold km at c;rw [r] at c;simp only [Option.isSome_none,Bool.false_eq_true,if_false] at c;split at c;exact absurd c (by decide);omega
    exact HQ.out _ _ ⟨0,_,_,j,⟨H0.symm,fun _=>⟨ps,L,id,HS.out,h,r,m,B,O,rfl,rfl⟩⟩,fun _=>E.out.make h m B O hn h0 M r N0,.inl ⟨rfl,rfl⟩,dd,hj,l⟩
   have hE:=E.out.rf _ _ h;obtain ⟨d,e0⟩:∃ d,fK T ps=d:=⟨_,rfl⟩
   obtain ⟨nm,i0⟩:∃ nm,cT ps=nm:=⟨_,rfl⟩
   rw [e0,i0] at o0 ⊢;rw [i0] at K M r;rw [e0] at h;have I:=t.alloc (Y #[Z .i64 (d:Int),W (str nm)] 92 (0,0));have dB:=ae ((d2.trans d3).alloc (Y #[Z .i64 (d:Int),W (str nm)] 92 (0,0)));have hC:=I.to (by ac_rfl:_=vA x b v T k*(pt o.heap.size (Y #[Z .i64 (d:Int),W (str nm)] 92 (0,0))*(eJ u ps*(aB pc p*(aH kc a*F)))));have N:=ae (E0 (nm:=nm) h hC);have s0:(o.alloc (Y #[Z .i64 (d:Int),W (str nm)] 92 (0,0))).cell? ⟨o.heap.size,0,U⟩=V (Z .i64 (d:Int)):=I.cell 0;have s1:(o.alloc (Y #[Z .i64 (d:Int),W (str nm)] 92 (0,0))).cell? ⟨o.heap.size,1,U⟩=V (W (str nm)):=I.cell 1;have P:=ae h;have HE:=ae hE;have HN:=ae M;have HP:=ae r;have X:=ae K;clear I hC t d2 d3 h hE M r K e0 i0 f0 q0 b0 HS n0
   go_wp2_with fail
   generalize o.alloc (Y #[Z .i64 (d:Int),W (str nm)] 92 (0,0))=w4 at *;generalize o.heap.size=s at *;refine N.out.mono ?_;rintro e w5 ⟨he,d5,h5⟩;have D5:=ae (dB.out.trans d5);clear N dB d5 s0 s1;rcases he with ⟨l0,rfl⟩|⟨g,rfl⟩
   .have A:=h5.to (by unfold vA;ac_rfl:_=eA x b (gJ T) k*(pt v (cl b n)*(aH kc a*(pt s (Y #[Z .i64 (d:Int),W (str nm)] 92 (0,0))*(eJ u ps*(aB pc p*F))))))
    have k0:w5.cell? ⟨v,0,U⟩=V (ay b)/\w5.cell? ⟨v,1,U⟩=V (Z .i64 (n:Int))/\w5.cell? ⟨kc,0,U⟩=V (Z .i64 a):=⟨A.ah.cell 0,A.ah.cell 1,A.aq.cell 0⟩
    have HV:=ae A
    by_cases g0:k=0
    .have K0:(7:Int)=fS T k p:=by rw [X.out,if_neg (by rw [l0];simp),if_pos g0]
     exact absurd (K0.trans y) (by decide)
    .have r0:=ae fun w' (h':ag w' (eA x b (gJ T) k*(pt v (cl b n)*(aH kc a*(pt s (Y #[Z .i64 (d:Int),W (str nm)] 92 (0,0))*(eJ u ps*(aB pc p*F)))))))=>Ql h' h0 (by omega)
     have D0:=ae fun w=>dx w;clear A h5
     go_wp2_with fail
     go_region_held3 (fun w'=>w'.cell? ⟨v,0,U⟩=V (ay b)/\w'.cell? ⟨v,1,U⟩=V (Z .i64 (n:Int))/\w'.cell? ⟨kc,0,U⟩=V (Z .i64 a))
      (first|exact k0|exact k1|go_keep)
      (first|(go_at_call 68;refine (r0.out _ HV.out.drew).mono ?_;rintro e C ⟨id,rfl,m,B,O,d6,q⟩;have k1:C.cell? ⟨v,0,U⟩=V (ay b)/\C.cell? ⟨v,1,U⟩=V (Z .i64 (n:Int))/\C.cell? ⟨kc,0,U⟩=V (Z .i64 a):=⟨q.ah.cell 0,q.ah.cell 1,q.aq.cell 0⟩))
     rename_i G0;clear G0 k0 k1
     have m0:T id=U:=by unfold gJ at m;cases hx:T id with
      | none=>rfl
      | some W0=>rw [hx] at m;cases m
     have S0:d≠id:=by rintro rfl;rw [P.out] at m0;cases m0
     rw [<- DE h0,wS] at q;have G:=q.to (by unfold vA;ac_rfl:_=vA (x.more 3) b v (eU T id (V (lO a))) (k-1)*(pt s (Y #[Z .i64 (d:Int),W (str nm)] 92 (0,0))*(eJ u ps*(aB pc p*(aH kc a*F)))));have c:=ae (AG (x:=x.more 3) (child:=id) B (by omega) (show eU T id (V (lO a)) d=V (.dir L) by rw [aS _ _ S0];exact P.out) HE.out HN.out G);have s0:C.cell? ⟨s,0,U⟩=V (Z .i64 (d:Int)):=G.ah.cell 0;have s1:C.cell? ⟨s,1,U⟩=V (W (str nm)):=G.ah.cell 1;have D6:=ae (D5.out.drew.trans d6);clear r0 HV q G d6 m
     go_wp2_with fail
     refine (D0.out _).mono ?_;rintro e w7 ⟨rfl,rfl⟩
     go_wp2_with fail
     refine c.out.mono ?_;rintro e w8 hq;rcases hq with ⟨d0,rfl,d8,H⟩|⟨d0,rfl,d8,H⟩
     .have R0:lf (eU T id (V (lO a))) d (L++[⟨id,nm⟩])=KZ T d id nm a:=by unfold KZ lf;rw [P.out];rfl
      rw [R0] at H;have L0:=ae (o0.out id m0 B O d0 l0 g0 8 (by decide) _ (D6.out.trans d8) (H.to (by unfold PT;ac_rfl:_=(eJ u ps*pt s (Y #[Z .i64 (d:Int),W (str nm)] 92 (0,0)))*(vA (x.more 8) b v (KZ T d id nm a) (PT k L)*(aB pc p*(aH kc a*F))))).right);clear c H s0 s1
      go_wp2_with fail
      go_end0
      exact L0.out
     .exact absurd ((by rw [X.out,if_neg (by rw [l0];simp),if_neg g0]:fS T k p=_).symm.trans y) d0
   .have h9:pV L=9:=by unfold pV at g ⊢;split;rfl;rename_i T0;rw [if_neg T0] at g;exact absurd rfl g
    exact absurd ((by rw [X.out,if_pos g]:fS T k p=9).symm.trans y) (by decide)
  .exact absurd ((by rw [b0.out,if_pos g]:fS T k p=_).symm.trans y) g
end
end Go.Proofs.Cl

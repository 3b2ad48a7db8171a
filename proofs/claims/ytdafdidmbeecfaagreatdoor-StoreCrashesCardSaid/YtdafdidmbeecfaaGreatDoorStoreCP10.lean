/- Steps towards the statement StoreC. -/
import Derived.Test.YtdafdidmbeecfaaGreatDoorStoreCP8
import Derived.Test.YtdafdidmbeecfaaGreatDoorStoreCP9
import Derived.OwnWalkIn
import Derived.TacticsInMore
import Derived.LoopNIn
import Derived.LoopIn
import Derived.Test.YtdafdidmbeecfaaGreatDoorStoreCP2
section
namespace Go.Proofs.YtdafdidmbeecfaaGreatDoor
set_option linter.unusedVariables false
set_option linter.unusedSimpArgs false
open Go.RowKit Go.SL
attribute [local go_sem] Oper.semAt_some
theorem callW {P : Program} {f : FuncId} {args : Array Value} {w : World} {R R' : Ending → World → Prop} {n m : Nat} (h : Calls P f args w R) (hr : ∀ e w, R e w → R' e w) :
  Fence.wide.fn f ∧ (Fence.wide.depth.isSome = true → 1 ≤ m) ∧ CallsIn Fence.wide n P f args w R' := ⟨trivial, fun h => (by cases h), (callsIn_wide.2 h).mono hr⟩
theorem callV {P : Program} {f : FuncId} {args : Array Value} {w : World} {R R' : Ending → World → Prop} {n : Nat} (h : Calls P f args w R) (hr : ∀ e w, R e w → R' e w) :
  Fence.wide.fn f ∧ CallsIn Fence.wide n P f args w R' := ⟨trivial, (callsIn_wide.2 h).mono hr⟩
theorem callRV {P : Program} {f : FuncId} {args : Array Value} {w : World} {R R' : Ending → World → Prop} {n l : Nat} (h : Calls P f args w R) (hr : ∀ e w, R e w → R' e w) :
  Fence.wide.fn f ∧ CallsIn (Fence.wide.inRound l) n P f args w R' := ⟨trivial, CallsIn.inRound l ((callsIn_wide.2 h).mono hr)⟩
def NewestFQ (p : Option Addr) (w : World) (e : Ending) (w' : World) : Prop := e = .returned (.func (.func 107) #[] #[.pointer (some ⟨w.heap.size, 0, none⟩)]) ∧ w' = w.alloc (.cells #[.pointer p] 24 (0, 0))
theorem newestF_any (w : World) (p : Option Addr) : Calls Tryz.prog 88 #[.pointer p] w (NewestFQ p w) := by
 go_enter Tryz.func88, Tryz.ntmps88
 go_wp2
 go_ret
 exact ⟨rfl, rfl⟩
def NewestIt (bx : Nat) (x : Dx) (S : Hp) (d : Nat) (D : Dev) : Assn := pt bx (.cells #[.pointer (some ⟨d, 0, none⟩)] 24 (0, 0)) * devX x S d D
def waitT (z : Int × Value × List UInt8) (vs : Array Value) : Assn := fact (vs = #[.agg #[.int .i64 z.1, z.2.1]] ∧ ∃ a n c, z.2.1 = .slice a n c)
def NewestRel (A : Zs → Assn) (Z : Zs) (X : Assn) (w0 : World) (i : Value) (wr : World) : Prop :=
 ∃ k : Nat, k ≤ Z.length ∧ i = .int .i64 ((k : Int) - 1) ∧ Side w0 wr ∧ Sat wr (A (Z.reverse.take (Z.length - k)) * X)
theorem rev_snoc (Z : Zs) (k : Nat) (h : k < Z.length) : Z.reverse.take (Z.length - (k + 1)) ++ [Z[k]] = Z.reverse.take (Z.length - k) := by
 have e : Z.length - k = (Z.length - (k + 1)) + 1 := by omega
 rw [e, List.take_succ_eq_append_getElem (by simp; omega)]
 congr 2
 rw [List.getElem_reverse]
 congr 1
 omega
set_option maxRecDepth 100000 in
set_option maxHeartbeats 2000000 in
theorem newest_iter (n : Nat) (x : Dx) (S : Hp) (bx d : Nat) (D : Dev) (hD : D.wait.length ≤ 1000000) :
  Iterates Fence.wide n Tryz.prog 107 #[.pointer (some ⟨bx, 0, none⟩)] (NewestIt bx x S d D) waitT (fun ys => ys = x.Z.reverse) (fun ys => ys <+: x.Z.reverse) := by
 intro l A Ax G w0 w hY hs h0
 have hB : Sat w (devX x S d D * (pt bx (.cells #[.pointer (some ⟨d, 0, none⟩)] 24 (0, 0)) * (A [] * G))) := h0.to (by unfold NewestIt; ac_rfl)
 have hbx := hB.front2.cell 0
 obtain ⟨wa, wc, hwv⟩ := hB.devW
 have hZ := hB.devWaits
 have k1 : w.cell? ⟨d, 1, none⟩ = some (.slice wa x.Z.length wc) := (hB.devCell 1).trans (by rw [hZ]; simp only [Dx.cells, hwv]; rfl)
 have Hwv := hid hwv
 have hn : (x.Z.length : Int) ≤ 1000000 := by omega
 have hstart : Sat w (A (x.Z.reverse.take (x.Z.length - x.Z.length)) * (NewestIt bx x S d D * G)) := by rw [Nat.sub_self, List.take_zero]; exact h0
 have HZ := hid hZ
 clear hwv hB hZ
 refine callsIn_of_wp Tryz.func107 rfl trivial ?_ rfl
 simp only [Tryz.ntmps107, List.size_toArray, List.length_cons, List.length_nil, Nat.reduceAdd, Nat.reduceSub, Array.replicate_succ, Array.replicate_zero, List.push_toArray, List.append_toArray, List.nil_append, List.cons_append]
 gi_wp2
 gi_loopw [3] (fun i wr => NewestRel A x.Z (NewestIt bx x S d D * G) w0 i wr) (fun i _ => (intOf i + 1).toNat)
 case atStart => exact ⟨x.Z.length, Nat.le_refl _, rfl, hs, hstart⟩
 case round =>
  clear hstart h0 k1 hbx
  obtain ⟨k, hk, rfl, hside, hsat⟩ := hrel
  have hB : Sat wr (devX x S d D * (pt bx (.cells #[.pointer (some ⟨d, 0, none⟩)] 24 (0, 0)) * (A (x.Z.reverse.take (x.Z.length - k)) * G))) := hsat.to (by unfold NewestIt; ac_rfl)
  have hbx := hB.front2.cell 0
  have k1 : wr.cell? ⟨d, 1, none⟩ = some (.slice wa x.Z.length wc) := (hB.devCell 1).trans (by rw [HZ.out]; simp only [Dx.cells, Hwv.out]; rfl)
  match k, hk, hsat, hB with
  | 0, _, hsat, hB =>
   have hfin : x.Z.reverse.take (x.Z.length - 0) = x.Z.reverse := by rw [Nat.sub_zero, ← List.length_reverse, List.take_length]
   rw [hfin] at hsat
   clear hB hfin
   gi_wp2
   go_end0
   exact ⟨⟨_, rfl⟩, hside, .inl ⟨_, rfl, hsat⟩⟩
  | k + 1, hk, hsat, hB =>
   have hkl : k < x.Z.length := by omega
   have hk0 : (0 : Int) ≤ (k : Int) := by omega
   have hk' : (k : Int) < (x.Z.length : Int) := by omega
   have hkm : (((k + 1 : Nat) : Int) - 1) = (k : Int) := by omega
   have hsl := hB.devOpen.2.front3
   obtain ⟨g, c, hg⟩ := sl_addr hsl (by omega)
   have hga : wa = some ⟨g, 0, none⟩ ∧ wc = c := by rw [Hwv.out, ← HZ.out] at hg; exact ⟨(Value.slice.inj hg).1, (Value.slice.inj hg).2.2⟩
   obtain ⟨rfl, rfl⟩ := hga
   rw [hg] at hsl
   obtain ⟨hc0, hc1⟩ := hsl.writeCells hkl
   have hen := rev_snoc x.Z k hkl
   obtain ⟨z, hz⟩ : ∃ z, x.Z[k] = z := ⟨_, rfl⟩
   rw [hz] at hc0 hc1 hen
   have Hen := hid hen
   have hpre : x.Z.reverse.take (x.Z.length - (k + 1)) ++ [z] <+: x.Z.reverse := by rw [hen]; exact List.take_prefix _ _
   have Hpre := hid hpre
   have hshape : ∃ a n c, z.2.1 = .slice a n c := by
    obtain ⟨a, c, hh⟩ := val_shape (hB.devOpen.1.wvals z (by rw [← hz]; exact List.getElem_mem hkl))
    exact ⟨_, _, _, hh⟩
   have hT : Sat wr (A (x.Z.reverse.take (x.Z.length - (k + 1))) * (waitT z #[.agg #[.int .i64 z.1, z.2.1]] * (NewestIt bx x S d D * G))) :=
    (Sat.fact_iff.2 ⟨(⟨rfl, hshape⟩ : (#[Value.agg #[.int .i64 z.1, z.2.1]] : Array Value) = #[.agg #[.int .i64 z.1, z.2.1]] ∧ ∃ a n c, z.2.1 = .slice a n c), hsat⟩ : Sat wr (fact _ * _)).to (by unfold waitT; ac_rfl)
   obtain ⟨fn, tmps, assign, body, hy, hR⟩ := hY _ z #[.agg #[.int .i64 z.1, z.2.1]] _ wr Hpre.out hside hT
   clear hT hsat hB hen hpre hsl hg hz hshape
   rw [hkm]
   clear hkm
   gi_wp2
   refine ⟨fun h => (by cases h), hR.mono ?_⟩
   rintro e W' (⟨rfl, hs5, hsat5⟩ | ⟨rfl, hs5, hsat5⟩)
   ·gi_wp2
    go_roundw
    case rel => exact ⟨k, by omega, rfl, hs5, by rw [← Hen.out]; exact hsat5⟩
    case measure => simp [intOf]
   ·gi_wp2
    refine bodyPost_ret (results_none rfl _ _ _) rfl ?_
    exact ⟨⟨_, rfl⟩, hs5, .inr ⟨_, Hpre.out, hsat5⟩⟩
def ReadQ (S : Hp) (d : Nat) (D : Dev) (A : Int × List UInt8) (F : Assn) (w : World) (e : Ending) (w' : World) : Prop :=
 ∃ dv, e = .returned (.tuple #[dv, .int .i64 A.1]) ∧ Sat w' (ansA 5 A dv * (devA S d D * (pool S * F))) ∧ Side w w'
def ReadC (S : Hp) (b3 r4 r5 : Nat) (a : Int) (dv : Value) (c : Int) : Assn :=
 pt b3 (.cells #[.int .i64 a] 3 (0, 0)) * (pt r4 (.cells #[dv] 22 (0, 0)) * (pt r5 (.cells #[.int .i64 c] 25 (0, 0)) * pool S))
def ReadLook (S : Hp) (b3 r4 r5 : Nat) (a : Int) (ys : Zs) : Assn := fact (∀ z ∈ ys, ¬ z.1 = a) * ReadC S b3 r4 r5 a (.slice none 0 0) 0
def ReadFound (S : Hp) (b3 r4 r5 : Nat) (a : Int) (c : Code) (ys : Zs) : Assn := ex fun p : Zs × (Int × Value × List UInt8) × Nat =>
 fact (c = .ret ∧ ys = p.1 ++ [p.2.1] ∧ (∀ z ∈ p.1, ¬ z.1 = a) ∧ p.2.1.1 = a) * (pt p.2.2 (.cells (u8s (padTo 512 p.2.1.2.2)) 5 (0, 0)) * ReadC S b3 r4 r5 a (.slice (some ⟨p.2.2, 0, none⟩) 512 512) 0)
def ReadB (S : Hp) (b3 r4 r5 bx d : Nat) (a c1 c0 : Int) (pre : Zs) (z : Int × Value × List UInt8) (a' : Act) : Assn := ex fun bz =>
 fact (a' = { tmps := #[.pointer (some ⟨d, 0, none⟩), .int .i64 a, undef, .pointer (some ⟨b3, 0, none⟩), .pointer (some ⟨r4, 0, none⟩), .pointer (some ⟨r5, 0, none⟩), .int .i64 0, .pointer (some ⟨bz, 0, none⟩), undef, undef, .pointer (some ⟨d, 0, none⟩), .int .i64 a, .bool true, .bool false, .pointer (some ⟨d, 0, none⟩), .int .i64 0, .int .i64 0, .bool false, undef, .pointer (some ⟨d, 0, none⟩), .pointer (some ⟨d, 0, none⟩), .pointer (some ⟨d, 3, none⟩), .pointer (some ⟨d, 3, none⟩), .int .i64 c0, .int .i64 c1, .pointer (some ⟨d, 0, none⟩), .pointer (some ⟨d, 3, none⟩), .pointer (some ⟨d, 3, none⟩), .pointer (some ⟨d, 0, none⟩), .func (.func 107) #[] #[.pointer (some ⟨bx, 0, none⟩)], .agg #[.int .i64 z.1, z.2.1], undef, undef, undef, undef, undef, undef, undef, undef, undef, undef, undef, undef, undef, undef, undef, undef, undef, undef, undef, undef, undef, undef, undef, undef, undef], defers := [] }) * (pt bz (.cells #[.int .i64 z.1, z.2.1] 80 (0, 0)) * ReadLook S b3 r4 r5 a pre)
theorem zero_unit (w : World) : (zeroValue 112).run Tryz.prog w = .ok (.agg #[]) w := by kernel_rfl
theorem torn_look (t : List (Int × Unit)) (a : Int) : (kget (tornKV t) a).getD (.agg #[]) = .agg #[] := by
 have := look_map (fun _ : Unit => Value.agg #[]) t a
 rw [tornKV, this]
 cases kget t a <;> rfl
theorem newest_none {Z : Zs} {l : List (Int × List UInt8)} {a : Int} (e : Z.map (fun z => (z.1, z.2.2)) = l) (h : ∀ z ∈ Z.reverse, ¬ z.1 = a) : newest l a = none := by
 subst e
 rw [newest, Option.map_eq_none_iff, List.find?_eq_none]
 intro p hp
 rw [List.mem_reverse, List.mem_map] at hp
 obtain ⟨z, hz, rfl⟩ := hp
 simpa using h z (by simpa using hz)
theorem newest_some {Z : Zs} {l : List (Int × List UInt8)} {a : Int} (e : Z.map (fun z => (z.1, z.2.2)) = l) {pre : Zs} {z : Int × Value × List UInt8} (hp : pre ++ [z] <+: Z.reverse) (h : ∀ z ∈ pre, ¬ z.1 = a) (hz : z.1 = a) : newest l a = some z.2.2 := by
 subst e
 obtain ⟨t, ht⟩ := hp
 rw [newest, ← List.map_reverse, ← ht, List.append_assoc, List.map_append, List.find?_append, List.find?_eq_none.2]
 ·simp [hz]
 ·intro p hp
  obtain ⟨z, hz, rfl⟩ := List.mem_map.1 hp
  simpa using h z hz
theorem bs_of_pt {w : World} {T : TypeId} {g n : Nat} {l : List UInt8} {F : Assn} (hl : l.length = n) (h : Sat w (pt g (.cells (u8s l) T (0, 0)) * F)) (hn : n ≤ 1000000 := by omega) : Sat w (bs T (.slice (some ⟨g, 0, none⟩) n n) l * F) := by
 have h2 := Sat.slOf (sz := 1) (n := n) (cap := n) h (Nat.le_refl n) (by unfold maxLen; omega) (by rw [size_u8s, hl, Nat.mul_one])
 refine h2.to ?_
 have e : (u8s l).toList.take (n * 1) = l.map u8 := List.take_of_length_le (by rw [u8s, List.toList_toArray, List.length_map, hl, Nat.mul_one]; exact Nat.le_refl _)
 rw [e, bs, hl]
theorem read_results {tmps : Array Value} {w : World} {r4 r5 : Nat} {v u : Value} (h4 : tmps[4]? = some (.pointer (some ⟨r4, 0, none⟩))) (h5 : tmps[5]? = some (.pointer (some ⟨r5, 0, none⟩))) (c4 : w.cell? ⟨r4, 0, none⟩ = some v) (c5 : w.cell? ⟨r5, 0, none⟩ = some u) :
  (results Tryz.f63 tmps).run Tryz.prog w = .ok (.tuple #[v, u]) w := by
 simp [results, Tryz.results63, go_sem, h4, h5, c4, c5]
set_option maxRecDepth 100000 in
set_option maxHeartbeats 4000000 in
theorem read_up (w : World) (S : Hp) (d : Nat) (D : Dev) (a : Int) (F : Assn) (h : Sat w (devA S d D * (pool S * F))) (hD : D.Ok) (hh : D.has a) (hb : D.begins = 0) :
  Calls Tryz.prog 63 #[.pointer (some ⟨d, 0, none⟩), .int .i64 a] w (ReadQ S d { D.begun with cr := i64w (D.begun.cr + 1) } (D.begun.tells a) F w) := by
 have hok := hD.up hb
 obtain ⟨D1, hD1⟩ : ∃ D1, D1 = D.begun := ⟨_, rfl⟩
 have hh1 : D1.has a := by rw [hD1, Dev.begun_up hb]; exact hh
 rw [← hD1] at hok ⊢
 have HD1 := SL.hid hD1; clear hD1
 have hA := ((h.alloc (.cells #[.int .i64 a] 3 (0, 0))).alloc (.cells #[.slice none 0 0] 22 (0, 0))).alloc (.cells #[.int .i64 0] 25 (0, 0))
 have hs1 := (((Side.refl w).alloc (.cells #[.int .i64 a] 3 (0, 0))).alloc (.cells #[.slice none 0 0] 22 (0, 0))).alloc (.cells #[.int .i64 0] 25 (0, 0))
 rw [World.size_alloc, World.size_alloc] at hA
 refine (callsIn_wide (n := 9)).1 ?_
 refine callsIn_of_wp_marks Tryz.func63 rfl trivial ?_ rfl
 simp only [Tryz.ntmps63, List.size_toArray, List.length_cons, List.length_nil, Nat.reduceAdd, Nat.reduceSub, Array.replicate_succ, Array.replicate_zero, List.push_toArray, List.append_toArray, List.nil_append, List.cons_append]
 gi_wp2_with fail
 generalize ((w.alloc (.cells #[.int .i64 a] 3 (0, 0))).alloc (.cells #[.slice none 0 0] 22 (0, 0))).alloc (.cells #[.int .i64 0] 25 (0, 0)) = w1 at hA hs1 ⊢
 generalize w.heap.size + 1 + 1 = r5 at hA ⊢
 generalize w.heap.size + 1 = r4 at hA ⊢
 generalize w.heap.size = b3 at hA ⊢
 have H1 : Sat w1 (devA S d D * (pool S * (pt b3 (.cells #[.int .i64 a] 3 (0, 0)) * (pt r4 (.cells #[.slice none 0 0] 22 (0, 0)) * (pt r5 (.cells #[.int .i64 0] 25 (0, 0)) * F))))) := hA.to (by ac_rfl)
 have ch := has_any w1 S d D a _ H1
 rw [show decide (D.has a) = true by simpa using hh] at ch
 have cb := begin_any w1 S d D _ H1 hD
 rw [hb, ← HD1.out] at cb
 have q3 : w1.cell? ⟨b3, 0, none⟩ = some (.int .i64 a) := H1.front3.cell 0
 clear hA h hb hD
 refine callV ch ?_
 rintro e w1 ⟨rfl, rfl⟩
 clear ch
 gi_wp2_with fail
 refine callV cb ?_
 rintro e w2 ⟨rfl, H2, d2⟩
 clear cb q3 H1
 obtain ⟨x, hx⟩ := H2.devEx
 have hfit := hx.devOpen.1
 have k3 : w2.cell? ⟨d, 3, none⟩ = some (.int .i64 D1.cr) := hx.devCell 3
 have kf := hx.devFree
 have hx3 : Sat (w2.setCell ⟨d, 3, none⟩ (.int .i64 (i64w (D1.cr + 1)))) (devX x S d { D1 with cr := i64w (D1.cr + 1) } * (pool S * (pt b3 (.cells #[.int .i64 a] 3 (0, 0)) * (pt r4 (.cells #[.slice none 0 0] 22 (0, 0)) * (pt r5 (.cells #[.int .i64 0] 25 (0, 0)) * F))))) :=
  Sat.devShut ⟨hfit.sec, hfit.vals, hfit.wait, hfit.wvals⟩ (hx.devOpen.2.setCell 3 (.int .i64 (i64w (D1.cr + 1))))
 have hs3 := (hs1.trans d2).setCell ⟨d, 3, none⟩ (.int .i64 (i64w (D1.cr + 1)))
 gi_wp2_with fail
 generalize w2.setCell ⟨d, 3, none⟩ (.int .i64 (wrap64 (D1.cr + 1))) = w3 at hx3 hs3 ⊢
 clear k3 kf hx H2 hs1 d2
 refine callV (newestF_any w3 _) ?_
 rintro e w4 ⟨rfl, rfl⟩
 have H4 := hx3.alloc (.cells #[.pointer (some ⟨d, 0, none⟩)] 24 (0, 0))
 have hs4 := hs3.alloc (.cells #[.pointer (some ⟨d, 0, none⟩)] 24 (0, 0))
 gi_wp2_with fail
 generalize w3.alloc (.cells #[.pointer (some ⟨d, 0, none⟩)] 24 (0, 0)) = w4 at H4 hs4 ⊢
 generalize w3.heap.size = bx at H4 ⊢
 have hstart : Sat w4 (ReadLook S b3 r4 r5 a [] * (NewestIt bx x S d { D1 with cr := i64w (D1.cr + 1) } * F)) :=
  (Sat.fact_iff.2 ⟨fun z hz => (by cases hz), H4⟩ : Sat w4 (fact _ * _)).to (by unfold ReadLook ReadC NewestIt; ac_rfl)
 refine wpIn_range (w0 := w) rfl (by decide) (gf := 107) (lb := #[.pointer (some ⟨bx, 0, none⟩)]) rfl trivial (enters Tryz.func107 (by kernel_rfl) rfl)
  (newest_iter _ x S bx d { D1 with cr := i64w (D1.cr + 1) } hok.many) (ReadLook S b3 r4 r5 a) (ReadFound S b3 r4 r5 a) (ReadB S b3 r4 r5 bx d a (wrap64 (D1.cr + 1)) D1.cr) F ?hps hs4 hstart ?assign ?body ?done ?stop
 case hps =>
  intro z vs Fr W H
  obtain ⟨⟨rfl, _⟩, _⟩ := Sat.fact_iff.1 H
  rfl
 case assign =>
  intro l r pre z vs Fr W K _ hsd H hK
  obtain ⟨⟨rfl, da, dn, dc, hz⟩, H2⟩ := Sat.fact_iff.1 (H.to (star_left_comm _ _ _))
  obtain ⟨q, dv, zl⟩ := z
  simp only at hz
  subst hz
  have H3 := H2.alloc (.cells #[.int .i64 q, .slice da dn dc] 80 (0, 0))
  clear H H2 H4 hstart hx3
  gi_wp2
  refine hK _ _ (hsd.alloc _) (Sat.ex_star_iff.2 ⟨W.heap.size, (Sat.fact_iff.2 ⟨rfl, H3⟩ : Sat _ (fact _ * _)).to (by ac_rfl)⟩)
 case body =>
  intro l r pre z a' Fr W hp hsd H
  obtain ⟨bz, H1⟩ := Sat.ex_star_iff.1 H
  obtain ⟨rfl, H2⟩ := Sat.fact_iff.1 (H1.to (star_assoc _ _ _))
  have hzm : z ∈ x.Z := by
   obtain ⟨t, ht⟩ := hp
   have : z ∈ x.Z.reverse := by rw [← ht]; simp
   simpa using this
  have hval := hfit.wvals z hzm
  obtain ⟨da, dc, hdv⟩ := val_shape hval
  obtain ⟨q, dv, zl⟩ := z
  simp only at hdv hval
  subst hdv
  have H3 : Sat W (ReadLook S b3 r4 r5 a pre * (pt bz (.cells #[.int .i64 q, .slice da zl.length dc] 80 (0, 0)) * (pt l (.loop r) * Fr))) := H2.to (by ac_rfl)
  obtain ⟨hpre, J4⟩ := Sat.fact_iff.1 (H3.to (star_assoc _ _ _))
  have H5 : Sat W (pool S * (pt b3 (.cells #[.int .i64 a] 3 (0, 0)) * (pt r4 (.cells #[.slice none 0 0] 22 (0, 0)) * (pt r5 (.cells #[.int .i64 0] 25 (0, 0)) * (pt bz (.cells #[.int .i64 q, .slice da zl.length dc] 80 (0, 0)) * (pt l (.loop r) * Fr)))))) := J4.to (by unfold ReadC; ac_rfl)
  have c3 : W.cell? ⟨b3, 0, none⟩ = some (.int .i64 a) := H5.front2.cell 0
  have cz0 : W.cell? ⟨bz, 0, none⟩ = some (.int .i64 q) := H5.front5.cell 0
  have cz1 : W.cell? ⟨bz, 1, none⟩ = some (.slice da zl.length dc) := H5.front5.cell 1
  have hrd := hval.rd H5
  have hzl : zl.length ≤ 9223372036854775807 := by have := hval.1; unfold small at this; omega
  have Hp := SL.hid hpre
  clear H H1 H2 H3 J4 hpre hstart H4 hx3
  by_cases hq : q = a
  ·have hqb : (q == a) = true := by simpa using hq
   have Hq := SL.hid hq; clear hq
   gi_wp2_with fail
   refine callRV (copiedB_any W _ zl hrd hzl) ?_
   rintro e w5 ⟨g, rfl, h5, d5⟩
   have H6 := h5.under H5
   have c4 := H6.front4.cell 0
   have f4 := H6.front4.frozen
   have c5 := H6.front5.cell 0
   have f5 := H6.front5.frozen
   have c5' := (H6.front4.setCell 0 (.slice (some ⟨g, 0, none⟩) 512 512)).front5.cell 0
   have f5' := (H6.front4.setCell 0 (.slice (some ⟨g, 0, none⟩) 512 512)).front5.frozen
   have hne : r4 ≠ r5 := (H6.front5.front5).ne
   have H7 := ((H6.front4.setCell 0 (.slice (some ⟨g, 0, none⟩) 512 512)).back4.front5.setCell 0 (.int .i64 0)).back5
   clear c3 cz0 cz1 hrd H5 h5 H6
   gi_wp2
   refine ⟨((hsd.trans d5).setCell _ _).setCell _ _, Sat.ex_star_iff.2 ⟨(pre, (q, .slice da zl.length dc, zl), g), (Sat.fact_iff.2 ⟨(⟨rfl, rfl, Hp.out, Hq.out⟩ : Code.ret = .ret ∧ pre ++ [(q, Value.slice da zl.length dc, zl)] = pre ++ [(q, Value.slice da zl.length dc, zl)] ∧ (∀ z ∈ pre, ¬ z.1 = a) ∧ q = a), H7.drop6⟩ : Sat _ (fact _ * _)).to ?_⟩⟩
   unfold ReadC
   simp only [List.setIfInBounds_toArray, List.set_cons_zero]
   ac_rfl
  ·have hqb : (q == a) = false := by simpa using hq
   gi_wp2
   refine ⟨hsd, (Sat.fact_iff.2 ⟨?_, H5.drop5⟩ : Sat _ (fact _ * _)).to (by unfold ReadLook ReadC; ac_rfl)⟩
   intro z hz
   rcases List.mem_append.1 hz with hz | hz
   ·exact Hp.out z hz
   ·rw [List.mem_singleton.1 hz]; exact hq
 case done =>
  intro D2 ys W hS hsd H
  subst hS
  have H2 : Sat W (ReadLook S b3 r4 r5 a x.Z.reverse * (NewestIt bx x S d { D1 with cr := i64w (D1.cr + 1) } * (pt D2 (.deferred (some [])) * F))) := H
  obtain ⟨hno, H3⟩ := Sat.fact_iff.1 (H2.to (star_assoc _ _ _))
  have hnew : newest D1.wait a = none := newest_none hfit.wait hno
  clear hno hstart H4 hx3 H H2
  have H5 : Sat W (devX x S d { D1 with cr := i64w (D1.cr + 1) } * (pool S * (pt b3 (.cells #[.int .i64 a] 3 (0, 0)) * (pt r4 (.cells #[.slice none 0 0] 22 (0, 0)) * (pt r5 (.cells #[.int .i64 0] 25 (0, 0)) * (pt D2 (.deferred (some [])) * F)))))) :=
   (H3.to (by unfold ReadC NewestIt; ac_rfl : _ = pt bx (.cells #[.pointer (some ⟨d, 0, none⟩)] 24 (0, 0)) * _)).right
  obtain ⟨BIG, hBIG⟩ : ∃ X, X = devX x S d { D1 with cr := i64w (D1.cr + 1) } * (pool S * (pt b3 (.cells #[.int .i64 a] 3 (0, 0)) * (pt r4 (.cells #[.slice none 0 0] 22 (0, 0)) * (pt r5 (.cells #[.int .i64 0] 25 (0, 0)) * (pt D2 (.deferred (some [])) * F))))) := ⟨_, rfl⟩
  rw [← hBIG] at H5
  have g2 : ∀ w', Sat w' BIG → w'.cell? ⟨d, 2, none⟩ = some (.map (some x.tm)) := fun w' h => (hBIG ▸ h).devCell 2
  have g3 : ∀ w', Sat w' BIG → w'.cell? ⟨b3, 0, none⟩ = some (.int .i64 a) := fun w' h => (hBIG ▸ h).front3.cell 0
  have gl : ∀ w', Sat w' BIG → (Instr.lookup 73 (.map (some x.tm)) (.int .i64 a) true).run Tryz.prog w' = .ok (.tuple #[.agg #[], .bool (kget D1.torn a).isSome]) w' := fun w' h => by
   have := (hBIG ▸ h).devOpen.2.front4.lookup (P := Tryz.prog) Tryz.underlying73 Tryz.underlying3 (zero_unit w') a true
   rw [this, torn_look, tornKV_get]; rfl
  have HAl : Sat (W.drew.alloc (.cells #[] 112 (0, 0))) BIG := (Sat.alloc (w := W.drew) H5 _).right
  have HB := SL.hid hBIG
  clear hBIG H3
  gi_wp2
  refine wpIn_wide.2 ?_
  go_region_held3 (fun w' => Sat w' BIG) (first | assumption | exact H5.drew | exact HAl) (fail)
  ·have HAl' : Sat (W.alloc (.cells #[] 112 (0, 0))).drew BIG := HAl
   have hs6 := (hsd.alloc (.cells #[] 112 (0, 0))).drew
   clear gl HAl H5
   generalize (W.alloc (.cells #[] 112 (0, 0))).drew = W6 at hs6 HAl' ⊢
   generalize W.heap.size = bt
   have H6 := HB.out ▸ HAl'
   by_cases ht : (kget D1.torn a).isSome = true
   ·have hT : D1.tells a = (3, []) := by rw [Dev.tells, hnew]; simp only [ht, if_true]
    have c4 := H6.front4.cell 0
    have f4 := H6.front4.frozen
    have c5 := H6.front5.cell 0
    have f5 := H6.front5.frozen
    have c5' := (H6.front4.setCell 0 (.slice none 0 0)).front5.cell 0
    have f5' := (H6.front4.setCell 0 (.slice none 0 0)).front5.frozen
    have hne : r4 ≠ r5 := (H6.front5.front5).ne
    have H7 := ((H6.front4.setCell 0 (.slice none 0 0)).front5.setCell 0 (.int .i64 3))
    have HT := SL.hid hT; have HB6 := SL.hid H6
    clear hT H6 hnew hh HAl' g2 g3 HB
    rw [ht]
    go_wp2
    gi_wp2
    refine ⟨by simp, .inl ⟨_, _, rfl, run_takeDeferred H7.front6.heap, ?_⟩⟩
    have H8 := H7.front6.putObj (.deferred none)
    refine ⟨.tuple #[.slice none 0 0, .int .i64 3], read_results rfl rfl (H8.front3.cell 0) (H8.front2.cell 0), _, by rw [HT.out], ?_, ((hs6.setCell _ _).setCell _ _).putObj _ _⟩
    rw [HT.out]
    exact Sat.ansNil (Sat.devOf (H8.right.right.right.drop3)) (by decide)
   ·simp only [Bool.not_eq_true] at ht
    have hle : x.Y.length = D1.sec.length := by rw [← hfit.sec, List.length_map]
    obtain ⟨n, rfl⟩ := Int.eq_ofNat_of_zero_le hh1.1
    have hnl : n < x.Y.length := by have := hh1.2; omega
    have hnl' : (n : Int) < (x.Y.length : Int) := by omega
    have hT : D1.tells (n : Int) = (0, padTo 512 x.Y[n].2) := by
     rw [Dev.tells, hnew]
     simp only [ht, Bool.false_eq_true, if_false, Int.toNat_natCast, ← hfit.sec]
     simp [hnl]
    have hval := hfit.vals _ (List.getElem_mem hnl)
    obtain ⟨va, vc, hv⟩ := val_shape hval
    have hyc : (x.Y.map Prod.fst)[n]? = some (.slice va x.Y[n].2.length vc) := by rw [← hv]; simp [hnl]
    rw [hv] at hval
    generalize x.Y[n].2 = yl at hT hval hyc
    obtain ⟨B3, hB3⟩ : ∃ X, X = devX x S d { D1 with cr := i64w (D1.cr + 1) } * (pool S * (pt b3 (.cells #[.int .i64 (n : Int)] 3 (0, 0)) * (pt D2 (.deferred (some [])) * F))) := ⟨_, rfl⟩
    have H7 : Sat W6 (B3 * (pt r4 (.cells #[.slice none 0 0] 22 (0, 0)) * pt r5 (.cells #[.int .i64 0] 25 (0, 0)))) := H6.to (by rw [hB3]; ac_rfl)
    have G0 : ∀ w', Sat w' B3 → w'.cell? ⟨d, 0, none⟩ = some (.slice (some ⟨x.sg, 0, none⟩) x.Y.length x.Y.length) := fun w' h => (hB3 ▸ h).devCell 0
    have G3 : ∀ w', Sat w' B3 → w'.cell? ⟨b3, 0, none⟩ = some (.int .i64 (n : Int)) := fun w' h => (hB3 ▸ h).front3.cell 0
    have Gs : ∀ w', Sat w' B3 → w'.cell? ⟨x.sg, n, none⟩ = some (.slice va yl.length vc) := fun w' h => ((hB3 ▸ h).devOpen.2.front2.cell n).trans (by simpa using hyc)
    have Gr : Hid (∀ w', Sat w' B3 → Rd w' (.slice va yl.length vc) yl) := fun w' h => hval.rd ((hB3 ▸ h).front2)
    have hyl : yl.length ≤ 9223372036854775807 := by have := hval.1; unfold small at this; omega
    have HT := SL.hid hT; have HB3 := SL.hid hB3; have Hnl := SL.hid hnl
    clear hT H6 hnew hh hh1 HAl' g2 g3 HB hB3 hval hyc hv hnl hle
    rw [ht]
    go_wp2
    gi_wp2
    refine wpIn_wide.2 ?_
    have H70 : Sat W6.drew (B3 * (pt r4 (.cells #[.slice none 0 0] 22 (0, 0)) * pt r5 (.cells #[.int .i64 0] 25 (0, 0)))) := H7
    have H7b : Sat W6.drew B3 := H7.left
    go_region_held3 (fun w' => Sat w' B3) (first | assumption | exact H7b) (first
     | (go_at_call 37; (with_reducible refine (copiedB_any _ _ yl (Gr.out _ H7b) hyl).mono ?_); rintro e w7 ⟨g, rfl, h7, d7⟩; have J7 := h7.under H70; have Jb : Sat w7 B3 := J7.right.left; have K4 : Sat w7 (pt r4 (.cells #[.slice none 0 0] 22 (0, 0)) * (pt r5 (.cells #[.int .i64 0] 25 (0, 0)) * (pt g (.cells (u8s (padTo 512 yl)) 5 (0, 0)) * B3))) := J7.to (by ac_rfl); have c4 := K4.cell 0; have f4 := K4.frozen; have K5 := (K4.setCell 0 (.slice (some ⟨g, 0, none⟩) 512 512)).front2; have c5 := K5.cell 0; have f5 := K5.frozen; have K6 := K5.setCell 0 (.int .i64 0); have S1 : Sat (w7.setCell ⟨r4, 0, none⟩ (.slice (some ⟨g, 0, none⟩) 512 512)) B3 := K5.right.right.right; have S2 : Sat ((w7.setCell ⟨r4, 0, none⟩ (.slice (some ⟨g, 0, none⟩) 512 512)).setCell ⟨r5, 0, none⟩ (.int .i64 0)) B3 := K6.right.right.right))
    gi_wp2
    have K7 : Sat ((w7.setCell ⟨r4, 0, none⟩ (.slice (some ⟨g, 0, none⟩) 512 512)).setCell ⟨r5, 0, none⟩ (.int .i64 0)) (pt D2 (.deferred (some [])) * (pt r5 (.cells #[.int .i64 0] 25 (0, 0)) * (pt r4 (.cells #[.slice (some ⟨g, 0, none⟩) 512 512] 22 (0, 0)) * (pt g (.cells (u8s (padTo 512 yl)) 5 (0, 0)) * (devX x S d { D1 with cr := i64w (D1.cr + 1) } * (pool S * (pt b3 (.cells #[.int .i64 (n : Int)] 3 (0, 0)) * F))))))) :=
     K6.to (by rw [HB3.out]; simp only [List.setIfInBounds_toArray, List.set_cons_zero]; ac_rfl)
    refine ⟨by simp, .inl ⟨_, _, rfl, run_takeDeferred K7.heap, ?_⟩⟩
    have K8 := K7.putObj (.deferred none)
    refine ⟨.tuple #[.slice (some ⟨g, 0, none⟩) 512 512, .int .i64 0], read_results rfl rfl (K8.front3.cell 0) (K8.front2.cell 0), _, by rw [HT.out], ?_, (((hs6.drew.trans d7).setCell _ _).setCell _ _).putObj _ _⟩
    rw [HT.out]
    have K9 := bs_of_pt (padTo_length 512 yl) K8.right.right.right
    exact Sat.ansOf ((Sat.devOf K9.front2.drop4).back2)
  ·have HAl' : Sat (W.alloc (.cells #[] 112 (0, 0))).drew BIG := HAl
   have hs6 := (hsd.alloc (.cells #[] 112 (0, 0))).drew
   clear gl HAl H5
   generalize (W.alloc (.cells #[] 112 (0, 0))).drew = W6 at hs6 HAl' ⊢
   generalize W.heap.size = bt
   have H6 := HB.out ▸ HAl'
   by_cases ht : (kget D1.torn a).isSome = true
   ·have hT : D1.tells a = (3, []) := by rw [Dev.tells, hnew]; simp only [ht, if_true]
    have c4 := H6.front4.cell 0
    have f4 := H6.front4.frozen
    have c5 := H6.front5.cell 0
    have f5 := H6.front5.frozen
    have c5' := (H6.front4.setCell 0 (.slice none 0 0)).front5.cell 0
    have f5' := (H6.front4.setCell 0 (.slice none 0 0)).front5.frozen
    have hne : r4 ≠ r5 := (H6.front5.front5).ne
    have H7 := ((H6.front4.setCell 0 (.slice none 0 0)).front5.setCell 0 (.int .i64 3))
    have HT := SL.hid hT; have HB6 := SL.hid H6
    clear hT H6 hnew hh HAl' g2 g3 HB
    rw [ht]
    go_wp2
    gi_wp2
    refine ⟨by simp, .inl ⟨_, _, rfl, run_takeDeferred H7.front6.heap, ?_⟩⟩
    have H8 := H7.front6.putObj (.deferred none)
    refine ⟨.tuple #[.slice none 0 0, .int .i64 3], read_results rfl rfl (H8.front3.cell 0) (H8.front2.cell 0), _, by rw [HT.out], ?_, ((hs6.setCell _ _).setCell _ _).putObj _ _⟩
    rw [HT.out]
    exact Sat.ansNil (Sat.devOf (H8.right.right.right.drop3)) (by decide)
   ·simp only [Bool.not_eq_true] at ht
    have hle : x.Y.length = D1.sec.length := by rw [← hfit.sec, List.length_map]
    obtain ⟨n, rfl⟩ := Int.eq_ofNat_of_zero_le hh1.1
    have hnl : n < x.Y.length := by have := hh1.2; omega
    have hnl' : (n : Int) < (x.Y.length : Int) := by omega
    have hT : D1.tells (n : Int) = (0, padTo 512 x.Y[n].2) := by
     rw [Dev.tells, hnew]
     simp only [ht, Bool.false_eq_true, if_false, Int.toNat_natCast, ← hfit.sec]
     simp [hnl]
    have hval := hfit.vals _ (List.getElem_mem hnl)
    obtain ⟨va, vc, hv⟩ := val_shape hval
    have hyc : (x.Y.map Prod.fst)[n]? = some (.slice va x.Y[n].2.length vc) := by rw [← hv]; simp [hnl]
    rw [hv] at hval
    generalize x.Y[n].2 = yl at hT hval hyc
    obtain ⟨B3, hB3⟩ : ∃ X, X = devX x S d { D1 with cr := i64w (D1.cr + 1) } * (pool S * (pt b3 (.cells #[.int .i64 (n : Int)] 3 (0, 0)) * (pt D2 (.deferred (some [])) * F))) := ⟨_, rfl⟩
    have H7 : Sat W6 (B3 * (pt r4 (.cells #[.slice none 0 0] 22 (0, 0)) * pt r5 (.cells #[.int .i64 0] 25 (0, 0)))) := H6.to (by rw [hB3]; ac_rfl)
    have G0 : ∀ w', Sat w' B3 → w'.cell? ⟨d, 0, none⟩ = some (.slice (some ⟨x.sg, 0, none⟩) x.Y.length x.Y.length) := fun w' h => (hB3 ▸ h).devCell 0
    have G3 : ∀ w', Sat w' B3 → w'.cell? ⟨b3, 0, none⟩ = some (.int .i64 (n : Int)) := fun w' h => (hB3 ▸ h).front3.cell 0
    have Gs : ∀ w', Sat w' B3 → w'.cell? ⟨x.sg, n, none⟩ = some (.slice va yl.length vc) := fun w' h => ((hB3 ▸ h).devOpen.2.front2.cell n).trans (by simpa using hyc)
    have Gr : Hid (∀ w', Sat w' B3 → Rd w' (.slice va yl.length vc) yl) := fun w' h => hval.rd ((hB3 ▸ h).front2)
    have hyl : yl.length ≤ 9223372036854775807 := by have := hval.1; unfold small at this; omega
    have HT := SL.hid hT; have HB3 := SL.hid hB3; have Hnl := SL.hid hnl
    clear hT H6 hnew hh hh1 HAl' g2 g3 HB hB3 hval hyc hv hnl hle
    rw [ht]
    go_wp2
    gi_wp2
    refine wpIn_wide.2 ?_
    have H70 : Sat W6.drew (B3 * (pt r4 (.cells #[.slice none 0 0] 22 (0, 0)) * pt r5 (.cells #[.int .i64 0] 25 (0, 0)))) := H7
    have H7b : Sat W6.drew B3 := H7.left
    go_region_held3 (fun w' => Sat w' B3) (first | assumption | exact H7b) (first
     | (go_at_call 37; (with_reducible refine (copiedB_any _ _ yl (Gr.out _ H7b) hyl).mono ?_); rintro e w7 ⟨g, rfl, h7, d7⟩; have J7 := h7.under H70; have Jb : Sat w7 B3 := J7.right.left; have K4 : Sat w7 (pt r4 (.cells #[.slice none 0 0] 22 (0, 0)) * (pt r5 (.cells #[.int .i64 0] 25 (0, 0)) * (pt g (.cells (u8s (padTo 512 yl)) 5 (0, 0)) * B3))) := J7.to (by ac_rfl); have c4 := K4.cell 0; have f4 := K4.frozen; have K5 := (K4.setCell 0 (.slice (some ⟨g, 0, none⟩) 512 512)).front2; have c5 := K5.cell 0; have f5 := K5.frozen; have K6 := K5.setCell 0 (.int .i64 0); have S1 : Sat (w7.setCell ⟨r4, 0, none⟩ (.slice (some ⟨g, 0, none⟩) 512 512)) B3 := K5.right.right.right; have S2 : Sat ((w7.setCell ⟨r4, 0, none⟩ (.slice (some ⟨g, 0, none⟩) 512 512)).setCell ⟨r5, 0, none⟩ (.int .i64 0)) B3 := K6.right.right.right))
    gi_wp2
    have K7 : Sat ((w7.setCell ⟨r4, 0, none⟩ (.slice (some ⟨g, 0, none⟩) 512 512)).setCell ⟨r5, 0, none⟩ (.int .i64 0)) (pt D2 (.deferred (some [])) * (pt r5 (.cells #[.int .i64 0] 25 (0, 0)) * (pt r4 (.cells #[.slice (some ⟨g, 0, none⟩) 512 512] 22 (0, 0)) * (pt g (.cells (u8s (padTo 512 yl)) 5 (0, 0)) * (devX x S d { D1 with cr := i64w (D1.cr + 1) } * (pool S * (pt b3 (.cells #[.int .i64 (n : Int)] 3 (0, 0)) * F))))))) :=
     K6.to (by rw [HB3.out]; simp only [List.setIfInBounds_toArray, List.set_cons_zero]; ac_rfl)
    refine ⟨by simp, .inl ⟨_, _, rfl, run_takeDeferred K7.heap, ?_⟩⟩
    have K8 := K7.putObj (.deferred none)
    refine ⟨.tuple #[.slice (some ⟨g, 0, none⟩) 512 512, .int .i64 0], read_results rfl rfl (K8.front3.cell 0) (K8.front2.cell 0), _, by rw [HT.out], ?_, (((hs6.drew.trans d7).setCell _ _).setCell _ _).putObj _ _⟩
    rw [HT.out]
    have K9 := bs_of_pt (padTo_length 512 yl) K8.right.right.right
    exact Sat.ansOf ((Sat.devOf K9.front2.drop4).back2)
 case stop =>
  intro D2 c ys W hp hsd H
  obtain ⟨⟨pre, z, g⟩, H1⟩ := Sat.ex_star_iff.1 H
  obtain ⟨⟨rfl, rfl, hpre, hza⟩, H2⟩ := Sat.fact_iff.1 (H1.to (star_assoc _ _ _))
  have hT : D1.tells a = (0, padTo 512 z.2.2) := by rw [Dev.tells, newest_some hfit.wait hp hpre hza]
  have HT := SL.hid hT
  have K7 : Sat W (pt D2 (.deferred (some [])) * (pt r5 (.cells #[.int .i64 0] 25 (0, 0)) * (pt r4 (.cells #[.slice (some ⟨g, 0, none⟩) 512 512] 22 (0, 0)) * (pt g (.cells (u8s (padTo 512 z.2.2)) 5 (0, 0)) * (devX x S d { D1 with cr := i64w (D1.cr + 1) } * (pool S * (pt b3 (.cells #[.int .i64 a] 3 (0, 0)) * (pt bx (.cells #[.pointer (some ⟨d, 0, none⟩)] 24 (0, 0)) * F)))))))) :=
   H2.to (by unfold ReadC NewestIt; ac_rfl)
  clear H H1 H2 hp hpre hza hT hstart H4 hx3
  gi_wp2
  refine ⟨by simp, .inl ⟨_, _, rfl, run_takeDeferred K7.heap, ?_⟩⟩
  have K8 := K7.putObj (.deferred none)
  refine ⟨.tuple #[.slice (some ⟨g, 0, none⟩) 512 512, .int .i64 0], read_results rfl rfl (K8.front3.cell 0) (K8.front2.cell 0), _, by rw [HT.out], ?_, hsd.putObj _ _⟩
  rw [HT.out]
  have K9 := bs_of_pt (padTo_length 512 z.2.2) K8.right.right.right
  exact Sat.ansOf ((Sat.devOf K9.front2.drop4.drop4).back2)
end Go.Proofs.YtdafdidmbeecfaaGreatDoor
end
section
namespace Go.Proofs.YtdafdidmbeecfaaGreatDoor
set_option linter.unusedVariables false
set_option linter.unusedSimpArgs false
open Go.RowKit Go.SL
attribute [local go_sem] Oper.semAt_some
set_option maxRecDepth 100000 in
set_option maxHeartbeats 2000000 in
theorem read_no (w : World) (S : Hp) (d : Nat) (D : Dev) (a : Int) (F : Assn) (h : Sat w (devA S d D * (pool S * F))) (hh : ¬ D.has a) :
  Calls Tryz.prog 63 #[.pointer (some ⟨d, 0, none⟩), .int .i64 a] w (ReadQ S d D (1, []) F w) := by
 have hA := ((h.alloc (.cells #[.int .i64 a] 3 (0, 0))).alloc (.cells #[.slice none 0 0] 22 (0, 0))).alloc (.cells #[.int .i64 0] 25 (0, 0))
 have hs1 := (((Side.refl w).alloc (.cells #[.int .i64 a] 3 (0, 0))).alloc (.cells #[.slice none 0 0] 22 (0, 0))).alloc (.cells #[.int .i64 0] 25 (0, 0))
 rw [World.size_alloc, World.size_alloc] at hA
 refine (callsIn_wide (n := 9)).1 ?_
 refine callsIn_of_wp_marks Tryz.func63 rfl trivial ?_ rfl
 simp only [Tryz.ntmps63, List.size_toArray, List.length_cons, List.length_nil, Nat.reduceAdd, Nat.reduceSub, Array.replicate_succ, Array.replicate_zero, List.push_toArray, List.append_toArray, List.nil_append, List.cons_append]
 gi_wp2_with fail
 generalize ((w.alloc (.cells #[.int .i64 a] 3 (0, 0))).alloc (.cells #[.slice none 0 0] 22 (0, 0))).alloc (.cells #[.int .i64 0] 25 (0, 0)) = w1 at hA hs1 ⊢
 generalize w.heap.size + 1 + 1 = r5 at hA ⊢
 generalize w.heap.size + 1 = r4 at hA ⊢
 generalize w.heap.size = b3 at hA ⊢
 have H1 : Sat w1 (devA S d D * (pool S * (pt b3 (.cells #[.int .i64 a] 3 (0, 0)) * (pt r4 (.cells #[.slice none 0 0] 22 (0, 0)) * (pt r5 (.cells #[.int .i64 0] 25 (0, 0)) * F))))) := hA.to (by ac_rfl)
 have ch := has_any w1 S d D a _ H1
 rw [show decide (D.has a) = false by simpa using hh] at ch
 clear hA h
 refine callV ch ?_
 rintro e w1 ⟨rfl, rfl⟩
 have c4 := H1.front4.cell 0
 have f4 := H1.front4.frozen
 have c5' := (H1.front4.setCell 0 (.slice none 0 0)).front5.cell 0
 have f5' := (H1.front4.setCell 0 (.slice none 0 0)).front5.frozen
 have hne : r4 ≠ r5 := (H1.front5.front5).ne
 have c5 := H1.front5.cell 0
 have f5 := H1.front5.frozen
 have H7 := ((H1.front4.setCell 0 (.slice none 0 0)).front5.setCell 0 (.int .i64 1))
 clear ch H1
 gi_wp2
 refine ⟨_, read_results rfl rfl (H7.front2.cell 0) (H7.cell 0), ?_⟩
 exact ⟨_, rfl, Sat.ansNil (H7.right.right.drop3) (by decide), (hs1.setCell _ _).setCell _ _⟩
set_option maxRecDepth 100000 in
set_option maxHeartbeats 2000000 in
theorem read_down (w : World) (S : Hp) (d : Nat) (D : Dev) (a : Int) (F : Assn) (h : Sat w (devA S d D * (pool S * F))) (hD : D.Ok) (hh : D.has a) (hb : D.begins = 2) :
  Calls Tryz.prog 63 #[.pointer (some ⟨d, 0, none⟩), .int .i64 a] w (ReadQ S d D.begun (2, []) F w) := by
 have hA := ((h.alloc (.cells #[.int .i64 a] 3 (0, 0))).alloc (.cells #[.slice none 0 0] 22 (0, 0))).alloc (.cells #[.int .i64 0] 25 (0, 0))
 have hs1 := (((Side.refl w).alloc (.cells #[.int .i64 a] 3 (0, 0))).alloc (.cells #[.slice none 0 0] 22 (0, 0))).alloc (.cells #[.int .i64 0] 25 (0, 0))
 rw [World.size_alloc, World.size_alloc] at hA
 refine (callsIn_wide (n := 9)).1 ?_
 refine callsIn_of_wp_marks Tryz.func63 rfl trivial ?_ rfl
 simp only [Tryz.ntmps63, List.size_toArray, List.length_cons, List.length_nil, Nat.reduceAdd, Nat.reduceSub, Array.replicate_succ, Array.replicate_zero, List.push_toArray, List.append_toArray, List.nil_append, List.cons_append]
 gi_wp2_with fail
 generalize ((w.alloc (.cells #[.int .i64 a] 3 (0, 0))).alloc (.cells #[.slice none 0 0] 22 (0, 0))).alloc (.cells #[.int .i64 0] 25 (0, 0)) = w1 at hA hs1 ⊢
 generalize w.heap.size + 1 + 1 = r5 at hA ⊢
 generalize w.heap.size + 1 = r4 at hA ⊢
 generalize w.heap.size = b3 at hA ⊢
 have H1 : Sat w1 (devA S d D * (pool S * (pt b3 (.cells #[.int .i64 a] 3 (0, 0)) * (pt r4 (.cells #[.slice none 0 0] 22 (0, 0)) * (pt r5 (.cells #[.int .i64 0] 25 (0, 0)) * F))))) := hA.to (by ac_rfl)
 have ch := has_any w1 S d D a _ H1
 rw [show decide (D.has a) = true by simpa using hh] at ch
 have cb := begin_any w1 S d D _ H1 hD
 rw [hb] at cb
 clear hA h H1 hD hb hh
 refine callV ch ?_
 rintro e w1 ⟨rfl, rfl⟩
 clear ch
 gi_wp2_with fail
 refine callV cb ?_
 rintro e w2 ⟨rfl, H1, d2⟩
 have c4 := H1.front4.cell 0
 have f4 := H1.front4.frozen
 have c5' := (H1.front4.setCell 0 (.slice none 0 0)).front5.cell 0
 have f5' := (H1.front4.setCell 0 (.slice none 0 0)).front5.frozen
 have hne : r4 ≠ r5 := (H1.front5.front5).ne
 have c5 := H1.front5.cell 0
 have f5 := H1.front5.frozen
 have H7 := ((H1.front4.setCell 0 (.slice none 0 0)).front5.setCell 0 (.int .i64 2))
 clear cb H1
 gi_wp2
 refine ⟨_, read_results rfl rfl (H7.front2.cell 0) (H7.cell 0), ?_⟩
 exact ⟨_, rfl, Sat.ansNil (H7.right.right.drop3) (by decide), ((hs1.trans d2).setCell _ _).setCell _ _⟩
theorem read_any (w : World) (S : Hp) (d : Nat) (D : Dev) (a : Int) (F : Assn) (h : Sat w (devA S d D * (pool S * F))) (hD : D.Ok) :
  Calls Tryz.prog 63 #[.pointer (some ⟨d, 0, none⟩), .int .i64 a] w (ReadQ S d (D.read a).2 (D.read a).1 F w) := by
 unfold Dev.read
 by_cases hh : D.has a
 ·rw [if_pos hh]
  rcases D.begins_cases with hb | hb
  ·rw [if_pos hb]; exact read_up w S d D a F h hD hh hb
  ·rw [if_neg (by rw [hb]; decide)]; exact read_down w S d D a F h hD hh hb
 ·rw [if_neg hh]; exact read_no w S d D a F h hh
theorem made_nils (n : Nat) : madeCells #[Value.slice none 0 0] n = (List.replicate n (Value.slice none 0 0)).toArray := by
 apply Array.ext
 ·simp [size_madeCells]
 ·intro i h1 h2
  simp [madeCells, Nat.mod_one]
def NewQ (n : Nat) (w : World) (e : Ending) (w' : World) : Prop :=
 ∃ d, e = .returned (.tuple #[.pointer (some ⟨d, 0, none⟩), .int .i64 0]) ∧ (∀ S, Sat w' (devA S d (Dev.fresh n) * whole w)) ∧ Side w w'
set_option maxRecDepth 100000 in
set_option maxHeartbeats 1000000 in
theorem new_any (n : Nat) (h1 : 1 ≤ n) (h2 : n ≤ 20000) (w : World) :
  Calls Tryz.prog 10 #[.int .i64 n] w (NewQ n w) := by
 have hn1 : (1 : Int) ≤ (n : Int) := by omega
 have hn2 : (n : Int) ≤ 20000 := by omega
 obtain ⟨i0, hi, hz, hs0, hb0⟩ := info_parts info_bytes
 have hmk := run_make (P := Tryz.prog) w 72 22 i0 _ Tryz.underlying72 hi hz .i64 .i64 n n (by omega) (by omega) (by rw [hb0]; omega) (by omega)
 rw [hs0] at hmk
 have hmm := @run_makeMap Tryz.prog
 have hA := (((Sat.whole w).alloc (.cells (madeCells #[.slice none 0 0] n) 22 (0, 0))).alloc (.map #[] 0)).alloc (.cells #[.slice (some ⟨w.heap.size, 0, none⟩) n n, .slice none 0 0, .map (some (w.heap.size + 1)), .int .i64 0, .int .i64 0, .int .i64 0, .bool false, .bool false, .int .i64 0, .slice none 0 0] 76 (0, 0))
 have hs := (((Side.refl w).alloc (.cells (madeCells #[.slice none 0 0] n) 22 (0, 0))).alloc (.map #[] 0)).alloc (.cells #[.slice (some ⟨w.heap.size, 0, none⟩) n n, .slice none 0 0, .map (some (w.heap.size + 1)), .int .i64 0, .int .i64 0, .int .i64 0, .bool false, .bool false, .int .i64 0, .slice none 0 0] 76 (0, 0))
 rw [World.size_alloc, World.size_alloc] at hA
 clear hi hz hs0 hb0
 go_enter Tryz.func10, Tryz.ntmps10
 go_wp2
 go_ret2
 refine ⟨_, rfl, fun S => ?_, hs⟩
 have h3 := ((hA.front2.mpOf isMap_empty).front3.slNil 80 2).slNil 3 1
 refine Sat.devOf (x := ⟨w.heap.size, w.heap.size + 1, .slice none 0 0, .slice none 0 0, List.replicate n (.slice none 0 0, []), []⟩) (Sat.devShut ⟨by simp [Dev.fresh], fun y hy => ?_, rfl, by simp⟩ (h3.to ?_))
 ·rw [List.eq_of_mem_replicate hy]; exact ⟨by simp [small], .inl ⟨rfl, rfl⟩⟩
 ·simp only [Dx.cells, Dev.fresh, List.length_replicate, List.map_replicate, tornKV, List.map_nil, i64v, flatW, List.flatMap_nil, List.length_nil, made_nils]
  ac_rfl
def Dev.start (D : Dev) : Int × Dev := if D.down then (0, { D with down := false }) else (12, D)
theorem start_any (w : World) (S : Hp) (d : Nat) (D : Dev) (F : Assn) (hS : Sat w (devA S d D * F)) :
  Calls Tryz.prog 30 #[.pointer (some ⟨d, 0, none⟩)] w (DevQ S d (Dev.start D).2 (.int .i64 (Dev.start D).1) F w) := by
 obtain ⟨x, hx⟩ := hS.devEx
 have k6 : w.cell? ⟨d, 6, none⟩ = some (.bool D.down) := hx.devCell 6
 have kf := hx.devFree
 have hfit := hx.devOpen.1
 have h2 := hx.devOpen.2.setCell 6 (.bool false)
 unfold Dev.start
 cases hd : D.down
 ·rw [hd] at k6
  clear hx h2
  go_enter Tryz.func30, Tryz.ntmps30
  go_wp2
  go_ret
  exact ⟨rfl, hS, Side.refl w⟩
 ·rw [hd] at k6
  have H2 := SL.hid h2
  clear hx hS h2 hd
  go_enter Tryz.func30, Tryz.ntmps30
  go_wp2
  go_ret
  exact ⟨rfl, Sat.devOf (x := x) (Sat.devShut ⟨hfit.sec, hfit.vals, hfit.wait, hfit.wvals⟩ H2.out), (Side.refl w).setCell _ _⟩
end Go.Proofs.YtdafdidmbeecfaaGreatDoor
end

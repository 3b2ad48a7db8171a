/- batch: List. -/
import Derived.Test.YtcgpegdnicnciaaAl
namespace Go.SL
open Go.RowKit
/-- Two pools are one. -/
theorem Sat.poolJoin {w : World} {S S2 : Hp} {F : Assn} (h : Sat w (pool S * (pool S2 * F))) : Sat w (pool (join S S2) * F) ∧ Ext S (join S S2) ∧ Ext S2 (join S S2) := by
  obtain ⟨m, a, h1, h2, rfl, ⟨h3, h4, rfl, f, d', rfl⟩, d, rfl⟩ := h
  obtain ⟨d1, d2⟩ := apart_join_right.1 d
  refine ⟨⟨join (join h1 h3) h4, by rw [join_assoc]; exact a, join h1 h3, h4, rfl, f, apart_join_left.2 ⟨d2, d'⟩, rfl⟩, fun k x hk => by simp [join, hk], fun k x hk => ?_⟩
  rcases d1 k with e | e
  · simp [join, e, hk]
  · rw [hk] at e; cases e
theorem Sat.bookSmall {T : TypeId} {w : World} {S : Hp} {v : Value} {sh : Bool} {C : CB} {F : Assn} (h : Sat w (bookA T S v sh C * F)) : ∀ p ∈ C, small p.2 := by
  obtain ⟨k, a, h1, h2, ⟨Z, z1, z2, z3, z4⟩, f, d, rfl⟩ := h
  intro p hp
  obtain ⟨z, hz, rfl⟩ := List.mem_map.1 (z1.mem_iff.2 hp)
  exact (z3 z hz).1
/-- A slice of writes, each with a number and bytes that lie in the pool. -/
def flatW (Z : List (Int × Value × List UInt8)) : List Value := Z.flatMap fun z => [.int .i64 z.1, z.2.1]
def writesA (TW T : TypeId) (S : Hp) (v : Value) (L : CB) : Assn := ex fun Z : List (Int × Value × List UInt8) =>
  fact (Z.map (fun z => (z.1, z.2.2)) = L ∧ ∀ z ∈ Z, Val T S z.2.1 z.2.2) * sl TW 2 v L.length (flatW Z)
theorem Sat.writesOpen {w : World} {TW T : TypeId} {S : Hp} {v : Value} {L : CB} {F : Assn} (h : Sat w (writesA TW T S v L * F)) :
    ∃ Z : List (Int × Value × List UInt8), Z.map (fun z => (z.1, z.2.2)) = L ∧ (∀ z ∈ Z, Val T S z.2.1 z.2.2) ∧ Sat w (sl TW 2 v L.length (flatW Z) * F) := by
  obtain ⟨Z, h⟩ := Sat.ex_star_iff.1 h
  obtain ⟨⟨h1, h2⟩, h3⟩ := Sat.fact_iff.1 (h.to (star_assoc _ _ _))
  exact ⟨Z, h1, h2, h3⟩
theorem Sat.writesShut {w : World} {TW T : TypeId} {S : Hp} {v : Value} {L : CB} {F : Assn} (Z : List (Int × Value × List UInt8)) (h1 : Z.map (fun z => (z.1, z.2.2)) = L) (h2 : ∀ z ∈ Z, Val T S z.2.1 z.2.2)
    (h : Sat w (sl TW 2 v L.length (flatW Z) * F)) : Sat w (writesA TW T S v L * F) :=
  Sat.ex_star_iff.2 ⟨Z, (Sat.fact_iff.2 ⟨⟨h1, h2⟩, h⟩ : Sat w (fact _ * _)).to (star_assoc _ _ _).symm⟩
theorem Sat.writesMono {w : World} {TW T : TypeId} {S S' : Hp} {v : Value} {L : CB} {F : Assn} (h : Sat w (writesA TW T S v L * F)) (e : Ext S S') : Sat w (writesA TW T S' v L * F) := by
  obtain ⟨Z, h1, h2, h3⟩ := h.writesOpen
  exact Sat.writesShut Z h1 (fun z hz => (h2 z hz).mono e) h3
end Go.SL
namespace Go.Proofs.Ytcgpegdnicnciaa
set_option linter.unusedVariables false
set_option linter.unusedSimpArgs false
open Go.RowKit Go.SL
attribute [local go_sem] Oper.semAt_some
theorem callV {P : Program} {f : FuncId} {args : Array Value} {w : World} {R R' : Ending → World → Prop} {n : Nat} (h : Calls P f args w R) (hr : ∀ e w, R e w → R' e w) :
    Fence.wide.fn f ∧ CallsIn Fence.wide n P f args w R' := ⟨trivial, (callsIn_wide.2 h).mono hr⟩
theorem info_write : (Try.prog.info? 61).map (fun i => (i.zero, i.size, i.bytes)) = some (some (.agg #[.int .i64 0, .slice none 0 0]), 2, 32) := by kernel_rfl
def ListQ (S : Hp) (b : Nat) (rd : Value) (err : Int) (W D : CB) (F : Assn) (w : World) (e : Ending) (w' : World) : Prop :=
  ∃ S' v, Ext S S' ∧ e = .returned v ∧ Sat w' (writesA 61 5 S' v (asc W) * (batchA 54 5 S' b rd err W D * (pool S' * F))) ∧ Side w w'
/-- The list that grows. -/
def GrowL (bx : Nat) (ys : CB) : Assn := ex fun p : Hp × Value => pt bx (.cells #[p.2] 42 (0, 0)) * (writesA 61 5 p.1 p.2 ys * pool p.1)
theorem small_asc {W : CB} (h : ∀ p ∈ W, small p.2) : ∀ p ∈ asc W, small p.2 := by
  intro p hp
  obtain ⟨k, _, rfl⟩ := List.mem_map.1 hp
  match hk : kget W k with
  | none => simp [small]
  | some l => exact h _ (look_mem hk)
def ListB (bx b cx : Nat) (pre : CB) (x : Int × List UInt8) (a' : Act) : Assn := ex fun dv =>
  fact (a' = { tmps := #[.pointer (some ⟨b, 0, none⟩), undef, .slice none 0 0, .pointer (some ⟨bx, 0, none⟩), .int .i64 x.1, dv, .pointer (some ⟨b, 0, none⟩), .func (.func 28) #[] #[.pointer (some ⟨cx, 0, none⟩)], .int .i64 x.1, dv, undef, undef, undef, undef, undef, undef, undef], defers := [] }) * (bs 5 dv x.2 * GrowL bx pre)
set_option maxRecDepth 100000 in
set_option maxHeartbeats 2000000 in
theorem list_any (w : World) (S : Hp) (b : Nat) (rd : Value) (err : Int) (W D : CB) (F : Assn) (hW : W.length ≤ 1000000)
    (h : Sat w (batchA 54 5 S b rd err W D * (pool S * F))) :
    Calls Try.prog 18 #[.pointer (some ⟨b, 0, none⟩)] w (ListQ S b rd err W D F w) := by
  obtain ⟨i0, hi, hz, hs0, hb0⟩ := info_parts info_write
  have hsm : ∀ p ∈ W, small p.2 := by obtain ⟨x, hx⟩ := h.batchOpen; exact hx.front2.bookSmall
  have hasm := small_asc hsm
  refine (callsIn_wide (n := 9)).1 ?_
  refine callsIn_of_wp_marks Try.func18 rfl trivial ?_ rfl
  simp only [Try.ntmps18, List.size_toArray, List.length_cons, List.length_nil, Nat.reduceAdd, Nat.reduceSub, Array.replicate_succ, Array.replicate_zero, List.push_toArray, List.append_toArray, List.nil_append, List.cons_append]
  have hA := h.alloc (.cells #[.slice none 0 0] 42 (0, 0))
  have hs1 := (Side.refl w).alloc (.cells #[.slice none 0 0] 42 (0, 0))
  gi_wp2_with fail
  generalize w.alloc (.cells #[.slice none 0 0] 42 (0, 0)) = w1 at hA hs1 ⊢
  refine callV (allF_any w1 _) ?_
  rintro e w2 ⟨rfl, rfl⟩
  have hB := hA.alloc (.cells #[.pointer (some ⟨b, 0, none⟩)] 24 (0, 0))
  have hs2 := hs1.alloc (.cells #[.pointer (some ⟨b, 0, none⟩)] 24 (0, 0))
  gi_wp2_with fail
  generalize w1.alloc (.cells #[.pointer (some ⟨b, 0, none⟩)] 24 (0, 0)) = w2 at hB hs2 ⊢
  have hstart : Sat w2 (GrowL w.heap.size [] * (AllIt S w1.heap.size b rd err W D * F)) :=
    Sat.ex_star_iff.2 ⟨(fun _ => none, .slice none 0 0), by
      have h1 := (hB.poolEmp.slNil 61 2)
      have h2 := Sat.writesShut (T := 5) (S := fun _ => none) (L := []) [] rfl (by simp) h1
      exact h2.to (by unfold AllIt; ac_rfl)⟩
  refine wpIn_range (w0 := w) rfl (by decide) (gf := 28) (lb := #[.pointer (some ⟨w1.heap.size, 0, none⟩)]) rfl trivial (enters_of Try.func28 (by kernel_rfl) rfl)
    (all_iter _ S w1.heap.size b rd err W D hW) (GrowL w.heap.size) (fun _ _ => fact False) (ListB w.heap.size b w1.heap.size) F ?hps hs2 hstart ?assign ?body ?done ?stop
  case hps =>
    intro x vs Fr W h
    obtain ⟨dv, h⟩ := Sat.ex_star_iff.1 h
    obtain ⟨rfl, _⟩ := Sat.fact_iff.1 (h.to (star_assoc _ _ _))
    rfl
  case assign =>
    intro l r pre x vs Fr W K _ hsd H hK
    obtain ⟨dv, H1⟩ := Sat.ex_star_iff.1 (H.to (star_left_comm _ _ _))
    obtain ⟨rfl, H2⟩ := Sat.fact_iff.1 (H1.to (star_assoc _ _ _))
    clear H H1
    gi_wp2
    exact hK _ _ hsd (Sat.ex_star_iff.2 ⟨dv, (Sat.fact_iff.2 ⟨rfl, H2⟩ : Sat W (fact _ * _)).to (by ac_rfl)⟩)
  case body =>
    intro l r pre x a' Fr W0 hp hsd H
    obtain ⟨dv, H1⟩ := Sat.ex_star_iff.1 H
    obtain ⟨rfl, H2⟩ := Sat.fact_iff.1 (H1.to (star_assoc _ _ _))
    clear H H1
    have hx : x ∈ asc W := by obtain ⟨t, ht⟩ := hp; rw [← ht]; simp
    have hlen : pre.length + 1 ≤ 1000000 := by
      have := hp.length_le; simp [asc, sorted_length] at this; omega
    obtain ⟨⟨S2, v⟩, H3⟩ := Sat.ex_star_iff.1 (H2.to (by ac_rfl : _ = GrowL w.heap.size pre * (bs 5 dv x.2 * (pt l (.loop r) * Fr))))
    obtain ⟨S3, hE, hV, H4⟩ := Sat.poolBs (S := S2) (T := 5) (v := dv) (l := x.2) (F := pt w.heap.size (.cells #[v] 42 (0, 0)) * (writesA 61 5 S2 v pre * (pt l (.loop r) * Fr))) (H3.to (by ac_rfl)) (hasm x hx)
    obtain ⟨Z, hZ1, hZ2, H5⟩ := (Sat.writesMono (H4.to (by ac_rfl : _ = writesA 61 5 S2 v pre * (pool S3 * (pt w.heap.size (.cells #[v] 42 (0, 0)) * (pt l (.loop r) * Fr))))) hE).writesOpen
    obtain ⟨da, dc, rfl⟩ : ∃ da dc, dv = .slice da x.2.length dc := by
      rcases hV.2 with ⟨rfl, h0⟩ | ⟨g, cap, cur, rfl, _⟩
      · exact ⟨_, _, by rw [h0]; rfl⟩
      · exact ⟨_, _, rfl⟩
    have hcell := H5.front3.cell 0
    have hfr := H5.front3.frozen 0
    have hA2 := H5.alloc (.cells #[.int .i64 x.1, .slice da x.2.length dc] 61 (0, 0))
    have hR : Rds (W0.alloc (.cells #[.int .i64 x.1, .slice da x.2.length dc] 61 (0, 0))) 2 (.slice (some ⟨W0.heap.size, 0, none⟩) 1 1) 1 [.int .i64 x.1, .slice da x.2.length dc] :=
      ⟨rfl, .inr ⟨_, _, rfl, fun j u hu => by
        rw [Addr.add_lit, Nat.zero_add]
        exact (hA2.cell j).trans (by simpa using hu)⟩⟩
    obtain ⟨v', w', hrun, hsat', hside'⟩ := Sat.append (P := Try.prog) (ty := 42) Try.underlying42 hi hz hs0 hb0 rfl hA2.right hR (by simp [Value.oneCell']) (by unfold maxLen; omega) (by omega)
    obtain ⟨aa, ac, rfl⟩ := sl_shape hsat'
    have hcell' := hsat'.front3.cell 0
    have hfr' := hsat'.front3.frozen 0
    have hset := hsat'.front3.setCell 0 (.slice aa (pre.length + 1) ac)
    have Hrun := hid hrun; have HV := hid hV; have HZ1 := hid hZ1; have HZ2 := hid hZ2; have HE := hid hE
    clear hrun hA2 hR hi hz hs0 hb0 H2 H3 H4 H5 hlen hV hZ1 hZ2 hE hx hp hsm hasm hB hA hs1 hs2 hstart
    gi_wp2_with (gi_at_builtin; refine wpListIn_append_run Hrun.out _ _ rfl rfl rfl rfl rfl ?_)
    refine ⟨(hsd.alloc _).trans hside' |>.setCell _ _, Sat.ex_star_iff.2 ⟨(S3, .slice aa (pre.length + 1) ac), ?_⟩⟩
    have h6 := Sat.writesShut (TW := 61) (T := 5) (S := S3) (v := .slice aa (pre.length + 1) ac) (L := pre ++ [x]) (Z ++ [(x.1, .slice da x.2.length dc, x.2)]) (by rw [List.map_append, HZ1.out]; rfl)
      (fun z hz => by
        rcases List.mem_append.1 hz with hz | hz
        · exact (HZ2.out z hz)
        · rw [List.mem_singleton.1 hz]; exact HV.out)
      (hset.front2.to (by rw [List.length_append, flatW, flatW, List.flatMap_append]; rfl))
    exact h6.to (by simp only [List.setIfInBounds_toArray, List.set_cons_zero]; ac_rfl)
  case done =>
    intro D2 ys W0 hS hsd H
    subst hS
    obtain ⟨⟨S2, v⟩, H1⟩ := Sat.ex_star_iff.1 H
    have H2 : Sat W0 (pt w.heap.size (.cells #[v] 42 (0, 0)) * (pt D2 (.deferred (some [])) * (writesA 61 5 S2 v (asc W) * (pool S2 * (AllIt S w1.heap.size b rd err W D * F))))) := H1.to (by ac_rfl)
    have hcell := H2.cell 0
    have hfr := H2.frozen 0
    have hK := H2.front2.heap
    have HD := (H2.right.putObj (.deferred none)).right
    obtain ⟨va, vc, rfl⟩ : ∃ a c, v = .slice a (asc W).length c := by
      obtain ⟨Z, _, _, h⟩ := H2.right.right.writesOpen
      exact sl_shape h
    clear H H1 H2 hA hB hstart hsm hasm hi hz hs0 hb0
    gi_wp2
    refine ⟨by simp, .inl ⟨_, _, rfl, run_takeDeferred hK, ?_⟩⟩
    obtain ⟨h3, e1, e2⟩ := (HD.to (by unfold AllIt; ac_rfl : _ = pool S * (pool S2 * (writesA 61 5 S2 (.slice va (asc W).length vc) (asc W) * (pt w1.heap.size (.cells #[.pointer (some ⟨b, 0, none⟩)] 24 (0, 0)) * (batchA 54 5 S b rd err W D * F)))))).poolJoin
    have h4 := (h3.front2.writesMono e2).front4.weak (batchA_mono e1)
    exact ⟨_, results_tmp rfl _ _ _, _, _, e1, rfl, (h4.drop4).to (by ac_rfl), hsd.putObj _ _⟩
  case stop =>
    intro D2 c ys W0 _ _ H
    exact (Sat.fact_iff.1 H).1.elim
end Go.Proofs.Ytcgpegdnicnciaa

/- journal: live$1, the iterator. -/
import Derived.Test.YtlfooilcngjeiaaJj
import Derived.BigQuiet
namespace Go.Proofs.Ytlfooilcngjeiaa
set_option linter.unusedVariables false
set_option linter.unusedSimpArgs false
open Go.RowKit Go.SL
attribute [local go_sem] Oper.semAt_some
/-- What live's iterator reads. -/
def LiveIt (bj bn j m : Nat) : Assn :=
  pt bj (.cells #[ptV j] 36 (0, 0)) * pt bn (.cells #[.int .i64 (m : Int)] 3 (0, 0))
def ownL (T : Tb) (ys : List Nat) : List (Int × Int) := ys.filterMap fun p : Nat => (told T.os (p : Int)).map fun id => (id, (p : Int))
theorem ownL_snoc (T : Tb) (ys : List Nat) (p : Nat) : ownL T (ys ++ [p]) = ownL T ys ++ (match told T.os (p : Int) with | some id => [(id, (p : Int))] | none => []) := by
  unfold ownL
  rw [List.filterMap_append]
  congr 1
  cases h : told T.os (p : Int) with
  | none => simp only [List.filterMap_cons, h, Option.map_none, List.filterMap_nil]
  | some id => simp only [List.filterMap_cons, h, Option.map_some, List.filterMap_nil]
theorem ownL_prefix (T : Tb) {ys zs : List Nat} (h : ys <+: zs) : ownL T ys <+: ownL T zs := by
  obtain ⟨x, rfl⟩ := h
  unfold ownL
  rw [List.filterMap_append]
  exact List.prefix_append _ _
theorem ownL_places (T : Tb) (P first m : Nat) : ownL T (places P first m) = ownersN T P first m := rfl
def Jr.tail (J : Jr) : Nat := ((J.hd - J.us) % (J.P : Int)).toNat
set_option maxRecDepth 100000 in
set_option maxHeartbeats 2000000 in
theorem live_iter (n : Nat) (bj bn j d r t : Nat) (J : Jr) (m : Nat) (hJ : J.Ok) (hm : m ≤ J.P) :
    IteratesC (withR (jrX j d r t J)) Fence.wide n Try.prog 97 #[.pointer (some ⟨bj, 0, none⟩), .pointer (some ⟨bn, 0, none⟩)] (LiveIt bj bn j m) pairT
      (fun ys => ys = ownersN J.T J.P (Jr.tail J) m) (fun ys => ys <+: ownersN J.T J.P (Jr.tail J) m) := by
  rintro lp _ Ax G w0 w ⟨A, rfl⟩ hY hs h0
  replace h0 : Sat w ((jrX j d r t J * A []) * (LiveIt bj bn j m * G)) := h0
  have hx : Sat w (pt j (.cells (J.cells d r t) 101 (0, 0)) * (ringA r (ringL J.P) * (tableA t J.T * (pt bj (.cells #[ptV j] 36 (0, 0)) * (pt bn (.cells #[.int .i64 (m : Int)] 3 (0, 0)) * (A [] * G)))))) := h0.to (by unfold LiveIt jrX; ac_rfl)
  have cj : w.cell? ⟨bj, 0, none⟩ = some (ptV j) := hx.front4.cell 0
  have cn : w.cell? ⟨bn, 0, none⟩ = some (.int .i64 (m : Int)) := hx.front5.cell 0
  have c1 : w.cell? ⟨j, 1, none⟩ = some (ptV r) := hx.cell 1
  have c7 : w.cell? ⟨j, 7, none⟩ = some (.int .i64 J.hd) := hx.cell 7
  have c8 : w.cell? ⟨j, 8, none⟩ = some (.int .i64 J.us) := hx.cell 8
  have hbox := hx.alloc (.cells #[.func (.yield lp) #[] #[]] 103 (0, 0))
  refine (callsIn_wide (n := n)).2 ((callsIn_wide (n := 9)).1 ?_)
  refine callsIn_of_wp_marks Try.func97 rfl trivial ?_ rfl
  simp only [Try.ntmps97, List.size_toArray, List.length_cons, List.length_nil, Nat.reduceAdd, Nat.reduceSub, Array.replicate_succ, Array.replicate_zero, List.push_toArray, List.append_toArray, List.nil_append, List.cons_append]
  gi_wp2_with fail
  have ds := hs.alloc (.cells #[.func (.yield lp) #[] #[]] 103 (0, 0))
  generalize hyb : w.heap.size = yb at hbox ⊢
  have cj' : (w.alloc (.cells #[.func (.yield lp) #[] #[]] 103 (0, 0))).cell? ⟨bj, 0, none⟩ = some (ptV j) := cell_alloc _ _ _ _ cj
  have cn' : (w.alloc (.cells #[.func (.yield lp) #[] #[]] 103 (0, 0))).cell? ⟨bn, 0, none⟩ = some (.int .i64 (m : Int)) := cell_alloc _ _ _ _ cn
  generalize w.alloc (.cells #[.func (.yield lp) #[] #[]] 103 (0, 0)) = w1 at hbox ds cj' cn' ⊢
  clear hyb c1 c7 c8 cj cn hx h0 hs
  have c1 : w1.cell? ⟨j, 1, none⟩ = some (ptV r) := hbox.front2.cell 1
  have c7 : w1.cell? ⟨j, 7, none⟩ = some (.int .i64 J.hd) := hbox.front2.cell 7
  have c8 : w1.cell? ⟨j, 8, none⟩ = some (.int .i64 J.us) := hbox.front2.cell 8
  have hneg : IntKind.i64.wrap (-J.us) = -J.us := by
    have := hJ.us0; have := hJ.us1; have := hJ.p1
    rw [IntKind.wrap_i64]; omega
  have hgo := go_any w1.drew r (ringL J.P) J.hd (-J.us) _ hbox.front3.drew (by rw [ringL_length]; exact hJ.p0) (by rw [ringL_length]; have := hJ.p1; omega)
  refine wpIn_wide.2 ?_
  go_region_held3 (fun w' => w'.cell? ⟨bj, 0, none⟩ = some (ptV j) ∧ w'.cell? ⟨j, 1, none⟩ = some (ptV r) ∧ w'.cell? ⟨j, 7, none⟩ = some (.int .i64 J.hd) ∧ w'.cell? ⟨j, 8, none⟩ = some (.int .i64 J.us)) (exact ⟨cj', c1, c7, c8⟩) (first
    | (go_at_call 50; (with_reducible refine hgo.mono ?_); rintro e w2 ⟨rfl, rfl⟩))
  obtain ⟨kt, hkt, hkl⟩ := mod_nat (J.hd + -J.us) hJ.p0
  have htail : Jr.tail J = kt := by
    unfold Jr.tail
    rw [show J.hd - J.us = J.hd + -J.us by omega, hkt, Int.toNat_natCast]
  rw [ringL_length, hkt]
  have hb2 : Sat w1.drew.drew (ringA r (ringL J.P) * (pt yb (.cells #[.func (.yield lp) #[] #[]] 103 (0, 0)) * (pt j (.cells (J.cells d r t) 101 (0, 0)) * (tableA t J.T * (pt bj (.cells #[ptV j] 36 (0, 0)) * (pt bn (.cells #[.int .i64 (m : Int)] 3 (0, 0)) * (A [] * G))))))) := (hbox.to (by ac_rfl) : Sat w1 _)
  have hfrom := from_any w1.drew.drew r (ringL J.P) (kt : Int) m _ hb2 (by rw [ringL_length]; exact hJ.p0) (by rw [ringL_length]; have := hJ.p1; omega) (by rw [ringL_length]; exact hm)
  have hmodk : ((kt : Int) % ((ringL J.P).length : Int)).toNat = kt := by rw [ringL_length, Int.emod_eq_of_lt (by omega) (by omega), Int.toNat_natCast]
  rw [hmodk] at hfrom
  clear hgo hmodk hb2 hkt hneg
  gi_wp2_with fail
  refine wpIn_wide.2 ?_
  go_region_held3 (fun w' => w'.cell? ⟨bj, 0, none⟩ = some (ptV j) ∧ w'.cell? ⟨j, 1, none⟩ = some (ptV r) ∧ w'.cell? ⟨bn, 0, none⟩ = some (.int .i64 (m : Int))) (first | (with_reducible exact ⟨a0, a1, a2⟩) | exact ⟨cj', c1, cn'⟩) (first
    | (go_at_call 98; (with_reducible refine hfrom.mono ?_); rintro e w2 ⟨b5, b3, b7, rfl, h2, d2⟩; have a0 : w2.cell? ⟨bj, 0, none⟩ = some (ptV j) := h2.front6.cell 0; have a1 : w2.cell? ⟨j, 1, none⟩ = some (ptV r) := h2.front4.cell 1; have a2 : w2.cell? ⟨bn, 0, none⟩ = some (.int .i64 (m : Int)) := h2.front7.cell 0))
  have hE : Sat w2 ((ringA r (ringL J.P) * (A (ownL J.T []) * (pt yb (.cells #[.func (.yield lp) #[] #[]] 103 (0, 0)) * (pt j (.cells (J.cells d r t) 101 (0, 0)) * (tableA t J.T * (pt bj (.cells #[ptV j] 36 (0, 0)) * pt bn (.cells #[.int .i64 (m : Int)] 3 (0, 0)))))))) * (FromIt b5 b3 b7 r m kt * G)) := h2.to (by unfold ownL; simp only [List.filterMap_nil]; ac_rfl)
  have dE := (ds.drew.drew).trans d2
  clear a0 a1 a2 hfrom h2 d2 cj' cn' c1 c7 c8 hbox ds
  gi_wp2_with fail
  refine wpIn_range_s (w0 := w0) rfl (by decide) (gf := 112) (lb := #[.pointer (some ⟨b5, 0, none⟩), .pointer (some ⟨b3, 0, none⟩), .pointer (some ⟨b7, 0, none⟩)]) rfl trivial (enters Try.func112 (by kernel_rfl) rfl)
    (from_iter _ b5 b3 b7 r (ringL J.P) m kt (by rw [ringL_length]; exact hJ.p0) (by rw [ringL_length]; have := hJ.p1; omega) (by rw [ringL_length]; exact hm) (by rw [ringL_length]; exact hkl))
    (fun x tt => ((tt.setIfInBounds 29 (.int .i64 (x : Int))).setIfInBounds 30 (.int .i64 ((ringL J.P).getD x 0))).setIfInBounds 5 (.int .i64 (x : Int)))
    (fun ys => ringA r (ringL J.P) * (A (ownL J.T ys) * (pt yb (.cells #[.func (.yield lp) #[] #[]] 103 (0, 0)) * (pt j (.cells (J.cells d r t) 101 (0, 0)) * (tableA t J.T * (pt bj (.cells #[ptV j] 36 (0, 0)) * pt bn (.cells #[.int .i64 (m : Int)] 3 (0, 0)))))))) (fun X => withR_star (withR_mk _ _) X)
    (fun c ys => fact (c = .ret) * (Ax (ownL J.T ys) * (pt yb (.cells #[.func (.yield lp) #[] #[]] 103 (0, 0)) * (pt bj (.cells #[ptV j] 36 (0, 0)) * pt bn (.cells #[.int .i64 (m : Int)] 3 (0, 0))))))
    (fun pre x => ringA r (ringL J.P) * (A (ownL J.T pre) * (pt yb (.cells #[.func (.yield lp) #[] #[]] 103 (0, 0)) * (pt j (.cells (J.cells d r t) 101 (0, 0)) * (tableA t J.T * (pt bj (.cells #[ptV j] 36 (0, 0)) * pt bn (.cells #[.int .i64 (m : Int)] 3 (0, 0)))))))) G ?hps dE hE ?assign ?body ?done ?stop
  case hps =>
    intro x vs Fr W h
    unfold fromT at h
    obtain ⟨rfl, _⟩ := Sat.fact_iff.1 h
    rfl
  case assign =>
    intro l rr pre x vs Fr W K _ hsd H hK
    have H1 := H.front2
    unfold fromT at H1
    obtain ⟨rfl, H2⟩ := Sat.fact_iff.1 H1
    clear H H1
    gi_wp2
    exact hK _ hsd H2
  case done =>
    intro D2 ys W hS hsd H
    subst hS
    have H1 : Sat W (pt D2 (.deferred (some [])) * ((jrX j d r t J * A (ownL J.T (places (ringL J.P).length kt m))) * (LiveIt bj bn j m * G))) := by
      unfold FromIt at H
      have := (H.to (by unfold LiveIt jrX; ac_rfl : _ = pt yb (.cells #[.func (.yield lp) #[] #[]] 103 (0, 0)) * (pt b5 (.cells #[.int .i64 (m : Int)] 3 (0, 0)) * (pt b3 (.cells #[.pointer (some ⟨r, 0, none⟩)] 96 (0, 0)) * (pt b7 (.cells #[.int .i64 (kt : Int)] 3 (0, 0)) * (pt D2 (.deferred (some [])) * ((jrX j d r t J * A (ownL J.T (places (ringL J.P).length kt m))) * (LiveIt bj bn j m * G))))))))
      exact this.right.right.right.right
    have hK := H1.heap
    have H2 := (H1.putObj (.deferred none)).right
    have e : ownL J.T (places (ringL J.P).length kt m) = ownersN J.T J.P (Jr.tail J) m := by rw [ringL_length, htail]; rfl
    rw [e] at H2
    have hsd2 := hsd.putObj D2 (.deferred none)
    clear H H1 hE dE
    gi_wp2
    refine ⟨by simp, .inl ⟨_, _, rfl, run_takeDeferred hK, ?_⟩⟩
    exact ⟨_, results_none rfl _ _ _, ⟨_, rfl⟩, hsd2, .inl ⟨_, rfl, H2⟩⟩
  case stop =>
    intro D2 c ys W hSp hsd H0
    obtain ⟨rfl, H⟩ := Sat.fact_iff.1 (H0.to (star_assoc _ _ _))
    clear H0
    have H1 : Sat W (pt D2 (.deferred (some [])) * (Ax (ownL J.T ys) * (LiveIt bj bn j m * G))) := by
      unfold FromIt at H
      have := (H.to (by unfold LiveIt; ac_rfl : _ = pt yb (.cells #[.func (.yield lp) #[] #[]] 103 (0, 0)) * (pt b5 (.cells #[.int .i64 (m : Int)] 3 (0, 0)) * (pt b3 (.cells #[.pointer (some ⟨r, 0, none⟩)] 96 (0, 0)) * (pt b7 (.cells #[.int .i64 (kt : Int)] 3 (0, 0)) * (pt D2 (.deferred (some [])) * (Ax (ownL J.T ys) * (LiveIt bj bn j m * G))))))))
      exact this.right.right.right.right
    have hK := H1.heap
    have H2 := (H1.putObj (.deferred none)).right
    have hp : ownL J.T ys <+: ownersN J.T J.P (Jr.tail J) m := by
      have := ownL_prefix J.T hSp
      rw [ringL_length, ownL_places] at this
      rw [htail]; exact this
    have hsd2 := hsd.putObj D2 (.deferred none)
    clear H H1 hE dE hSp
    gi_wp2
    refine ⟨by simp, .inl ⟨_, _, rfl, run_takeDeferred hK, ?_⟩⟩
    exact ⟨_, results_none rfl _ _ _, ⟨_, rfl⟩, hsd2, .inr ⟨_, hp, H2⟩⟩
  case body =>
    intro l rr pre p Fr W hSp hsd H
    have hpre := ownL_prefix J.T hSp
    rw [ringL_length, ownL_places, ← htail] at hpre
    have hsn := ownL_snoc J.T pre p
    have H1 : Sat W (pt j (.cells (J.cells d r t) 101 (0, 0)) * (pt bj (.cells #[ptV j] 36 (0, 0)) * (tableA t J.T * (pt yb (.cells #[.func (.yield lp) #[] #[]] 103 (0, 0)) * (A (ownL J.T pre) * (pt bn (.cells #[.int .i64 (m : Int)] 3 (0, 0)) * (ringA r (ringL J.P) * (pt l (.loop rr) * Fr)))))))) := H.to (by ac_rfl)
    have k2 : W.cell? ⟨j, 2, none⟩ = some (ptV t) := H1.cell 2
    have kj : W.cell? ⟨bj, 0, none⟩ = some (ptV j) := H1.front2.cell 0
    have ky : W.cell? ⟨yb, 0, none⟩ = some (.func (.yield lp) #[] #[]) := H1.front4.cell 0
    have how := owner_any W t J.T (p : Int) _ H1.front3
    simp only [List.setIfInBounds_toArray, List.set_cons_succ, List.set_cons_zero]
    match hm' : told J.T.os (p : Int) with
    | none =>
      rw [hm'] at how hsn
      simp only [List.append_nil] at hsn
      have Hsn := SL.hid hsn
      clear hsn hm' hpre H1 hE dE
      gi_wp2_with fail
      refine callRV how ?_
      rintro e w3 ⟨rfl, rfl⟩
      unfold toldV
      clear how
      gi_wp2
      refine ⟨fun f hf => (by cases hf), ?_⟩
      gi_wp2
      refine ⟨hsd, ?_⟩
      dsimp only
      rw [Hsn.out]
      exact H
    | some id =>
      rw [hm'] at how hsn
      simp only at hsn
      rw [hsn] at hpre
      have hT2 : Sat W ((jrX j d r t J * A (ownL J.T pre)) * (pairT (id, (p : Int)) #[.int .i64 id, .int .i64 (p : Int)] * (pt yb (.cells #[.func (.yield lp) #[] #[]] 103 (0, 0)) * (pt bj (.cells #[ptV j] 36 (0, 0)) * (pt bn (.cells #[.int .i64 (m : Int)] 3 (0, 0)) * (pt l (.loop rr) * Fr)))))) :=
        (Sat.fact_iff.2 ⟨rfl, H⟩ : Sat W (fact _ * _)).to (by unfold pairT jrX; ac_rfl)
      obtain ⟨fn, tmps, assign, bodyc, hy, hR⟩ := hY _ (id, (p : Int)) #[.int .i64 id, .int .i64 (p : Int)] _ W hpre hsd hT2
      have Hsn := SL.hid hsn
      clear hsn hm' hpre H1 hE dE hT2 H
      gi_wp2_with fail
      refine callRV how ?_
      rintro e w3 ⟨rfl, rfl⟩
      unfold toldV
      clear how
      gi_wp2
      refine (roundIn_round hR).mono ?_
      rintro e W' (⟨rfl, hs5, hsat5⟩ | ⟨rfl, hs5, hsat5⟩)
      · gi_wp2
        refine ⟨hs5, ?_⟩
        dsimp only
        rw [Hsn.out]
        exact hsat5.to (by unfold jrX; ac_rfl)
      · gi_wp2
        refine ⟨hs5, ?_⟩
        dsimp only
        rw [Hsn.out]
        exact (Sat.fact_iff.2 ⟨rfl, hsat5⟩ : Sat W' (fact (Code.ret = Code.ret) * _)).to (by ac_rfl)
end Go.Proofs.Ytlfooilcngjeiaa

/- journal: live (what it hands over). journal: live$1, the iterator. journal, plain: what moves reads. -/
import Derived.Test.YtlfooilcngjeiaaGreatJi
import Derived.BigQuiet
namespace Go.Proofs.YtlfooilcngjeiaaGreat
set_option linter.unusedVariables false
set_option linter.unusedSimpArgs false
open Go.RowKit Go.SL
/-- The wide fence knows no depth. -/
theorem roundIn_any {P : Program} {l fn : Nat} {tmps : Array Value} {assign body : Code} {w : World} {R : Ending → World → Prop} {n m : Nat} (h : RoundIn Fence.wide n P l fn tmps assign body w R) : RoundIn Fence.wide m P l fn tmps assign body w R :=
  ⟨h.1, fun c cs _ => h.2 c cs (room_wide _)⟩
theorem roundIn_round {P : Program} {l k fn : Nat} {tmps : Array Value} {assign body : Code} {w : World} {R : Ending → World → Prop} {n m : Nat} (h : RoundIn Fence.wide n P l fn tmps assign body w R) : RoundIn (Fence.wide.inRound k) m P l fn tmps assign body w R :=
  roundIn_any (n := n) h
/-- wpIn_range, where a round's slots are made of the caller's. -/
theorem wpIn_range_s {F : Fence} {n : Nat} {P : Program} {α : Type} {C : (List α → Assn) → Prop} {g : Operand} {ps : Array Tmp} {assign body : Code} {Q : Exit → Act → World → Prop} {a : Act} {w w0 : World}
    (hro : F.round = none) (h1 : 1 ≤ n) {gf : Nat} {lb : Array Value} (hg : a.eval g = .func (.func gf) #[] lb) (hFg : F.fn gf) (eg : ∀ args w, (callFunc gf args).run P w = .ok (.enter gf args) w)
    {It : Assn} {T : α → Array Value → Assn} {S Sp : List α → Prop} (hit : IteratesC C F (n - 1) P gf lb It T S Sp)
    (f : α → Array Value → Array Value) (A : List α → Assn) (hC : ∀ X, C fun ys => A ys * X) (Ax : Code → List α → Assn) (B : List α → α → Assn) (G : Assn)
    (hps : ∀ x vs Fr W, Sat W (T x vs * Fr) → vs.size = ps.size) (hs : Side w0 w) (h0 : Sat w (A [] * (It * G)))
    (hassign : ∀ (l : Nat) (r : Loop) (pre : List α) (x : α) (vs : Array Value) (Fr : Assn) (W : World) (K : Act → World → Prop), Sp (pre ++ [x]) → Side w0 W → Sat W (A pre * (T x vs * (pt l (.loop r) * Fr))) →
      (∀ W', Side w0 W' → Sat W' (B pre x * (pt l (.loop r) * Fr)) → K { tmps := f x a.tmps, defers := [] } W') →
      assign.wpIn (F.inRound l) (n - 1 - 1) P (Exit.then K (fun _ _ _ => False)) { tmps := (ps.zip vs).foldl (fun t (p, v) => t.setIfInBounds p v) a.tmps, defers := [] } W)
    (hbody : ∀ (l : Nat) (r : Loop) (pre : List α) (x : α) (Fr : Assn) (W : World), Sp (pre ++ [x]) → Side w0 W → Sat W (B pre x * (pt l (.loop r) * Fr)) →
      body.wpIn (F.inRound l) (n - 1 - 1) P (roundS w0 A Ax (pre ++ [x]) (pt l (.loop r) * Fr)) { tmps := f x a.tmps, defers := [] } W)
    (hdone : ∀ (D : Nat) (ys : List α) (W : World), S ys → Side w0 W → Sat W (A ys * (It * (pt D (.deferred (some [])) * G))) →
      Q .normal { a with defers := { target := .collected D, args := #[] } :: a.defers } W)
    (hstop : ∀ (D : Nat) (c : Code) (ys : List α) (W : World), Sp ys → Side w0 W → Sat W (Ax c ys * (It * (pt D (.deferred (some [])) * G))) →
      c.wpIn F n P Q { a with defers := { target := .collected D, args := #[] } :: a.defers } W) :
    (Code.rangeFunc g ps assign body).wpIn F n P Q a w := by
  refine wpIn_rangeC hro h1 hg hFg eg hit A hC Ax (fun pre x a' => fact (a' = { tmps := f x a.tmps, defers := [] }) * B pre x) G hps hs h0 ?_ ?_ hdone hstop
  · intro l r pre x vs Fr W K hsp hsd H hK
    exact hassign l r pre x vs Fr W K hsp hsd H fun W' h1 h2 => hK _ W' h1 ((Sat.fact_iff.2 ⟨rfl, h2⟩ : Sat W' (fact _ * _)).to (star_assoc _ _ _).symm)
  · intro l r pre x a' Fr W hsp hsd H
    obtain ⟨rfl, H2⟩ := Sat.fact_iff.1 (H.to (star_assoc _ _ _))
    exact hbody l r pre x Fr W hsp hsd H2
def LiveFQ (p : Value) (n : Int) (w : World) (e : Ending) (w' : World) : Prop :=
  e = .returned (.func (.func 76) #[] #[.pointer (some ⟨w.heap.size, 0, none⟩), .pointer (some ⟨w.heap.size + 1, 0, none⟩)]) ∧
    w' = (w.alloc (.cells #[p] 28 (0, 0))).alloc (.cells #[.int .i64 n] 3 (0, 0))
theorem live_any (w : World) (j : Nat) (n : Int) : Calls Tryz.prog 53 #[ptV j, .int .i64 n] w (LiveFQ (ptV j) n w) := by
  go_enter Tryz.func53, Tryz.ntmps53
  go_wp2
  go_ret
  exact ⟨rfl, rfl⟩
/-- The places from the tail on that are live, each with its block. -/
def ownersN (T : Tb) (P first k : Nat) : List (Int × Int) := ((List.range k).map fun i => (first + i) % P).filterMap fun p : Nat => (told T.os (p : Int)).map fun id => (id, (p : Int))
theorem ownersN_succ (T : Tb) (P first k : Nat) : ownersN T P first (k + 1) = ownersN T P first k ++ (match told T.os (((first + k) % P : Nat) : Int) with | some id => [(id, (((first + k) % P : Nat) : Int))] | none => []) := by
  unfold ownersN
  rw [List.range_succ, List.map_append, List.filterMap_append]
  congr 1
  cases h : told T.os (((first + k) % P : Nat) : Int) with
  | none => simp only [List.map_cons, List.map_nil, List.filterMap_cons, h, Option.map_none, List.filterMap_nil]
  | some id => simp only [List.map_cons, List.map_nil, List.filterMap_cons, h, Option.map_some, List.filterMap_nil]
theorem ownersN_prefix (T : Tb) (P first : Nat) {k n : Nat} (h : k ≤ n) : ownersN T P first k <+: ownersN T P first n := by
  obtain ⟨m, rfl⟩ := Nat.le.dest h
  clear h
  induction m with
  | zero => exact List.prefix_refl _
  | succ m ih => rw [show k + (m + 1) = (k + m) + 1 by omega, ownersN_succ]; exact ih.trans (List.prefix_append _ _)
end Go.Proofs.YtlfooilcngjeiaaGreat
namespace Go.Proofs.YtlfooilcngjeiaaGreat
set_option linter.unusedVariables false
set_option linter.unusedSimpArgs false
open Go.RowKit Go.SL
attribute [local go_sem] Oper.semAt_some
/-- What live's iterator reads. -/
def LiveIt (bj bn j m : Nat) : Assn :=
  pt bj (.cells #[ptV j] 28 (0, 0)) * pt bn (.cells #[.int .i64 (m : Int)] 3 (0, 0))
def ownL (T : Tb) (ys : List Nat) : List (Int × Int) := ys.filterMap fun p : Nat => (told T.os (p : Int)).map fun id => (id, (p : Int))
theorem ownL_snoc (T : Tb) (ys : List Nat) (p : Nat) : ownL T (ys ++ [p]) = ownL T ys ++ (match told T.os (p : Int) with | some id => [(id, (p : Int))] | none => []) := by
  unfold ownL
  rw [List.filterMap_append]
  congr 1
  cases h : told T.os (p : Int) with
  | none => simp only [List.filterMap_cons, h, Option.map_none, List.filterMap_nil]
  | some id => simp only [List.filterMap_cons, h, Option.map_some, List.filterMap_nil]
theorem ownL_prefix (T : Tb) {ys zs : List Nat} (h : ys <+: zs) : ownL T ys <+: ownL T zs := by
  obtain ⟨x, rfl⟩ := h
  unfold ownL
  rw [List.filterMap_append]
  exact List.prefix_append _ _
theorem ownL_places (T : Tb) (P first m : Nat) : ownL T (places P first m) = ownersN T P first m := rfl
def Jr.tail (J : Jr) : Nat := ((J.hd - J.us) % (J.P : Int)).toNat
set_option maxRecDepth 100000 in
set_option maxHeartbeats 2000000 in
theorem live_iter (n : Nat) (bj bn j d r t : Nat) (J : Jr) (m : Nat) (hJ : J.Ok) (hm : m ≤ J.P) :
    IteratesC (withR (jrX j d r t J)) Fence.wide n Tryz.prog 76 #[.pointer (some ⟨bj, 0, none⟩), .pointer (some ⟨bn, 0, none⟩)] (LiveIt bj bn j m) pairT
      (fun ys => ys = ownersN J.T J.P (Jr.tail J) m) (fun ys => ys <+: ownersN J.T J.P (Jr.tail J) m) := by
  rintro lp _ Ax G w0 w ⟨A, rfl⟩ hY hs h0
  replace h0 : Sat w ((jrX j d r t J * A []) * (LiveIt bj bn j m * G)) := h0
  have hx : Sat w (pt j (.cells (J.cells d r t) 72 (0, 0)) * (ringA r (ringL J.P) * (tableA t J.T * (pt bj (.cells #[ptV j] 28 (0, 0)) * (pt bn (.cells #[.int .i64 (m : Int)] 3 (0, 0)) * (A [] * G)))))) := h0.to (by unfold LiveIt jrX; ac_rfl)
  have cj : w.cell? ⟨bj, 0, none⟩ = some (ptV j) := hx.front4.cell 0
  have cn : w.cell? ⟨bn, 0, none⟩ = some (.int .i64 (m : Int)) := hx.front5.cell 0
  have c1 : w.cell? ⟨j, 1, none⟩ = some (ptV r) := hx.cell 1
  have c7 : w.cell? ⟨j, 7, none⟩ = some (.int .i64 J.hd) := hx.cell 7
  have c8 : w.cell? ⟨j, 8, none⟩ = some (.int .i64 J.us) := hx.cell 8
  have hbox := hx.alloc (.cells #[.func (.yield lp) #[] #[]] 74 (0, 0))
  refine (callsIn_wide (n := n)).2 ((callsIn_wide (n := 9)).1 ?_)
  refine callsIn_of_wp_marks Tryz.func76 rfl trivial ?_ rfl
  simp only [Tryz.ntmps76, List.size_toArray, List.length_cons, List.length_nil, Nat.reduceAdd, Nat.reduceSub, Array.replicate_succ, Array.replicate_zero, List.push_toArray, List.append_toArray, List.nil_append, List.cons_append]
  gi_wp2_with fail
  have ds := hs.alloc (.cells #[.func (.yield lp) #[] #[]] 74 (0, 0))
  generalize hyb : w.heap.size = yb at hbox ⊢
  have cj' : (w.alloc (.cells #[.func (.yield lp) #[] #[]] 74 (0, 0))).cell? ⟨bj, 0, none⟩ = some (ptV j) := cell_alloc _ _ _ _ cj
  have cn' : (w.alloc (.cells #[.func (.yield lp) #[] #[]] 74 (0, 0))).cell? ⟨bn, 0, none⟩ = some (.int .i64 (m : Int)) := cell_alloc _ _ _ _ cn
  generalize w.alloc (.cells #[.func (.yield lp) #[] #[]] 74 (0, 0)) = w1 at hbox ds cj' cn' ⊢
  clear hyb c1 c7 c8 cj cn hx h0 hs
  have c1 : w1.cell? ⟨j, 1, none⟩ = some (ptV r) := hbox.front2.cell 1
  have c7 : w1.cell? ⟨j, 7, none⟩ = some (.int .i64 J.hd) := hbox.front2.cell 7
  have c8 : w1.cell? ⟨j, 8, none⟩ = some (.int .i64 J.us) := hbox.front2.cell 8
  have hneg : IntKind.i64.wrap (-J.us) = -J.us := by
    have := hJ.us0; have := hJ.us1; have := hJ.p1
    rw [IntKind.wrap_i64]; omega
  have hgo := go_any w1.drew r (ringL J.P) J.hd (-J.us) _ hbox.front3.drew (by rw [ringL_length]; exact hJ.p0) (by rw [ringL_length]; have := hJ.p1; omega)
  refine wpIn_wide.2 ?_
  go_region_held3 (fun w' => w'.cell? ⟨bj, 0, none⟩ = some (ptV j) ∧ w'.cell? ⟨j, 1, none⟩ = some (ptV r) ∧ w'.cell? ⟨j, 7, none⟩ = some (.int .i64 J.hd) ∧ w'.cell? ⟨j, 8, none⟩ = some (.int .i64 J.us)) (exact ⟨cj', c1, c7, c8⟩) (first
    | (go_at_call 31; (with_reducible refine hgo.mono ?_); rintro e w2 ⟨rfl, rfl⟩))
  obtain ⟨kt, hkt, hkl⟩ := mod_nat (J.hd + -J.us) hJ.p0
  have htail : Jr.tail J = kt := by
    unfold Jr.tail
    rw [show J.hd - J.us = J.hd + -J.us by omega, hkt, Int.toNat_natCast]
  rw [ringL_length, hkt]
  have hb2 : Sat w1.drew.drew (ringA r (ringL J.P) * (pt yb (.cells #[.func (.yield lp) #[] #[]] 74 (0, 0)) * (pt j (.cells (J.cells d r t) 72 (0, 0)) * (tableA t J.T * (pt bj (.cells #[ptV j] 28 (0, 0)) * (pt bn (.cells #[.int .i64 (m : Int)] 3 (0, 0)) * (A [] * G))))))) := (hbox.to (by ac_rfl) : Sat w1 _)
  have hfrom := from_any w1.drew.drew r (ringL J.P) (kt : Int) m _ hb2 (by rw [ringL_length]; exact hJ.p0) (by rw [ringL_length]; have := hJ.p1; omega) (by rw [ringL_length]; exact hm)
  have hmodk : ((kt : Int) % ((ringL J.P).length : Int)).toNat = kt := by rw [ringL_length, Int.emod_eq_of_lt (by omega) (by omega), Int.toNat_natCast]
  rw [hmodk] at hfrom
  clear hgo hmodk hb2 hkt hneg
  gi_wp2_with fail
  refine wpIn_wide.2 ?_
  go_region_held3 (fun w' => w'.cell? ⟨bj, 0, none⟩ = some (ptV j) ∧ w'.cell? ⟨j, 1, none⟩ = some (ptV r) ∧ w'.cell? ⟨bn, 0, none⟩ = some (.int .i64 (m : Int))) (first | (with_reducible exact ⟨a0, a1, a2⟩) | exact ⟨cj', c1, cn'⟩) (first
    | (go_at_call 77; (with_reducible refine hfrom.mono ?_); rintro e w2 ⟨b5, b3, b7, rfl, h2, d2⟩; have a0 : w2.cell? ⟨bj, 0, none⟩ = some (ptV j) := h2.front6.cell 0; have a1 : w2.cell? ⟨j, 1, none⟩ = some (ptV r) := h2.front4.cell 1; have a2 : w2.cell? ⟨bn, 0, none⟩ = some (.int .i64 (m : Int)) := h2.front7.cell 0))
  have hE : Sat w2 ((ringA r (ringL J.P) * (A (ownL J.T []) * (pt yb (.cells #[.func (.yield lp) #[] #[]] 74 (0, 0)) * (pt j (.cells (J.cells d r t) 72 (0, 0)) * (tableA t J.T * (pt bj (.cells #[ptV j] 28 (0, 0)) * pt bn (.cells #[.int .i64 (m : Int)] 3 (0, 0)))))))) * (FromIt b5 b3 b7 r m kt * G)) := h2.to (by unfold ownL; simp only [List.filterMap_nil]; ac_rfl)
  have dE := (ds.drew.drew).trans d2
  clear a0 a1 a2 hfrom h2 d2 cj' cn' c1 c7 c8 hbox ds
  gi_wp2_with fail
  refine wpIn_range_s (w0 := w0) rfl (by decide) (gf := 91) (lb := #[.pointer (some ⟨b5, 0, none⟩), .pointer (some ⟨b3, 0, none⟩), .pointer (some ⟨b7, 0, none⟩)]) rfl trivial (enters Tryz.func91 (by kernel_rfl) rfl)
    (from_iter _ b5 b3 b7 r (ringL J.P) m kt (by rw [ringL_length]; exact hJ.p0) (by rw [ringL_length]; have := hJ.p1; omega) (by rw [ringL_length]; exact hm) (by rw [ringL_length]; exact hkl))
    (fun x tt => ((tt.setIfInBounds 29 (.int .i64 (x : Int))).setIfInBounds 30 (.int .i64 ((ringL J.P).getD x 0))).setIfInBounds 5 (.int .i64 (x : Int)))
    (fun ys => ringA r (ringL J.P) * (A (ownL J.T ys) * (pt yb (.cells #[.func (.yield lp) #[] #[]] 74 (0, 0)) * (pt j (.cells (J.cells d r t) 72 (0, 0)) * (tableA t J.T * (pt bj (.cells #[ptV j] 28 (0, 0)) * pt bn (.cells #[.int .i64 (m : Int)] 3 (0, 0)))))))) (fun X => withR_star (withR_mk _ _) X)
    (fun c ys => fact (c = .ret) * (Ax (ownL J.T ys) * (pt yb (.cells #[.func (.yield lp) #[] #[]] 74 (0, 0)) * (pt bj (.cells #[ptV j] 28 (0, 0)) * pt bn (.cells #[.int .i64 (m : Int)] 3 (0, 0))))))
    (fun pre x => ringA r (ringL J.P) * (A (ownL J.T pre) * (pt yb (.cells #[.func (.yield lp) #[] #[]] 74 (0, 0)) * (pt j (.cells (J.cells d r t) 72 (0, 0)) * (tableA t J.T * (pt bj (.cells #[ptV j] 28 (0, 0)) * pt bn (.cells #[.int .i64 (m : Int)] 3 (0, 0)))))))) G ?hps dE hE ?assign ?body ?done ?stop
  case hps =>
    intro x vs Fr W h
    unfold fromT at h
    obtain ⟨rfl, _⟩ := Sat.fact_iff.1 h
    rfl
  case assign =>
    intro l rr pre x vs Fr W K _ hsd H hK
    have H1 := H.front2
    unfold fromT at H1
    obtain ⟨rfl, H2⟩ := Sat.fact_iff.1 H1
    clear H H1
    gi_wp2
    exact hK _ hsd H2
  case done =>
    intro D2 ys W hS hsd H
    subst hS
    have H1 : Sat W (pt D2 (.deferred (some [])) * ((jrX j d r t J * A (ownL J.T (places (ringL J.P).length kt m))) * (LiveIt bj bn j m * G))) := by
      unfold FromIt at H
      have := (H.to (by unfold LiveIt jrX; ac_rfl : _ = pt yb (.cells #[.func (.yield lp) #[] #[]] 74 (0, 0)) * (pt b5 (.cells #[.int .i64 (m : Int)] 3 (0, 0)) * (pt b3 (.cells #[.pointer (some ⟨r, 0, none⟩)] 67 (0, 0)) * (pt b7 (.cells #[.int .i64 (kt : Int)] 3 (0, 0)) * (pt D2 (.deferred (some [])) * ((jrX j d r t J * A (ownL J.T (places (ringL J.P).length kt m))) * (LiveIt bj bn j m * G))))))))
      exact this.right.right.right.right
    have hK := H1.heap
    have H2 := (H1.putObj (.deferred none)).right
    have e : ownL J.T (places (ringL J.P).length kt m) = ownersN J.T J.P (Jr.tail J) m := by rw [ringL_length, htail]; rfl
    rw [e] at H2
    have hsd2 := hsd.putObj D2 (.deferred none)
    clear H H1 hE dE
    gi_wp2
    refine ⟨by simp, .inl ⟨_, _, rfl, run_takeDeferred hK, ?_⟩⟩
    exact ⟨_, results_none rfl _ _ _, ⟨_, rfl⟩, hsd2, .inl ⟨_, rfl, H2⟩⟩
  case stop =>
    intro D2 c ys W hSp hsd H0
    obtain ⟨rfl, H⟩ := Sat.fact_iff.1 (H0.to (star_assoc _ _ _))
    clear H0
    have H1 : Sat W (pt D2 (.deferred (some [])) * (Ax (ownL J.T ys) * (LiveIt bj bn j m * G))) := by
      unfold FromIt at H
      have := (H.to (by unfold LiveIt; ac_rfl : _ = pt yb (.cells #[.func (.yield lp) #[] #[]] 74 (0, 0)) * (pt b5 (.cells #[.int .i64 (m : Int)] 3 (0, 0)) * (pt b3 (.cells #[.pointer (some ⟨r, 0, none⟩)] 67 (0, 0)) * (pt b7 (.cells #[.int .i64 (kt : Int)] 3 (0, 0)) * (pt D2 (.deferred (some [])) * (Ax (ownL J.T ys) * (LiveIt bj bn j m * G))))))))
      exact this.right.right.right.right
    have hK := H1.heap
    have H2 := (H1.putObj (.deferred none)).right
    have hp : ownL J.T ys <+: ownersN J.T J.P (Jr.tail J) m := by
      have := ownL_prefix J.T hSp
      rw [ringL_length, ownL_places] at this
      rw [htail]; exact this
    have hsd2 := hsd.putObj D2 (.deferred none)
    clear H H1 hE dE hSp
    gi_wp2
    refine ⟨by simp, .inl ⟨_, _, rfl, run_takeDeferred hK, ?_⟩⟩
    exact ⟨_, results_none rfl _ _ _, ⟨_, rfl⟩, hsd2, .inr ⟨_, hp, H2⟩⟩
  case body =>
    intro l rr pre p Fr W hSp hsd H
    have hpre := ownL_prefix J.T hSp
    rw [ringL_length, ownL_places, ← htail] at hpre
    have hsn := ownL_snoc J.T pre p
    have H1 : Sat W (pt j (.cells (J.cells d r t) 72 (0, 0)) * (pt bj (.cells #[ptV j] 28 (0, 0)) * (tableA t J.T * (pt yb (.cells #[.func (.yield lp) #[] #[]] 74 (0, 0)) * (A (ownL J.T pre) * (pt bn (.cells #[.int .i64 (m : Int)] 3 (0, 0)) * (ringA r (ringL J.P) * (pt l (.loop rr) * Fr)))))))) := H.to (by ac_rfl)
    have k2 : W.cell? ⟨j, 2, none⟩ = some (ptV t) := H1.cell 2
    have kj : W.cell? ⟨bj, 0, none⟩ = some (ptV j) := H1.front2.cell 0
    have ky : W.cell? ⟨yb, 0, none⟩ = some (.func (.yield lp) #[] #[]) := H1.front4.cell 0
    have how := owner_any W t J.T (p : Int) _ H1.front3
    simp only [List.setIfInBounds_toArray, List.set_cons_succ, List.set_cons_zero]
    match hm' : told J.T.os (p : Int) with
    | none =>
      rw [hm'] at how hsn
      simp only [List.append_nil] at hsn
      have Hsn := SL.hid hsn
      clear hsn hm' hpre H1 hE dE
      gi_wp2_with fail
      refine callRV how ?_
      rintro e w3 ⟨rfl, rfl⟩
      unfold toldV
      clear how
      gi_wp2
      refine ⟨fun f hf => (by cases hf), ?_⟩
      gi_wp2
      refine ⟨hsd, ?_⟩
      dsimp only
      rw [Hsn.out]
      exact H
    | some id =>
      rw [hm'] at how hsn
      simp only at hsn
      rw [hsn] at hpre
      have hT2 : Sat W ((jrX j d r t J * A (ownL J.T pre)) * (pairT (id, (p : Int)) #[.int .i64 id, .int .i64 (p : Int)] * (pt yb (.cells #[.func (.yield lp) #[] #[]] 74 (0, 0)) * (pt bj (.cells #[ptV j] 28 (0, 0)) * (pt bn (.cells #[.int .i64 (m : Int)] 3 (0, 0)) * (pt l (.loop rr) * Fr)))))) :=
        (Sat.fact_iff.2 ⟨rfl, H⟩ : Sat W (fact _ * _)).to (by unfold pairT jrX; ac_rfl)
      obtain ⟨fn, tmps, assign, bodyc, hy, hR⟩ := hY _ (id, (p : Int)) #[.int .i64 id, .int .i64 (p : Int)] _ W hpre hsd hT2
      have Hsn := SL.hid hsn
      clear hsn hm' hpre H1 hE dE hT2 H
      gi_wp2_with fail
      refine callRV how ?_
      rintro e w3 ⟨rfl, rfl⟩
      unfold toldV
      clear how
      gi_wp2
      refine (roundIn_round hR).mono ?_
      rintro e W' (⟨rfl, hs5, hsat5⟩ | ⟨rfl, hs5, hsat5⟩)
      · gi_wp2
        refine ⟨hs5, ?_⟩
        dsimp only
        rw [Hsn.out]
        exact hsat5.to (by unfold jrX; ac_rfl)
      · gi_wp2
        refine ⟨hs5, ?_⟩
        dsimp only
        rw [Hsn.out]
        exact (Sat.fact_iff.2 ⟨rfl, hsat5⟩ : Sat W' (fact (Code.ret = Code.ret) * _)).to (by ac_rfl)
end Go.Proofs.YtlfooilcngjeiaaGreat
namespace Go.SL
set_option linter.unusedVariables false
set_option linter.unusedSimpArgs false
open Go.RowKit
/-- What moving has come to: an error, the blocks, the journal, the device. -/
abbrev Mv := (Int × List (Int × List UInt8)) × Jr × Dev
def Jr.moveStep (own : KV) (s : Mv) (x : Int × Int) : Mv :=
  if s.1.1 ≠ 0 then s else if (kget own x.1).isSome then s else
    if (s.2.1.load s.2.2 x.1 x.2).1.1 = 0 then ((0, s.1.2 ++ [(x.1, (s.2.1.load s.2.2 x.1 x.2).1.2)]), (s.2.1.load s.2.2 x.1 x.2).2)
    else (((s.2.1.load s.2.2 x.1 x.2).1.1, []), (s.2.1.load s.2.2 x.1 x.2).2)
def Jr.moves (J : Jr) (D : Dev) (own : KV) (L : List (Int × Int)) : Mv := L.foldl (Jr.moveStep own) ((0, []), J, D)
theorem Jr.moves_snoc (J : Jr) (D : Dev) (own : KV) (L : List (Int × Int)) (x : Int × Int) : J.moves D own (L ++ [x]) = Jr.moveStep own (J.moves D own L) x := by
  simp [Jr.moves]
theorem Jr.load_ok {J : Jr} {D : Dev} {id p : Int} (h : (J.load D id p).1.1 = 0) : (J.load D id p).2.1 = J := by
  unfold Jr.load at h ⊢
  simp only at h ⊢
  split
  · rename_i h1
    rw [if_pos h1] at h
    split
    · rename_i t b hd
      rw [hd] at h
      simp only at h
      split
      · rfl
      · rename_i h2; rw [if_neg h2] at h; exact absurd h (show (2 : Int) ≠ 0 by decide)
    · rename_i hd
      rw [hd] at h
      exact absurd h (show (2 : Int) ≠ 0 by decide)
  · rename_i h1
    rw [if_neg h1] at h
    exact absurd h (show (2 : Int) ≠ 0 by decide)
theorem Jr.load_dev (J : Jr) (D : Dev) (id p : Int) : (J.load D id p).2.2 = (D.read (p % (J.P : Int) + 1)).2 := by
  unfold Jr.load
  simp only
  split
  · split
    · split <;> rfl
    · rfl
  · rfl
theorem Jr.load_br (J : Jr) (D : Dev) (id p : Int) : (J.load D id p).2.1 = J ∨ (J.load D id p).2.1 = { J with br := true } := by
  unfold Jr.load
  simp only
  split
  · split
    · split
      · exact .inl rfl
      · exact .inr rfl
    · exact .inr rfl
  · exact .inr rfl
theorem Jr.load_keeps (J : Jr) {D : Dev} (h : D.Ok) (id p : Int) : D.Keeps (J.load D id p).2.2 0 := by
  rw [Jr.load_dev]; exact Dev.read_keeps h _
theorem moves_inv {own : KV} (I : Mv → Prop) (h : ∀ s x, I s → I (Jr.moveStep own s x)) : ∀ (L : List (Int × Int)) (s : Mv), I s → I (L.foldl (Jr.moveStep own) s)
  | [], _, hs => hs
  | x :: L, s, hs => moves_inv I h L _ (h s x hs)
theorem Jr.moves_ok {J : Jr} {D : Dev} {own : KV} {L : List (Int × Int)} : (J.moves D own L).1.1 = 0 → (J.moves D own L).2.1 = J := by
  refine moves_inv (fun s => s.1.1 = 0 → s.2.1 = J) ?_ L _ (fun _ => rfl)
  intro s x hs h
  unfold Jr.moveStep at h ⊢
  split
  · rename_i h1; rw [if_pos h1] at h; exact hs h
  · rename_i h1
    rw [if_neg h1] at h
    split
    · rename_i h2; rw [if_pos h2] at h; exact hs h
    · rename_i h2
      rw [if_neg h2] at h
      split
      · rename_i h3
        have := hs (by simpa using h1)
        exact (Jr.load_ok h3).trans this
      · rename_i h3; rw [if_neg h3] at h; exact absurd h h3
theorem Jr.moves_br {J : Jr} {D : Dev} {own : KV} {L : List (Int × Int)} : (J.moves D own L).2.1 = J ∨ (J.moves D own L).2.1 = { J with br := true } := by
  refine moves_inv (fun s => s.2.1 = J ∨ s.2.1 = { J with br := true }) ?_ L _ (.inl rfl)
  intro s x hs
  unfold Jr.moveStep
  split
  · exact hs
  · split
    · exact hs
    · have : (s.2.1.load s.2.2 x.1 x.2).2.1 = J ∨ (s.2.1.load s.2.2 x.1 x.2).2.1 = { J with br := true } := by
        rcases Jr.load_br s.2.1 s.2.2 x.1 x.2 with e | e <;> rcases hs with e' | e' <;> rw [e, e'] <;> first | exact .inl rfl | exact .inr rfl
      split
      · exact this
      · exact this
theorem Jr.moves_keeps (J : Jr) {D : Dev} (hD : D.Ok) (own : KV) (L : List (Int × Int)) : D.Keeps (J.moves D own L).2.2 0 := by
  refine moves_inv (fun s => D.Keeps s.2.2 0) ?_ L _ hD.keeps
  intro s x hs
  have hk := fun (J' : Jr) => hs.trans (Jr.load_keeps J' (hs.ok hD (by have := hD.many; omega)) x.1 x.2)
  unfold Jr.moveStep
  split
  · exact hs
  · split
    · exact hs
    · split
      · exact hk _
      · exact hk _
theorem Jr.moves_stop {J : Jr} {D : Dev} {own : KV} {L L' : List (Int × Int)} (h : (J.moves D own L).1.1 ≠ 0) (hp : L <+: L') : J.moves D own L' = J.moves D own L := by
  obtain ⟨M, rfl⟩ := hp
  unfold Jr.moves at h ⊢
  rw [List.foldl_append]
  generalize L.foldl (Jr.moveStep own) ((0, []), J, D) = s at h ⊢
  induction M with
  | nil => rfl
  | cons x M ih =>
    rw [List.foldl_cons]
    have : Jr.moveStep own s x = s := by unfold Jr.moveStep; rw [if_pos h]
    rw [this]; exact ih
theorem Jr.moves_len {J : Jr} {D : Dev} {own : KV} : ∀ (L : List (Int × Int)), (J.moves D own L).1.2.length ≤ L.length := by
  intro L
  have : ∀ (L : List (Int × Int)) (s : Mv), (L.foldl (Jr.moveStep own) s).1.2.length ≤ s.1.2.length + L.length := by
    intro L
    induction L with
    | nil => intro s; simp
    | cons x L ih =>
      intro s
      rw [List.foldl_cons]
      refine Nat.le_trans (ih _) ?_
      have : (Jr.moveStep own s x).1.2.length ≤ s.1.2.length + 1 := by
        unfold Jr.moveStep
        split
        · omega
        · split
          · omega
          · split
            · simp
            · simp
      simp only [List.length_cons]; omega
  have := this L ((0, []), J, D)
  simpa [Jr.moves] using this
end Go.SL
namespace Go.Proofs.YtlfooilcngjeiaaGreat
open Go.RowKit Go.SL
theorem ownersN_len (T : Tb) (P first k : Nat) : (ownersN T P first k).length ≤ k := by
  unfold ownersN
  refine Nat.le_trans (List.length_filterMap_le _ _) ?_
  simp
theorem decodeF_len {l b : List UInt8} {t : Tg} (h : decodeF l = some (t, b)) (hl : l.length = 512) : b.length = 480 := by
  unfold decodeF at h
  split at h
  · injection h with h; injection h with _ h; rw [← h, List.length_drop, hl]
  · cases h
theorem load_len {J : Jr} {D : Dev} {id p : Int} (h : (J.load D id p).1.1 = 0) : (J.load D id p).1.2.length = 480 := by
  have hr := read_len D (p % (J.P : Int) + 1)
  unfold Jr.load at h ⊢
  simp only at h ⊢
  split
  · rename_i h1
    rw [if_pos h1] at h
    split
    · rename_i t b hd
      rw [hd] at h
      simp only at h
      split
      · exact decodeF_len hd (hr h1)
      · rename_i h2; rw [if_neg h2] at h; exact absurd h (show (2 : Int) ≠ 0 by decide)
    · rename_i hd
      rw [hd] at h
      exact absurd h (show (2 : Int) ≠ 0 by decide)
  · rename_i h1
    rw [if_neg h1] at h
    exact absurd h (show (2 : Int) ≠ 0 by decide)
theorem moves_480 {J : Jr} {D : Dev} {own : KV} {L : List (Int × Int)} : ∀ x ∈ (J.moves D own L).1.2, x.2.length = 480 := by
  refine moves_inv (fun s => ∀ x ∈ s.1.2, x.2.length = 480) ?_ L _ (by simp)
  intro s x hs
  unfold Jr.moveStep
  split
  · exact hs
  · split
    · exact hs
    · split
      · rename_i h3
        intro y hy
        rcases List.mem_append.1 hy with hy | hy
        · exact hs y hy
        · rw [List.mem_singleton.1 hy]; exact load_len h3
      · intro y hy; cases hy
end Go.Proofs.YtlfooilcngjeiaaGreat

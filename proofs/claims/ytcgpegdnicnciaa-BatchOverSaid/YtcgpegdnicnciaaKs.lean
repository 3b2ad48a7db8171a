/- slices.AppendSeq, Collect, Sorted of ints, over whatever iterator has its contract; Sorted(Keys(m)). -/
import Derived.Test.YtcgpegdnicnciaaKe
namespace Go.SL
/-- THE ARM FOR append within a fence: its run is known. -/
theorem wpListIn_append_run {F : Fence} {n : Nat} {P : Program} {w w' : World} {ops : Array Oper} {rest : List Oper} {o : Oper} {a : Act} {Q : Exit → Act → World → Prop} {v xv v' : Value} {t ty : TypeId}
    (hrun : (Builtin.append_ #[t, t] ty #[v, xv]).run P w = .ok v' w') (s x : Operand)
    (hg : o.guard = none) (hty : o.type = ty) (hop : o.op = Op.call { callee := Callee.builtin Builtin.append, args := #[s, x], argTypes := #[t, t] })
    (hs : a.eval s = v) (hx : a.eval x = xv)
    (hK : wpListIn F n P ops Q rest (a.put o.dst v') w') : wpListIn F n P ops Q (o :: rest) a w := by
  refine wpListIn_plain hg fun K hK' => ?_
  subst hty hs hx
  unfold Oper.wpIn
  refine ⟨?_, ?_⟩
  · simp [Oper.about, hop, resolve, Target.leads, Sem.run_pure]
  · rw [Oper.semAt_plain F _ _ (by rw [hop]; intro c hc'; cases hc')]
    simp [execOp, hop, resolve, invoke, builtin, hrun, Result.andThen]
    exact hK' _ _ hK
theorem sl_shape {w : World} {F : Assn} {T : TypeId} {sz n : Nat} {v : Value} {xs : List Value} (h : Sat w (sl T sz v n xs * F)) : ∃ a c, v = .slice a n c := by
  rcases h.slCases with ⟨rfl, rfl, _, _⟩ | ⟨g, cap, cur, rfl, _⟩
  · exact ⟨_, _, rfl⟩
  · exact ⟨_, _, rfl⟩
end Go.SL
namespace Go.Proofs.Ytcgpegdnicnciaa
set_option linter.unusedVariables false
set_option linter.unusedSimpArgs false
open Go.RowKit Go.SL
attribute [local go_sem] Oper.semAt_some
theorem info_int : (Try.prog.info? 3).map (fun i => (i.zero, i.size, i.bytes)) = some (some (.int .i64 0), 1, 8) := by kernel_rfl
def SeqQ (It G : Assn) (S : List Int → Prop) (w0 : World) (e : Ending) (w' : World) : Prop :=
  ∃ v ys, S ys ∧ e = .returned v ∧ Sat w' (sl 3 1 v ys.length (i64v ys) * (It * G)) ∧ Side w0 w'
/-- The variable that grows. -/
def GrowA (bx : Nat) (ys : List Int) : Assn := ex fun v => pt bx (.cells #[v] 22 (0, 0)) * sl 3 1 v ys.length (i64v ys)
set_option maxRecDepth 100000 in
set_option maxHeartbeats 1000000 in
theorem appendSeq_any {gf : Nat} {lb : Array Value} {It : Assn} {S Sp : List Int → Prop} (eg : ∀ args w, (callFunc gf args).run Try.prog w = .ok (.enter gf args) w)
    (hit : ∀ n, Iterates Fence.wide n Try.prog gf lb It intT S Sp) (N : Nat) (hN : N ≤ 1000000000) (hSp : ∀ ys, Sp ys → ys.length ≤ N) (w w0 : World) (G : Assn) (hs : Side w0 w) (h0 : Sat w (It * G)) :
    Calls Try.prog 34 #[.slice none 0 0, .func (.func gf) #[] lb] w (SeqQ It G S w0) := by
  obtain ⟨i0, hi, hz, hs0, hb0⟩ := info_parts info_int
  refine (callsIn_wide (n := 9)).1 ?_
  refine callsIn_of_wp_marks Try.func34 rfl trivial ?_ rfl
  simp only [Try.ntmps34, List.size_toArray, List.length_cons, List.length_nil, Nat.reduceAdd, Nat.reduceSub, Array.replicate_succ, Array.replicate_zero, List.push_toArray, List.append_toArray, List.nil_append, List.cons_append]
  gi_wp2
  have hA := h0.alloc (.cells #[.slice none 0 0] 22 (0, 0))
  have hs1 := hs.alloc (.cells #[.slice none 0 0] 22 (0, 0))
  have hstart : Sat (w.alloc (.cells #[.slice none 0 0] 22 (0, 0))) (GrowA w.heap.size [] * (It * G)) :=
    Sat.ex_star_iff.2 ⟨.slice none 0 0, (hA.slNil 3 1).to (by simp only [i64v, List.map_nil, List.length_nil]; ac_rfl)⟩
  generalize w.alloc (.cells #[.slice none 0 0] 22 (0, 0)) = w1 at hstart hs1 ⊢
  clear hA
  refine wpIn_range (w0 := w0) rfl (by decide) (gf := gf) (lb := lb) rfl trivial eg (hit _) (GrowA w.heap.size) (fun _ _ => fact False)
    (fun pre x a' => fact (a' = { tmps := #[.slice none 0 0, .func (.func gf) #[] lb, .pointer (some ⟨w.heap.size, 0, none⟩), undef, .slice none 0 0, .int .i64 x, .func (.func gf) #[] lb, .int .i64 x, undef, undef, undef, undef, undef], defers := [] }) * GrowA w.heap.size pre) G ?hps hs1 hstart ?assign ?body ?done ?stop
  case hps =>
    intro x vs Fr W h
    obtain ⟨rfl, _⟩ := Sat.fact_iff.1 h
    rfl
  case assign =>
    intro l r pre x vs Fr W K _ hsd H hK
    obtain ⟨rfl, H2⟩ := Sat.fact_iff.1 (H.to (star_left_comm _ _ _))
    clear H
    gi_wp2
    exact hK _ _ hsd ((Sat.fact_iff.2 ⟨rfl, H2⟩ : Sat W (fact _ * _)).to (star_assoc _ _ _).symm)
  case body =>
    intro l r pre x a' Fr W hp hsd H
    obtain ⟨rfl, H2⟩ := Sat.fact_iff.1 (H.to (star_assoc _ _ _))
    clear H
    obtain ⟨v, H⟩ := Sat.ex_star_iff.1 H2
    clear H2
    have hlen : pre.length + 1 ≤ 1000000000 := by have := hSp _ hp; simp at this; omega
    have H1 : Sat W (pt w.heap.size (.cells #[v] 22 (0, 0)) * (sl 3 1 v pre.length (i64v pre) * (pt l (.loop r) * Fr))) := H.to (star_assoc _ _ _)
    have hcell := H1.cell 0
    have hfr := H1.frozen 0
    have hA := H1.alloc (.cells #[.int .i64 x] 3 (0, 0))
    have hR : Rds (W.alloc (.cells #[.int .i64 x] 3 (0, 0))) 1 (.slice (some ⟨W.heap.size, 0, none⟩) 1 1) 1 [.int .i64 x] :=
      ⟨rfl, .inr ⟨_, _, rfl, fun j u hu => by
        rw [Addr.add_lit, Nat.zero_add]
        exact (hA.cell j).trans (by simpa using hu)⟩⟩
    obtain ⟨v', w', hrun, hsat', hside'⟩ := Sat.append (P := Try.prog) (ty := 22) (F := pt w.heap.size (.cells #[v] 22 (0, 0)) * (pt l (.loop r) * Fr)) Try.underlying22 hi hz hs0 hb0 rfl (hA.right.to (by ac_rfl)) hR (by simp [Value.oneCell']) (by unfold maxLen; omega) (by omega)
    obtain ⟨aa, ac, rfl⟩ := sl_shape hsat'
    have hcell' := hsat'.front2.cell 0
    have hfr' := hsat'.front2.frozen 0
    have hset := hsat'.front2.setCell 0 (.slice aa (pre.length + 1) ac)
    clear hA hR hi hz hs0 hb0 H H1 hlen
    have Hrun := hid hrun; clear hrun
    gi_wp2_with (gi_at_builtin; refine wpListIn_append_run Hrun.out _ _ rfl rfl rfl rfl rfl ?_)
    refine ⟨(hsd.alloc _).trans hside' |>.setCell _ _, Sat.ex_star_iff.2 ⟨.slice aa (pre.length + 1) ac, hset.to ?_⟩⟩
    simp only [i64v, List.map_append, List.length_append, List.map_cons, List.map_nil, List.length_cons, List.length_nil]
    simp only [List.setIfInBounds_toArray, List.set_cons_zero]
    ac_rfl
  case done =>
    intro D ys W hS hsd H
    obtain ⟨v, H⟩ := Sat.ex_star_iff.1 H
    have hK : W.heap[D]? = some (.deferred (some [])) := (H.to (by ac_rfl : _ = pt D (.deferred (some [])) * (pt w.heap.size (.cells #[v] 22 (0, 0)) * sl 3 1 v ys.length (i64v ys) * (It * G)))).heap
    have H1 : Sat W (pt w.heap.size (.cells #[v] 22 (0, 0)) * (sl 3 1 v ys.length (i64v ys) * (It * (pt D (.deferred (some [])) * G)))) := H.to (star_assoc _ _ _)
    have hcell := H1.cell 0
    have hfr := H1.frozen 0
    have HD : Sat W (pt D (.deferred (some [])) * (sl 3 1 v ys.length (i64v ys) * (It * G))) := H1.right.to (by ac_rfl)
    gi_wp2
    refine ⟨by simp, .inl ⟨_, _, rfl, run_takeDeferred hK, ?_⟩⟩
    exact ⟨_, results_tmp rfl _ _ _, v, ys, hS, rfl, (HD.putObj _).right, hsd.putObj _ _⟩
  case stop =>
    intro D c ys W _ _ H
    exact (Sat.fact_iff.1 H).1.elim
set_option maxRecDepth 100000 in
set_option maxHeartbeats 1000000 in
theorem collect_any {gf : Nat} {lb : Array Value} {It : Assn} {S Sp : List Int → Prop} (eg : ∀ args w, (callFunc gf args).run Try.prog w = .ok (.enter gf args) w)
    (hit : ∀ n, Iterates Fence.wide n Try.prog gf lb It intT S Sp) (N : Nat) (hN : N ≤ 1000000000) (hSp : ∀ ys, Sp ys → ys.length ≤ N) (w w0 : World) (G : Assn) (hs : Side w0 w) (h0 : Sat w (It * G)) :
    Calls Try.prog 31 #[.func (.func gf) #[] lb] w (SeqQ It G S w0) := by
  have hc := appendSeq_any eg hit N hN hSp w w0 G hs h0
  clear hit hSp h0 hN eg
  go_enter Try.func31, Try.ntmps31
  go_wp2_with fail
  refine hc.mono ?_
  rintro e w' ⟨v, ys, hS, rfl, H, hsd⟩
  go_wp2
  go_ret
  exact ⟨v, ys, hS, rfl, H, hsd⟩
def SortedQ (It G : Assn) (S : List Int → Prop) (w0 : World) (e : Ending) (w' : World) : Prop :=
  ∃ v ys, S ys ∧ e = .returned v ∧ Sat w' (sl 3 1 v ys.length (i64v (sorted ys)) * (It * G)) ∧ Side w0 w'
set_option maxRecDepth 100000 in
set_option maxHeartbeats 1000000 in
theorem sorted_any {gf : Nat} {lb : Array Value} {It : Assn} {S Sp : List Int → Prop} (eg : ∀ args w, (callFunc gf args).run Try.prog w = .ok (.enter gf args) w)
    (hit : ∀ n, Iterates Fence.wide n Try.prog gf lb It intT S Sp) (N : Nat) (hN : N ≤ 1000000000) (hSp : ∀ ys, Sp ys → ys.length ≤ N) (hS : ∀ ys, S ys → ys.length ≤ N) (w w0 : World) (G : Assn) (hs : Side w0 w) (h0 : Sat w (It * G)) :
    Calls Try.prog 29 #[.func (.func gf) #[] lb] w (SortedQ It G S w0) := by
  have hc := collect_any eg hit N hN hSp w w0 G hs h0
  clear hit hSp h0 eg
  go_enter Try.func29, Try.ntmps29
  go_wp2_with fail
  refine hc.mono ?_
  rintro e w' ⟨v, ys, hSy, rfl, H, hsd⟩
  have hl : ys.length < 4611686018427387904 := by have := hS _ hSy; omega
  clear hc
  go_wp2_with fail
  refine (sort_any v ys w' _ H hl).mono ?_
  rintro e w2 ⟨rfl, H2, hsd2⟩
  clear H
  go_wp2
  go_ret
  exact ⟨v, ys, hSy, rfl, H2, hsd.trans hsd2⟩
end Go.Proofs.Ytcgpegdnicnciaa

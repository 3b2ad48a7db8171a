/- bitmap: All, Count. -/
import Derived.OwnWalkIn
import Derived.TacticsInMore
import Derived.LoopNIn
import Derived.LoopIn
import Derived.Deep.LoopGhost
import Derived.Test.YtaoohjeaaccnfaaRf
import Derived.Test.YtaoohjeaaccnfaaFg
namespace Go.SL
set_option linter.unusedVariables false
set_option linter.unusedSimpArgs false
open Go.RowKit
/-- The numbers below e whose bit is 1. -/
def takenL (l : List UInt8) (e : Nat) : List Nat := (List.range e).filter (bitAt l)
theorem takenL_succ (l : List UInt8) (e : Nat) : takenL l (e + 1) = if bitAt l e = true then takenL l e ++ [e] else takenL l e := by
  unfold takenL
  rw [List.range_succ, List.filter_append]
  split
  · rename_i h; rw [List.filter_cons_of_pos h]; rfl
  · rename_i h; rw [List.filter_cons_of_neg h]; simp
theorem takenL_prefix (l : List UInt8) {k e : Nat} (h : k ≤ e) : takenL l k <+: takenL l e := by
  obtain ⟨d, rfl⟩ := Nat.exists_eq_add_of_le h
  induction d with
  | zero => exact List.prefix_refl _
  | succ d ih =>
    refine (ih (by omega)).trans ?_
    rw [show k + (d + 1) = (k + d) + 1 by omega, takenL_succ]
    split
    · exact List.prefix_append _ _
    · exact List.prefix_refl _
theorem takenL_length (l : List UInt8) (e : Nat) : (takenL l e).length ≤ e := by
  have := List.length_filter_le (bitAt l) (List.range e)
  simpa [takenL] using this
end Go.SL
namespace Go.Proofs.Ytaoohjeaaccnfaa.Fs
set_option linter.unusedVariables false
set_option linter.unusedSimpArgs false
open Go.RowKit Go.SL Go.Proofs.Ytaoohjeaaccnfaa.Ba
attribute [local go_sem] Oper.semAt_some
theorem callW {P : Program} {f : FuncId} {args : Array Value} {w : World} {R R' : Ending → World → Prop} {n m : Nat} (h : Calls P f args w R) (hr : ∀ e w, R e w → R' e w) :
    Fence.wide.fn f ∧ (Fence.wide.depth.isSome = true → 1 ≤ m) ∧ CallsIn Fence.wide n P f args w R' := ⟨trivial, fun h => (by cases h), (callsIn_wide.2 h).mono hr⟩
theorem callV {P : Program} {f : FuncId} {args : Array Value} {w : World} {R R' : Ending → World → Prop} {n : Nat} (h : Calls P f args w R) (hr : ∀ e w, R e w → R' e w) :
    Fence.wide.fn f ∧ CallsIn Fence.wide n P f args w R' := ⟨trivial, (callsIn_wide.2 h).mono hr⟩
def natT (x : Nat) (vs : Array Value) : Assn := fact (vs = #[.int .i64 (x : Int)])
def AllBIt (ex bx : Nat) (v : Value) (l : List UInt8) (e : Nat) : Assn :=
  pt bx (.cells #[v] 22 (0, 0)) * (pt ex (.cells #[.int .i64 (e : Int)] 3 (0, 0)) * bs 5 v l)
def AllBRel (A : List Nat → Assn) (l : List UInt8) (e : Nat) (X : Assn) (w0 : World) (u : Value) (wr : World) : Prop :=
  ∃ k : Nat, k ≤ e ∧ u = .int .i64 (k : Int) ∧ Side w0 wr ∧ Sat wr (A (takenL l k) * X)
set_option maxRecDepth 100000 in
set_option maxHeartbeats 2000000 in
theorem allB_iter (n : Nat) (ex bx : Nat) (va : Option Addr) (vc : Nat) (l : List UInt8) (e : Nat) (hl : l.length = 480) (he : e ≤ 3840) :
    Iterates Fence.wide n Try.prog 91 #[.pointer (some ⟨ex, 0, none⟩), .pointer (some ⟨bx, 0, none⟩)] (AllBIt ex bx (.slice va 480 vc) l e) natT (fun ys => ys = takenL l e) (fun ys => ys <+: takenL l e) := by
  intro lp A Ax G w0 w hY hs h0
  have he' : (e : Int) ≤ 3840 := by omega
  have h9 : Sat w (pt ex (.cells #[.int .i64 (e : Int)] 3 (0, 0)) * (A [] * (pt bx (.cells #[.slice va 480 vc] 22 (0, 0)) * (bs 5 (.slice va 480 vc) l * G)))) := h0.to (by unfold AllBIt; ac_rfl)
  have c0 : w.cell? ⟨ex, 0, none⟩ = some (.int .i64 (e : Int)) := h9.cell 0
  refine callsIn_of_wp Try.func91 rfl trivial ?_ rfl
  simp only [Try.ntmps91, List.size_toArray, List.length_cons, List.length_nil, Nat.reduceAdd, Nat.reduceSub, Array.replicate_succ, Array.replicate_zero, List.push_toArray, List.append_toArray, List.nil_append, List.cons_append]
  gi_wp2
  gi_loopw [7] (fun u wr => AllBRel A l e (AllBIt ex bx (.slice va 480 vc) l e * G) w0 u wr) (fun u _ => e - (intOf u).toNat)
  case atStart => exact ⟨0, Nat.zero_le _, rfl, hs, h0⟩
  case round =>
    clear h0 c0
    obtain ⟨k, hk, rfl, hside, hsat⟩ := hrel
    by_cases hlt : k < e
    · have hlt' : (k : Int) < (e : Int) := by omega
      have H2 : Sat wr (pt bx (.cells #[.slice va 480 vc] 22 (0, 0)) * (bs 5 (.slice va 480 vc) l * (A (takenL l k) * (pt ex (.cells #[.int .i64 (e : Int)] 3 (0, 0)) * G)))) := hsat.to (by unfold AllBIt; ac_rfl)
      have cb : wr.cell? ⟨bx, 0, none⟩ = some (.slice va 480 vc) := H2.cell 0
      have his := is_any wr (.slice va 480 vc) l H2.front2.rds hl k (by omega)
      have hsc := takenL_succ l k
      cases hb : bitAt l k with
      | false =>
        rw [hb] at his hsc
        have hsc2 : takenL l (k + 1) = takenL l k := hsc
        have Hsc := SL.hid hsc2
        have Hs := SL.hid hsat
        clear hb hsc hsc2 hsat H2
        gi_wp2_with fail
        refine callW his ?_
        rintro e2 w2 ⟨rfl, rfl⟩
        clear his
        gi_wp2
        refine ⟨fun f h => (by cases h), ?_⟩
        gi_wp2
        go_roundw
        gi_wp2
        have hrel' : AllBRel A l e (AllBIt ex bx (.slice va 480 vc) l e * G) w0 (.int .i64 ((k : Int) + 1)) wr := ⟨k + 1, by omega, by go_num, hside, by rw [Hsc.out]; exact Hs.out⟩
        all_goals first | exact hrel' | exact ⟨hrel', by simp [intOf]; omega⟩ | (simp [intOf]; omega)
      | true =>
        rw [hb] at his hsc
        have hsc2 : takenL l (k + 1) = takenL l k ++ [k] := hsc
        have hpre : takenL l k ++ [k] <+: takenL l e := by rw [← hsc2]; exact takenL_prefix l hlt
        obtain ⟨fn, tmps, assign, body, hy, hR⟩ := hY _ k #[.int .i64 (k : Int)] (AllBIt ex bx (.slice va 480 vc) l e * G) wr hpre hside (Sat.front2 (X1 := natT k #[.int .i64 (k : Int)]) (Sat.fact_iff.2 ⟨rfl, hsat⟩))
        have Hsc := SL.hid hsc2; have Hpre := SL.hid hpre
        clear hb hsc hsc2 hsat H2 hpre
        gi_wp2_with fail
        refine callW his ?_
        rintro e2 w2 ⟨rfl, rfl⟩
        clear his
        gi_wp2
        refine ⟨fun h => (by cases h), hR.mono ?_⟩
        rintro e W' (⟨rfl, hs5, hsat5⟩ | ⟨rfl, hs5, hsat5⟩)
        · gi_wp2
          have hrel' : AllBRel A l e (AllBIt ex bx (.slice va 480 vc) l e * G) w0 (.int .i64 ((k : Int) + 1)) W' := ⟨k + 1, by omega, by go_num, hs5, by rw [Hsc.out]; exact hsat5⟩
          all_goals first | exact hrel' | exact ⟨hrel', by simp [intOf]; omega⟩ | (simp [intOf]; omega)
        · gi_wp2
          refine bodyPost_ret (results_none rfl _ _ _) rfl ?_
          exact ⟨⟨_, rfl⟩, hs5, .inr ⟨_, Hpre.out, hsat5⟩⟩
    · obtain rfl : k = e := by omega
      have Hs := SL.hid hsat
      clear hsat
      gi_wp2
      go_end0
      exact ⟨⟨_, rfl⟩, hside, .inl ⟨_, rfl, Hs.out⟩⟩
def AllFQB (vb : Value) (e : Nat) (w : World) (en : Ending) (w' : World) : Prop :=
  en = .returned (.func (.func 91) #[] #[.pointer (some ⟨w.heap.size + 1, 0, none⟩), .pointer (some ⟨w.heap.size, 0, none⟩)]) ∧
    w' = (w.alloc (.cells #[vb] 22 (0, 0))).alloc (.cells #[.int .i64 (e : Int)] 3 (0, 0))
theorem allF_any (w : World) (va : Option Addr) (k c e : Nat) :
    Calls Try.prog 71 #[.slice va k c, .int .i64 (e : Int)] w (AllFQB (.slice va k c) e w) := by
  go_enter Try.func71, Try.ntmps71
  go_wp2
  go_ret
  exact ⟨rfl, rfl⟩
def CountA (cx : Nat) (ys : List Nat) : Assn := pt cx (.cells #[.int .i64 (ys.length : Int)] 3 (0, 0))
def CountQ (k : Nat) (v : Value) (l : List UInt8) (F : Assn) (w : World) (e : Ending) (w' : World) : Prop :=
  e = .returned (.int .i64 (k : Int)) ∧ Sat w' (bs 5 v l * F) ∧ Side w w'
def setC (x : Nat) (t : Array Value) : Array Value := t.setIfInBounds 9 (.int .i64 (x : Int))
set_option maxRecDepth 100000 in
set_option maxHeartbeats 2000000 in
theorem count_any (w : World) (v : Value) (l : List UInt8) (F : Assn) (h : Sat w (bs 5 v l * F)) (hl : l.length = 480) (e : Nat) (he : e ≤ 3840) :
    Calls Try.prog 49 #[v, .int .i64 (e : Int)] w (CountQ (takenL l e).length v l F w) := by
  obtain ⟨va, vc, rfl⟩ := sl_shape h
  rw [hl] at h ⊢
  have hE : (e : Int) ≤ 3840 := by omega
  refine (callsIn_wide (n := 9)).1 ?_
  refine callsIn_of_wp_marks Try.func49 rfl trivial ?_ rfl
  simp only [Try.ntmps49, List.size_toArray, List.length_cons, List.length_nil, Nat.reduceAdd, Nat.reduceSub, Array.replicate_succ, Array.replicate_zero, List.push_toArray, List.append_toArray, List.nil_append, List.cons_append]
  have hA := h.alloc (.cells #[.int .i64 0] 3 (0, 0))
  have hs1 := (Side.refl w).alloc (.cells #[.int .i64 0] 3 (0, 0))
  clear h
  gi_wp2_with fail
  generalize w.alloc (.cells #[.int .i64 0] 3 (0, 0)) = w1 at hA hs1 ⊢
  refine callV (allF_any w1 va 480 vc e) ?_
  rintro en w2 ⟨rfl, rfl⟩
  have hB := (hA.alloc (.cells #[.slice va 480 vc] 22 (0, 0))).alloc (.cells #[.int .i64 (e : Int)] 3 (0, 0))
  have hs2 := (hs1.alloc (.cells #[.slice va 480 vc] 22 (0, 0))).alloc (.cells #[.int .i64 (e : Int)] 3 (0, 0))
  have hsz : (w1.alloc (.cells #[.slice va 480 vc] 22 (0, 0))).heap.size = w1.heap.size + 1 := Array.size_push ..
  rw [hsz] at hB
  clear hA hs1 hsz
  gi_wp2_with fail
  generalize (w1.alloc (.cells #[.slice va 480 vc] 22 (0, 0))).alloc (.cells #[.int .i64 (e : Int)] 3 (0, 0)) = w3 at hB hs2 ⊢
  have h6 : Sat w3 (CountA w.heap.size [] * (AllBIt (w1.heap.size + 1) w1.heap.size (.slice va 480 vc) l e * F)) := hB.to (by unfold AllBIt CountA; ac_rfl)
  clear hB
  refine wpIn_range_t (w0 := w) rfl (by decide) (gf := 91) (lb := #[.pointer (some ⟨w1.heap.size + 1, 0, none⟩), .pointer (some ⟨w1.heap.size, 0, none⟩)]) rfl trivial (enters Try.func91 (by kernel_rfl) rfl)
    (allB_iter _ (w1.heap.size + 1) w1.heap.size va vc l e hl he) setC (CountA w.heap.size) (fun pre x => CountA w.heap.size pre) _ ?hps hs2 h6 ?assign ?body ?done
  case hps =>
    intro x vs Fr W h
    unfold natT at h
    obtain ⟨rfl, _⟩ := Sat.fact_iff.1 h
    rfl
  case assign =>
    intro lp r pre x vs Fr W K _ hsd H hK
    have H1 : Sat W (natT x vs * (CountA w.heap.size pre * (pt lp (.loop r) * Fr))) := H.front2
    unfold natT at H1
    obtain ⟨rfl, H2⟩ := Sat.fact_iff.1 H1
    clear H H1
    gi_wp2
    exact hK _ hsd H2
  case body =>
    intro lp r pre x Fr W hp hsd H
    have hlen : pre.length + 1 ≤ 3840 := by
      have := hp.length_le; have := takenL_length l e; simp at *; omega
    have hlen2 : (pre.length : Int) + 1 ≤ 3840 := by omega
    have hlen0 : 0 ≤ (pre.length : Int) := by omega
    have hc : W.cell? ⟨w.heap.size, 0, none⟩ = some (.int .i64 (pre.length : Int)) := H.cell 0
    have hfr : W.frozen? ⟨w.heap.size, 0, none⟩ = false := H.frozen 0
    have hset := H.setCell 0 (.int .i64 ((pre.length : Int) + 1))
    have hset2 : Sat (W.setCell ⟨w.heap.size, 0, none⟩ (.int .i64 ((pre.length : Int) + 1))) (CountA w.heap.size (pre ++ [x]) * (pt lp (.loop r) * Fr)) := by
      unfold CountA; rw [List.length_append, List.length_singleton, Int.natCast_add]; exact hset
    have Hset := SL.hid hset2
    have Hd := SL.hid hsd
    clear hset hset2 H hp hsd hlen h6 hs2
    generalize (pre.length : Int) = z at *
    simp only [setC, List.setIfInBounds_toArray, List.set_cons_succ, List.set_cons_zero]
    gi_wp2
    exact ⟨Hd.out.setCell _ _, Hset.out⟩
  case done =>
    intro D2 ys W0 hS hsd H
    subst hS
    have H2 : Sat W0 (pt D2 (.deferred (some [])) * (CountA w.heap.size (takenL l e) * (AllBIt (w1.heap.size + 1) w1.heap.size (.slice va 480 vc) l e * F))) := H.to (by ac_rfl)
    have hcell : W0.cell? ⟨w.heap.size, 0, none⟩ = some (.int .i64 ((takenL l e).length : Int)) := H.cell 0
    have hK := H2.heap
    have HD := (H2.putObj (.deferred none)).right
    have Hd := SL.hid hsd
    clear H H2 h6 hsd hs2
    gi_wp2
    refine ⟨by simp, .inl ⟨_, _, rfl, run_takeDeferred hK, ?_⟩⟩
    exact ⟨_, results_tmp rfl _ _ _, rfl, (HD.right.to (by unfold AllBIt; ac_rfl : _ = pt (w1.heap.size + 1) (.cells #[.int .i64 (e : Int)] 3 (0, 0)) * (pt w1.heap.size (.cells #[.slice va 480 vc] 22 (0, 0)) * (bs 5 (.slice va 480 vc) l * F)))).right.right, Hd.out.putObj _ _⟩
end Go.Proofs.Ytaoohjeaaccnfaa.Fs

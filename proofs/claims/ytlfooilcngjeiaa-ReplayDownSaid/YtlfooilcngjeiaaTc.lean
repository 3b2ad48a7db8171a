/- table: New; All, as an iterator. -/
import Derived.Test.YtlfooilcngjeiaaTb
namespace Go.Proofs.Ytlfooilcngjeiaa
set_option linter.unusedVariables false
set_option linter.unusedSimpArgs false
open Go.RowKit Go.SL
attribute [local go_sem] Oper.semAt_some
def EmptyQ (n : Nat) (w : World) (e : Ending) (w' : World) : Prop := ∃ g, e = .returned (.slice (some ⟨g, 0, none⟩) n n) ∧ Sat w' (pt g (.cells (ints (List.replicate n (-1))) 3 (0, 0)) * whole w) ∧ Side w w'
def EmptyRel (g : Nat) (n : Nat) (w : World) (u : Value) (wr : World) : Prop :=
  ∃ k : Nat, k ≤ n ∧ u = .int .i64 k ∧ Sat wr (pt g (.cells (ints (List.replicate k (-1) ++ List.replicate (n - k) 0)) 3 (0, 0)) * whole w) ∧ Side w wr
set_option maxRecDepth 100000 in
set_option maxHeartbeats 1000000 in
theorem empty_any (n : Nat) (w : World) (h2 : n ≤ 1048576) : Calls Try.prog 70 #[.int .i64 n] w (EmptyQ n w) := by
  have hn1 : (0 : Int) ≤ (n : Int) := by omega
  have hn2 : (n : Int) ≤ 1048576 := by omega
  have hmk := make_ints n h2 w
  have hA := ((Sat.whole w).alloc (.cells (ints (List.replicate n 0)) 3 (0, 0)))
  have hs := ((Side.refl w).alloc (.cells (ints (List.replicate n 0)) 3 (0, 0)))
  go_enter Try.func70, Try.ntmps70
  go_wp2
  generalize w.alloc (.cells (ints (List.replicate n 0)) 3 (0, 0)) = w1 at hA hs ⊢
  generalize w.heap.size = g at hA ⊢
  clear hmk
  go_loopw [11] (fun u wr => EmptyRel g n w u wr) (fun u _ => n - (intOf u).toNat)
  case atStart => exact ⟨0, Nat.zero_le _, rfl, hA.to (by simp only [List.replicate_zero, List.nil_append, Nat.sub_zero]), hs⟩
  case round =>
    obtain ⟨k, hk, rfl, hsat, hside⟩ := hrel
    clear hA hs
    have hl : (List.replicate k (-1) ++ List.replicate (n - k) (0 : Int)).length = n := by simp; omega
    by_cases hlt : k < n
    · have hlt' : (k : Int) < (n : Int) := by omega
      have hv : wr.cell? ⟨g, k, none⟩ = some (.int .i64 ((List.replicate k (-1) ++ List.replicate (n - k) (0 : Int)).getD k 0)) := (hsat.cell k).trans (get_ints_lt (by rw [hl]; exact hlt))
      have hf := hsat.frozen k
      generalize (List.replicate k (-1) ++ List.replicate (n - k) (0 : Int)).getD k 0 = q at hv
      have h4 := hsat.setCell k (.int .i64 (-1))
      rw [set_ints, fill_next n k (-1) hlt] at h4
      have H4 := SL.hid h4
      clear hsat h4 hl
      go_wp2
      go_roundw
      case rel => exact ⟨k + 1, by omega, by go_num, H4.out, hside.setCell _ _⟩
      case measure => simp [intOf]; omega
    · obtain rfl : k = n := by omega
      rw [Nat.sub_self, List.replicate_zero, List.append_nil] at hsat
      have H4 := SL.hid hsat
      clear hsat hl hlt
      go_wp2
      go_ret
      exact ⟨g, rfl, H4.out, hside⟩
def TabNewQ (b p : Nat) (w : World) (e : Ending) (w' : World) : Prop := ∃ t, e = .returned (.pointer (some ⟨t, 0, none⟩)) ∧ Sat w' (tableA t (Tb.fresh b p) * whole w) ∧ Side w w'
set_option maxRecDepth 100000 in
theorem tabNew_any (b p : Nat) (w : World) (hb : b ≤ 1048576) (hp : p ≤ 1048576) : Calls Try.prog 40 #[.int .i64 b, .int .i64 p] w (TabNewQ b p w) := by
  go_enter Try.func40, Try.ntmps40
  go_wp2_with fail
  refine (empty_any b w hb).mono ?_
  rintro e w1 ⟨g1, rfl, h1, d1⟩
  go_wp2_with fail
  refine (empty_any p w1 hp).mono ?_
  rintro e w2 ⟨g2, rfl, h2, d2⟩
  have h3 := (h2.under h1).alloc (.cells #[.slice (some ⟨g1, 0, none⟩) b b, .slice (some ⟨g2, 0, none⟩) p p, .int .i64 0] 147 (0, 0))
  go_wp2
  go_ret
  refine ⟨_, rfl, Sat.tabShut ⟨g1, g2⟩ ?_, (d1.trans d2).alloc _⟩
  exact h3.to (by simp only [Tb.fresh, List.length_replicate]; ac_rfl)
/-- Blocks that are anywhere, rising, each with its place. -/
def tbAll (T : Tb) : List (Int × Int) := (List.range T.ps.length).filterMap fun i : Nat => (told T.ps (i : Int)).map fun p => ((i : Int), p)
def allN (T : Tb) (k : Nat) : List (Int × Int) := (List.range k).filterMap fun i : Nat => (told T.ps (i : Int)).map fun p => ((i : Int), p)
theorem allN_succ (T : Tb) (k : Nat) : allN T (k + 1) = allN T k ++ (match told T.ps (k : Int) with | some p => [((k : Int), p)] | none => []) := by
  unfold allN
  rw [List.range_succ, List.filterMap_append]
  congr 1
  cases h : told T.ps (k : Int) <;> simp [List.filterMap_cons, h]
theorem allN_prefix (T : Tb) {k n : Nat} (h : k ≤ n) : allN T k <+: allN T n := by
  obtain ⟨m, rfl⟩ := Nat.le.dest h
  clear h
  induction m with
  | zero => exact List.prefix_refl _
  | succ m ih => rw [show k + (m + 1) = (k + m) + 1 by omega, allN_succ]; exact ih.trans (List.prefix_append _ _)
def pairT (x : Int × Int) (vs : Array Value) : Assn := fact (vs = #[.int .i64 x.1, .int .i64 x.2])
def AllTF (p : Option Addr) (w : World) (e : Ending) (w' : World) : Prop := e = .returned (.func (.func 74) #[] #[.pointer (some ⟨w.heap.size, 0, none⟩)]) ∧ w' = w.alloc (.cells #[.pointer p] 98 (0, 0))
theorem allT_any (w : World) (p : Option Addr) : Calls Try.prog 43 #[.pointer p] w (AllTF p w) := by
  go_enter Try.func43, Try.ntmps43
  go_wp2
  go_ret
  exact ⟨rfl, rfl⟩
def AllTIt (bx t : Nat) (T : Tb) : Assn := pt bx (.cells #[.pointer (some ⟨t, 0, none⟩)] 98 (0, 0)) * tableA t T
def AllTRel (A : List (Int × Int) → Assn) (T : Tb) (X : Assn) (w0 : World) (i : Value) (wr : World) : Prop :=
  ∃ k : Nat, k ≤ T.ps.length ∧ i = .int .i64 (k : Int) ∧ Side w0 wr ∧ Sat wr (A (allN T k) * X)
set_option maxRecDepth 100000 in
set_option maxHeartbeats 2000000 in
theorem allT_iter (n : Nat) (bx t : Nat) (T : Tb) (hT : T.ps.length ≤ 1048576) :
    Iterates Fence.wide n Try.prog 74 #[.pointer (some ⟨bx, 0, none⟩)] (AllTIt bx t T) pairT (fun ys => ys = tbAll T) (fun ys => ys <+: tbAll T) := by
  intro lp A Ax G w0 w hY hs h0
  have hB : Sat w (tableA t T * (pt bx (.cells #[.pointer (some ⟨t, 0, none⟩)] 98 (0, 0)) * (A [] * G))) := h0.to (by unfold AllTIt; ac_rfl)
  have hbx := hB.front2.cell 0
  obtain ⟨x, hx⟩ := hB.tabOpen
  have c0 : w.cell? ⟨t, 0, none⟩ = some (.slice (some ⟨x.g1, 0, none⟩) T.ps.length T.ps.length) := hx.cell 0
  have hl1 : (T.ps.length : Int) ≤ 1048576 := by omega
  have hpre : Hid (∀ k, k ≤ T.ps.length → allN T k <+: tbAll T) := fun k hk => allN_prefix T hk
  clear hB hx
  refine callsIn_of_wp Try.func74 rfl trivial ?_ rfl
  simp only [Try.ntmps74, List.size_toArray, List.length_cons, List.length_nil, Nat.reduceAdd, Nat.reduceSub, Array.replicate_succ, Array.replicate_zero, List.push_toArray, List.append_toArray, List.nil_append, List.cons_append]
  gi_wp2
  gi_loopw [11] (fun i wr => AllTRel A T (AllTIt bx t T * G) w0 i wr) (fun i _ => T.ps.length - (intOf i).toNat)
  case atStart => exact ⟨0, Nat.zero_le _, rfl, hs, h0⟩
  case round =>
    clear h0 hbx c0
    obtain ⟨k, hk, rfl, hside, hsat⟩ := hrel
    have hB : Sat wr (tableA t T * (pt bx (.cells #[.pointer (some ⟨t, 0, none⟩)] 98 (0, 0)) * (A (allN T k) * G))) := hsat.to (by unfold AllTIt; ac_rfl)
    have hbx := hB.front2.cell 0
    have ha := at_any wr t T (k : Int) _ hB
    by_cases hlt : k < T.ps.length
    · have hlt' : (k : Int) < (T.ps.length : Int) := by omega
      have hsn := allN_succ T k
      have hpk := hpre.out (k + 1) (by omega)
      clear hB
      match hm : told T.ps (k : Int) with
      | none =>
        rw [hm] at ha hsn
        simp only [List.append_nil] at hsn
        have Hsn := hid hsn
        clear hsn hm hpk
        gi_wp2_with fail
        refine callW ha ?_
        rintro e w1 ⟨rfl, rfl⟩
        unfold toldV
        clear ha
        gi_wp2
        refine ⟨fun f hf => (by cases hf), ?_⟩
        gi_wp2
        go_roundw
        case rel => exact ⟨k + 1, by omega, by go_num, hside, by rw [Hsn.out]; exact hsat⟩
        case measure => simp [intOf]; omega
      | some p =>
        rw [hm] at ha hsn
        simp only at hsn
        rw [hsn] at hpk
        have hT2 : Sat wr (A (allN T k) * (pairT ((k : Int), p) #[.int .i64 (k : Int), .int .i64 p] * (AllTIt bx t T * G))) :=
          (Sat.fact_iff.2 ⟨rfl, hsat⟩ : Sat wr (fact _ * _)).to (by unfold pairT; ac_rfl)
        obtain ⟨fn, tmps, assign, body, hy, hR⟩ := hY _ ((k : Int), p) #[.int .i64 (k : Int), .int .i64 p] _ wr hpk hside hT2
        have Hsn := hid hsn; have Hpk := hid hpk
        clear hsn hm hpk hT2 hsat
        gi_wp2_with fail
        refine callW ha ?_
        rintro e w1 ⟨rfl, rfl⟩
        unfold toldV
        clear ha
        gi_wp2
        refine ⟨fun h => (by cases h), hR.mono ?_⟩
        rintro e W' (⟨rfl, hs5, hsat5⟩ | ⟨rfl, hs5, hsat5⟩)
        · gi_wp2
          go_roundw
          case rel => exact ⟨k + 1, by omega, by go_num, hs5, by rw [Hsn.out]; exact hsat5⟩
          case measure => simp [intOf]; omega
        · gi_wp2
          refine bodyPost_ret (results_none rfl _ _ _) rfl ?_
          exact ⟨⟨_, rfl⟩, hs5, .inr ⟨_, Hpk.out, hsat5⟩⟩
    · obtain rfl : k = T.ps.length := by omega
      clear hB ha
      gi_wp2
      go_end0
      exact ⟨⟨_, rfl⟩, hside, .inl ⟨_, rfl, hsat⟩⟩
end Go.Proofs.Ytlfooilcngjeiaa

/- ReplayTells: the law's same, over. ReplayTells: the document's answer: Scan. -/
import Derived.Test.YtlfooilcngjeiaaQo
import Derived.Test.YtlfooilcngjeiaaQs
namespace Go.Proofs.Ytlfooilcngjeiaa
set_option linter.unusedVariables false
set_option linter.unusedSimpArgs false
open Go.RowKit Go.SL
theorem rdI_at9 {w : World} {v : Value} {l : List Int} (h : RdI w v l) (h1 : 1 ≤ l.length) : ∃ g o c, v = .slice (some ⟨g, o, none⟩) l.length c ∧ ∀ k, k < l.length → w.cell? ⟨g, o + k, none⟩ = some (.int .i64 (l.getD k 0)) := by
  rcases h with ⟨_, _, _, h0⟩ | ⟨g, o, c, e, h2, h3, h4⟩
  · rw [h0] at h1; simp at h1
  · exact ⟨g, o, c, e, h4⟩
def Same9Rel (n : Nat) (X : Assn) (w : World) (u : Value) (wr : World) : Prop := ∃ k : Nat, k ≤ n ∧ u = .int .i64 (k : Int) ∧ Sat wr (X * whole w) ∧ Side w wr
set_option maxRecDepth 100000 in
set_option maxHeartbeats 4000000 in
theorem same9_any (w : World) (s : Js) (v v2 : Value) (hv : RdI w v s.at_) (hv2 : RdI w v2 s.at_) (h1 : 1 ≤ s.at_.length) (h2 : s.at_.length ≤ 1000000) :
    Calls Try.prog 35 #[s.v v, s.v v2] w (RightQ true w) := by
  obtain ⟨g, o, c, rfl, hc⟩ := rdI_at9 hv h1
  obtain ⟨g2, o2, c', rfl, hc2⟩ := rdI_at9 hv2 h1
  obtain ⟨n, hn⟩ : ∃ n, n = s.at_.length := ⟨_, rfl⟩
  rw [← hn] at hc hc2 h1 h2 ⊢
  unfold Js.v
  have H1 := ((Sat.whole w).alloc (.cells #[.int .u32 s.ep, .int .u64 s.st, .int .u64 s.sq, .int .i64 s.hd, .int .i64 s.us, .slice (some ⟨g, o, none⟩) n c] 26 (0, 0))).alloc (.cells #[.int .u32 s.ep, .int .u64 s.st, .int .u64 s.sq, .int .i64 s.hd, .int .i64 s.us, .slice (some ⟨g2, o2, none⟩) n c'] 84 (0, 0))
  have D1 := ((Side.refl w).alloc (.cells #[.int .u32 s.ep, .int .u64 s.st, .int .u64 s.sq, .int .i64 s.hd, .int .i64 s.us, .slice (some ⟨g, o, none⟩) n c] 26 (0, 0))).alloc (.cells #[.int .u32 s.ep, .int .u64 s.st, .int .u64 s.sq, .int .i64 s.hd, .int .i64 s.us, .slice (some ⟨g2, o2, none⟩) n c'] 84 (0, 0))
  rw [World.size_alloc] at H1
  have Hn := SL.hid hn
  have hnm : (n : Int) ≤ 1000000 := by omega
  clear hn hv hv2
  go_enter Try.func35, Try.ntmps35
  go_wp2_with fail
  generalize (w.alloc (.cells #[.int .u32 s.ep, .int .u64 s.st, .int .u64 s.sq, .int .i64 s.hd, .int .i64 s.us, .slice (some ⟨g, o, none⟩) n c] 26 (0, 0))).alloc (.cells #[.int .u32 s.ep, .int .u64 s.st, .int .u64 s.sq, .int .i64 s.hd, .int .i64 s.us, .slice (some ⟨g2, o2, none⟩) n c'] 84 (0, 0)) = w1 at H1 D1 ⊢
  generalize w.heap.size + 1 = by' at H1 ⊢
  generalize w.heap.size = bx at H1 ⊢
  obtain ⟨X, hX⟩ : ∃ X, X = pt bx (.cells #[.int .u32 s.ep, .int .u64 s.st, .int .u64 s.sq, .int .i64 s.hd, .int .i64 s.us, .slice (some ⟨g, o, none⟩) n c] 26 (0, 0)) * pt by' (.cells #[.int .u32 s.ep, .int .u64 s.st, .int .u64 s.sq, .int .i64 s.hd, .int .i64 s.us, .slice (some ⟨g2, o2, none⟩) n c'] 84 (0, 0)) := ⟨_, rfl⟩
  have H2 : Sat w1 (X * whole w) := H1.to (by rw [hX]; ac_rfl)
  have hall : ∀ w', Sat w' (X * whole w) → w'.cell? ⟨bx, 5, none⟩ = some (.slice (some ⟨g, o, none⟩) n c) ∧ w'.cell? ⟨by', 5, none⟩ = some (.slice (some ⟨g2, o2, none⟩) n c') ∧
      ∀ k, k < n → w'.cell? ⟨g, o + k, none⟩ = some (.int .i64 (s.at_.getD k 0)) ∧ w'.cell? ⟨g2, o2 + k, none⟩ = some (.int .i64 (s.at_.getD k 0)) := fun w' h => by
    have h' : Sat w' (pt bx (.cells #[.int .u32 s.ep, .int .u64 s.st, .int .u64 s.sq, .int .i64 s.hd, .int .i64 s.us, .slice (some ⟨g, o, none⟩) n c] 26 (0, 0)) * (pt by' (.cells #[.int .u32 s.ep, .int .u64 s.st, .int .u64 s.sq, .int .i64 s.hd, .int .i64 s.us, .slice (some ⟨g2, o2, none⟩) n c'] 84 (0, 0)) * whole w)) := h.to (by rw [hX]; ac_rfl)
    exact ⟨h'.cell 5, h'.front2.cell 5, fun k hk => ⟨h.cellOld (hc k hk), h.cellOld (hc2 k hk)⟩⟩
  have Hall := SL.hid hall
  clear hall hX H1 hc hc2
  go_loopw [5] (fun u wr => Same9Rel n X w u wr) (fun u _ => n - (intOf u).toNat)
  case atStart => exact ⟨0, Nat.zero_le _, rfl, H2, D1⟩
  case round =>
    clear H2 D1
    obtain ⟨k, hk, rfl, hsat, hside⟩ := hrel
    obtain ⟨x5, y5, hkk⟩ := Hall.out wr hsat
    have Hs := SL.hid hsat; have Hd := SL.hid hside
    by_cases hlt : k < n
    · have hlt' : (k : Int) < (n : Int) := by omega
      obtain ⟨z1, z2⟩ := hkk k hlt
      generalize s.at_.getD k 0 = q at z1 z2
      clear hkk hsat hside
      go_wp2_with fail
      go_quiet (fail)
      go_wp2
      go_roundw
      case rel => exact ⟨k + 1, by omega, by go_num, satDrewN Hs.out nq, side_drewN Hd.out nq⟩
      case measure => simp [intOf]; omega
    · obtain rfl : k = n := by omega
      clear hkk hsat hside
      go_wp2
      go_ret
      exact ⟨rfl, Hs.out.right, Hd.out⟩
/-- No two blocks at one place, ahead of the i-th. -/
def NoOver (l : List Int) (i : Nat) : Prop := ∀ j, j < i → ¬ (0 ≤ l.getD j 0 ∧ l.getD j 0 ∈ l.take j)
def OvRel (l : List Int) (X : Assn) (w : World) (u : Value) (wr : World) : Prop := ∃ i : Nat, i ≤ l.length ∧ u = .int .i64 (i : Int) ∧ NoOver l i ∧ Sat wr (X * whole w) ∧ Side w wr
def OvRel2 (l : List Int) (i : Nat) (X : Assn) (w : World) (u : Value) (wr : World) : Prop := ∃ k : Nat, k ≤ i ∧ u = .int .i64 (k : Int) ∧ (∀ j, j < k → ¬ (0 ≤ l.getD i 0 ∧ l.getD i 0 = l.getD j 0)) ∧ Sat wr (X * whole w) ∧ Side w wr
theorem take_mem {l : List Int} {i : Nat} {x : Int} (hi : i ≤ l.length) : x ∈ l.take i ↔ ∃ j, j < i ∧ l.getD j 0 = x := by
  rw [List.mem_take_iff_getElem]
  constructor
  · rintro ⟨j, hj, e⟩
    exact ⟨j, by omega, by rw [List.getD, List.getElem?_eq_getElem (by omega : j < l.length), Option.getD_some, e]⟩
  · rintro ⟨j, hj, e⟩
    exact ⟨j, by omega, by rw [List.getD, List.getElem?_eq_getElem (by omega : j < l.length), Option.getD_some] at e; exact e⟩
set_option maxRecDepth 100000 in
set_option maxHeartbeats 4000000 in
theorem over_any (w : World) (s : Js) (v : Value) (hv : RdI w v s.at_) (h1 : 1 ≤ s.at_.length) (h2 : s.at_.length ≤ 1000000) (B : Bool) (hB : B = true ↔ OverP s.at_) :
    Calls Try.prog 36 #[s.v v] w (RightQ B w) := by
  obtain ⟨g, o, c, rfl, hc⟩ := rdI_at9 hv h1
  obtain ⟨ep, st, sq, hd, us, l⟩ := s
  unfold Js.v
  dsimp only at *
  have H1 := (Sat.whole w).alloc (.cells #[.int .u32 ep, .int .u64 st, .int .u64 sq, .int .i64 hd, .int .i64 us, .slice (some ⟨g, o, none⟩) l.length c] 26 (0, 0))
  have D1 := (Side.refl w).alloc (.cells #[.int .u32 ep, .int .u64 st, .int .u64 sq, .int .i64 hd, .int .i64 us, .slice (some ⟨g, o, none⟩) l.length c] 26 (0, 0))
  have hnm : (l.length : Int) ≤ 1000000 := by omega
  have HB := SL.hid hB
  clear hB hv
  go_enter Try.func36, Try.ntmps36
  go_wp2_with fail
  generalize w.alloc (.cells #[.int .u32 ep, .int .u64 st, .int .u64 sq, .int .i64 hd, .int .i64 us, .slice (some ⟨g, o, none⟩) l.length c] 26 (0, 0)) = w1 at H1 D1 ⊢
  generalize w.heap.size = bx at H1 ⊢
  obtain ⟨X, hX⟩ : ∃ X, X = pt bx (.cells #[.int .u32 ep, .int .u64 st, .int .u64 sq, .int .i64 hd, .int .i64 us, .slice (some ⟨g, o, none⟩) l.length c] 26 (0, 0)) := ⟨_, rfl⟩
  rw [← hX] at H1
  have hall : ∀ w', Sat w' (X * whole w) → w'.cell? ⟨bx, 5, none⟩ = some (.slice (some ⟨g, o, none⟩) l.length c) ∧ ∀ k, k < l.length → w'.cell? ⟨g, o + k, none⟩ = some (.int .i64 (l.getD k 0)) := fun w' h => by
    have h' := h
    rw [hX] at h'
    exact ⟨h'.cell 5, fun k hk => h.cellOld (hc k hk)⟩
  have Hall := SL.hid hall
  clear hall hX hc
  go_loopw [3] (fun u wr => OvRel l X w u wr) (fun u _ => l.length - (intOf u).toNat)
  case atStart => exact ⟨0, Nat.zero_le _, rfl, fun j hj => absurd hj (Nat.not_lt_zero _), H1, D1⟩
  case round =>
    clear H1 D1
    obtain ⟨i, hi, rfl, hno, hsat, hside⟩ := hrel
    obtain ⟨x5, hkk⟩ := Hall.out wr hsat
    have Hno := SL.hid hno
    have Hs := SL.hid hsat; have Hd := SL.hid hside
    clear hno hsat hside
    by_cases hlt : i < l.length
    · have hlt' : (i : Int) < (l.length : Int) := by omega
      have him : (i : Int) ≤ 1000000 := by omega
      clear hkk
      go_wp2_with fail
      go_loopw [4] (fun u wr => OvRel2 l i X w u wr) (fun u _ => i - (intOf u).toNat)
      case atStart => exact ⟨0, Nat.zero_le _, rfl, fun j hj => absurd hj (Nat.not_lt_zero _), Hs.out, Hd.out⟩
      case round =>
        clear Hs Hd x5
        obtain ⟨k, hk, rfl, hq, hsat, hside⟩ := hrel
        obtain ⟨x5, hkk⟩ := Hall.out wr hsat
        have Hq := SL.hid hq
        have Hs := SL.hid hsat; have Hd := SL.hid hside
        clear hq hsat hside
        by_cases hki : k < i
        · have hki' : (k : Int) < (i : Int) := by omega
          have hkl : (k : Int) < (l.length : Int) := by omega
          have z1 := hkk i hlt
          have z2 := hkk k (by omega)
          have hyes : 0 ≤ l.getD i 0 → l.getD i 0 = l.getD k 0 → B = true := fun h0 h1 => HB.out.2 ⟨i, hlt, h0, (take_mem (by omega)).2 ⟨k, hki, h1.symm⟩⟩
          have hgo : ¬ (0 ≤ l.getD i 0 ∧ l.getD i 0 = l.getD k 0) → ∀ j, j < k + 1 → ¬ (0 ≤ l.getD i 0 ∧ l.getD i 0 = l.getD j 0) := fun h j hj => by
            rcases Nat.lt_or_eq_of_le (Nat.le_of_lt_succ hj) with h9 | h9
            · exact Hq.out j h9
            · rw [h9]; exact h
          have Hyes := SL.hid hyes; have Hgo := SL.hid hgo
          clear hkk hyes hgo
          obtain ⟨p, hp⟩ : ∃ p, p = l.getD i 0 := ⟨_, rfl⟩
          obtain ⟨q, hq⟩ : ∃ q, q = l.getD k 0 := ⟨_, rfl⟩
          rw [← hp] at z1
          rw [← hq] at z2
          have Hp := SL.hid hp; have HQ := SL.hid hq
          clear hp hq
          go_wp2_with fail
          by_cases h0 : 0 ≤ p
          · by_cases he : p = q
            · have hb : B = true := Hyes.out (by rw [← Hp.out]; exact h0) (by rw [← Hp.out, ← HQ.out]; exact he)
              subst hb
              subst he
              go_quiet (fail)
              go_wp2
              go_ret
              exact ⟨rfl, (satDrewN Hs.out nq).right, side_drewN Hd.out nq⟩
            · have hg := Hgo.out (by rw [← Hp.out, ← HQ.out]; exact fun h => he h.2)
              have Hg := SL.hid hg
              have heb : (p == q) = false := by simpa using he
              clear hg
              go_quiet (fail)
              go_wp2
              go_roundw
              case rel => exact ⟨k + 1, by omega, by go_num, Hg.out, satDrewN Hs.out nq, side_drewN Hd.out nq⟩
              case measure => simp [intOf]; omega
          · have hg := Hgo.out (by rw [← Hp.out]; exact fun h => h0 h.1)
            have Hg := SL.hid hg
            have hd1 : decide (0 ≤ p) = false := decide_eq_false h0
            clear hg
            go_quiet (fail)
            go_wp2
            go_roundw
            case rel => exact ⟨k + 1, by omega, by go_num, Hg.out, satDrewN Hs.out nq, side_drewN Hd.out nq⟩
            case measure => simp [intOf]; omega
        · obtain rfl : k = i := by omega
          have hnext : NoOver l (k + 1) := fun j hj => by
            rcases Nat.lt_or_eq_of_le (Nat.le_of_lt_succ hj) with h9 | h9
            · exact Hno.out j h9
            · subst h9
              rintro ⟨h0, hm⟩
              obtain ⟨j', hj', e⟩ := (take_mem (by omega)).1 hm
              exact Hq.out j' hj' ⟨h0, e.symm⟩
          have Hnext := SL.hid hnext
          clear hnext hkk
          go_wp2_with fail
          go_roundw
          case rel => exact ⟨k + 1, by omega, by go_num, Hnext.out, Hs.out, Hd.out⟩
          case measure => simp [intOf]; omega
    · obtain rfl : i = l.length := by omega
      have hb : B = false := by
        cases hb : B with
        | false => rfl
        | true =>
          obtain ⟨j, hj, h⟩ := HB.out.1 hb
          exact absurd h (Hno.out j hj)
      subst hb
      clear hkk
      go_wp2
      go_ret
      exact ⟨rfl, Hs.out.right, Hd.out⟩
end Go.Proofs.Ytlfooilcngjeiaa
namespace Go.Proofs.Ytlfooilcngjeiaa
set_option linter.unusedVariables false
set_option linter.unusedSimpArgs false
open Go.RowKit Go.SL
theorem info_refFound : (Try.prog.info? 83).map (fun i => (i.zero, i.size, i.bytes)) = some (some (.agg #[.int .i64 0, .int .u32 0, .int .u64 0, .int .u64 0, .int .u64 0, .int .i64 0, .int .i64 0, .int .i64 0]), 8, 64) := by kernel_rfl
theorem append_ref {w : World} {v : Value} {L : List Fnd} {F : Assn} (h : Sat w (sl 83 8 v L.length (flatR L) * F)) (x : Fnd) (hl : L.length ≤ 1000000) :
    ∃ a c w', (Builtin.append_ #[81, 81] 81 #[v, .slice (some ⟨w.heap.size, 0, none⟩) 1 1]).run Try.prog (w.alloc (.cells (frC x) 83 (0, 0))) = .ok (.slice a (L.length + 1) c) w' ∧
      Sat w' (sl 83 8 (.slice a (L.length + 1) c) (L ++ [x]).length (flatR (L ++ [x])) * F) ∧ Side w w' := by
  obtain ⟨i0, hi, hz, hs0, hb0⟩ := info_parts info_refFound
  have hA := h.alloc (.cells (frC x) 83 (0, 0))
  have hR : Rds (w.alloc (.cells (frC x) 83 (0, 0))) 8 (.slice (some ⟨w.heap.size, 0, none⟩) 1 1) 1 (frC x).toList :=
    ⟨rfl, .inr ⟨_, _, rfl, fun j u hu => by
      rw [Addr.add_lit, Nat.zero_add]
      exact (hA.cell j).trans (by simpa using hu)⟩⟩
  obtain ⟨v', w', hrun, hsat', hside'⟩ := Sat.append (P := Try.prog) (ty := 81) Try.underlying81 hi hz hs0 hb0 rfl hA.right hR (by simp [frC, Value.oneCell']) (by unfold maxLen; omega) (by omega)
  obtain ⟨a, c, rfl⟩ := sl_shape hsat'
  exact ⟨a, c, w', hrun, by rw [flatR_snoc, List.length_append, List.length_singleton]; exact hsat', ((Side.refl w).alloc _).trans hside'⟩
theorem append_int9 {w : World} {v : Value} {n : Nat} {xs : List Value} {F : Assn} (h : Sat w (sl 3 1 v n xs * F)) (x : Int) (hl : n ≤ 1000000) :
    ∃ a c w', (Builtin.append_ #[24, 24] 24 #[v, .slice (some ⟨w.heap.size, 0, none⟩) 1 1]).run Try.prog (w.alloc (.cells #[.int .i64 x] 3 (0, 0))) = .ok (.slice a (n + 1) c) w' ∧
      Sat w' (sl 3 1 (.slice a (n + 1) c) (n + 1) (xs ++ [.int .i64 x]) * F) ∧ Side w w' := by
  obtain ⟨i0, hi, hz, hs0, hb0⟩ := info_parts info_int
  have hA := h.alloc (.cells #[.int .i64 x] 3 (0, 0))
  have hR : Rds (w.alloc (.cells #[.int .i64 x] 3 (0, 0))) 1 (.slice (some ⟨w.heap.size, 0, none⟩) 1 1) 1 [.int .i64 x] :=
    ⟨rfl, .inr ⟨_, _, rfl, fun j u hu => by
      rw [Addr.add_lit, Nat.zero_add]
      exact (hA.cell j).trans (by simpa using hu)⟩⟩
  obtain ⟨v', w', hrun, hsat', hside'⟩ := Sat.append (P := Try.prog) (ty := 24) Try.underlying24 hi hz hs0 hb0 rfl hA.right hR (by simp [Value.oneCell']) (by unfold maxLen; omega) (by omega)
  obtain ⟨a, c, rfl⟩ := sl_shape hsat'
  exact ⟨a, c, w', hrun, hsat', ((Side.refl w).alloc _).trans hside'⟩
theorem at_enters : ∀ args w, (callFunc 67 args).run Try.prog w = .ok (.enter 67 args) w := enters Try.func67 (by kernel_rfl) rfl
theorem rscan_results {tmps : Array Value} {w : World} {z : Nat} {v : Value} {F : Assn} {c0 c1 c2 c3 c4 c5 : Value} (h6 : tmps[6]? = some (ptV z)) (h7 : tmps[7]? = some v) (h : Sat w (pt z (.cells #[c0, c1, c2, c3, c4, c5] 84 (0, 0)) * F)) :
    (results Try.f34 tmps).run Try.prog w = .ok (.tuple #[.agg #[c0, c1, c2, c3, c4, c5], v]) w := by
  have hz : ∀ o, w.cell? ⟨z, o, none⟩ = #[c0, c1, c2, c3, c4, c5][o]? := fun o => h.cell o
  have z0 := hz 0; have z1 := hz 1; have z2 := hz 2; have z3 := hz 3; have z4 := hz 4; have z5 := hz 5
  clear hz h
  simp only [List.getElem?_toArray, List.getElem?_cons_zero, List.getElem?_cons_succ] at z0 z1 z2 z3 z4 z5
  simp [results, Try.results34, go_sem, h6, h7, z0, z1, z2, z3, z4, z5]
theorem info_rstate0 : (Try.prog.info? 84).map (·.size) = some 6 := by kernel_rfl
theorem rst_six (n0 n1 n2 n3 n4 : Int) (a : Option Addr) (n c : Nat) : (Try.prog.info? 84).map (·.size) = some (#[.int .u32 n0, .int .u64 n1, .int .u64 n2, .int .i64 n3, .int .i64 n4, .slice a n c] : Array Value).size := info_rstate0
theorem slNone {w : World} {F : Assn} (h : Sat w F) (T : TypeId) (sz : Nat) : Sat (w.alloc (.cells #[] T (0, 0))) (sl T sz (.slice (some ⟨w.heap.size, 0, none⟩) 0 0) 0 [] * F) :=
  (h.alloc (.cells #[] T (0, 0))).weak fun k hk => .inr ⟨_, 0, #[], rfl, Nat.le_refl _, Nat.zero_le _, by simp, by simp, hk⟩
abbrev rsC (n0 n1 n2 n3 n4 : Int) (v : Value) : Obj := .cells #[.int .u32 n0, .int .u64 n1, .int .u64 n2, .int .i64 n3, .int .i64 n4, v] 84 (0, 0)
def freshP (L : List Fnd) (x : Fnd) : Bool := !staleB L x.1
def RsRel (L : List Fnd) (X : Assn) (w : World) (u8 u9 u10 u11 : Value) (wr : World) : Prop :=
  ∃ (k : Nat) (f e : Int), k ≤ L.length ∧ u11 = .int .i64 (k : Int) ∧ u8 = .int .u64 f ∧ u9 = .int .u32 e ∧ (L.take k).foldl (fun m x => max m x.1.fl) 0 = f ∧ (L.take k).foldl (fun m x => max m x.1.ep) 0 = e ∧
    Sat wr (sl 83 8 u10 ((L.take k).filter (freshP L)).length (flatR ((L.take k).filter (freshP L))) * X) ∧ Side w wr
theorem filter_take {α : Type} (p : α → Bool) (L : List α) {k : Nat} (h : k < L.length) : (L.take (k + 1)).filter p = if p L[k] = true then (L.take k).filter p ++ [L[k]] else (L.take k).filter p := by
  have e : L.take (k + 1) = L.take k ++ [L[k]] := by rw [List.take_add_one, List.getElem?_eq_getElem h]; rfl
  rw [e, List.filter_append]
  split
  · rename_i h; rw [List.filter_cons_of_pos h]; rfl
  · rename_i h; rw [List.filter_cons_of_neg h, List.filter_nil, List.append_nil]
def RsRel2 (FL : List Fnd) (sq : Int) (B s13 : Nat) (q : Int) (Y : Assn) (w : World) (u15 : Value) (wr : World) : Prop :=
  ∃ (k : Nat) (v : Value), k ≤ B ∧ u15 = .int .i64 (k : Int) ∧ Sat wr (pt s13 (rsC q (sq + 1) sq 0 0 v) * (sl 3 1 v k (i64v ((List.range k).map fun i : Nat => atR FL (i : Int) sq)) * Y)) ∧ Side w wr
theorem i64v_succ (f : Nat → Int) (k : Nat) : i64v ((List.range (k + 1)).map f) = i64v ((List.range k).map f) ++ [.int .i64 (f k)] := by simp [i64v, List.range_succ]
set_option maxRecDepth 100000 in
set_option maxHeartbeats 4000000 in
theorem refScan_any (w : World) (v : Value) (L : List Fnd) (P B : Nat) (h : RdR w v L) (hfd : ∀ x ∈ L, FndOk (B : Int) P x) (hl : L.length ≤ 1000) (hP0 : 0 < P) (hP : P ≤ 1000) (hB : B ≤ 1000) (Q : Ending → World → Prop)
    (hN : scanSt L P B = none → ∀ w', Sat w' (whole w) → Side w w' → Q (.returned (.tuple #[noSt, .bool false])) w')
    (hS : ∀ s, scanSt L P B = some s → ∀ w' v, Sat w' (sl 3 1 v s.at_.length (i64v s.at_) * whole w) → Side w w' → Q (.returned (.tuple #[s.v v, .bool true])) w') :
    Calls Try.prog 34 #[v, .int .i64 (P : Int), .int .i64 (B : Int)] w Q := by
  have hln : (L.length : Int) ≤ 1000 := by omega
  have hBm : (B : Int) ≤ 1000 := by omega
  have H0 := SL.hid h
  have Hfd := SL.hid hfd; have HN := SL.hid hN; have HS := SL.hid hS
  have HP := SL.hid (show 0 < P ∧ P ≤ 1000 by omega)
  obtain ⟨a, c, rfl⟩ := h.shape
  clear h hfd hN hS hP0 hP
  have hA := (Sat.whole w).alloc (rsC 0 0 0 0 0 (.slice none 0 0))
  have hs := (Side.refl w).alloc (rsC 0 0 0 0 0 (.slice none 0 0))
  go_enter Try.func34, Try.ntmps34
  go_wp2_with fail
  have H1 := (slNone hA 83 8)
  have D1 := hs.alloc (.cells #[] 83 (0, 0))
  rw [World.size_alloc] at H1
  generalize (w.alloc (rsC 0 0 0 0 0 (.slice none 0 0))).alloc (.cells #[] 83 (0, 0)) = w1 at H1 D1 ⊢
  clear hA hs
  generalize w.heap.size + 1 = sb at H1 ⊢
  generalize w.heap.size = z at H1 ⊢
  obtain ⟨X, hX⟩ : ∃ X, X = pt z (rsC 0 0 0 0 0 (.slice none 0 0)) * whole w := ⟨_, rfl⟩
  rw [← hX] at H1
  have HX := SL.hid hX
  clear hX
  go_loopw [8, 9, 10, 11] (fun u8 u9 u10 u11 wr => RsRel L X w u8 u9 u10 u11 wr) (fun _ _ _ u _ => L.length - (intOf u).toNat)
  case atStart => exact ⟨0, 0, 0, Nat.zero_le _, rfl, rfl, rfl, rfl, rfl, H1, D1⟩
  case round =>
    clear H1 D1
    obtain ⟨k, f, e, hk, rfl, rfl, rfl, hf, he, hsat, hside⟩ := hrel
    obtain ⟨va, vc, rfl⟩ := sl_shape hsat
    have hR : RdR wr (.slice a L.length c) L := H0.out.keep ((hsat.to (by rw [HX.out]; ac_rfl) : Sat wr ((sl 83 8 (.slice va _ vc) _ _ * pt z (rsC 0 0 0 0 0 (.slice none 0 0))) * whole w)))
    have hfl : ((L.take k).filter (freshP L)).length ≤ 1000 := Nat.le_trans (List.length_filter_le _ _) (by simp; omega)
    by_cases hlt : k < L.length
    · have hlt' : (k : Int) < (L.length : Int) := by omega
      obtain ⟨g, off, c', hv, t, p, ht, c0, c1, c2, c3, c4, c5, c6, c7⟩ := fnr_cells hR hlt
      cases hv
      have hf2 := foldl_take (fun m (x : Fnd) => max m x.1.fl) 0 L hlt
      have he2 := foldl_take (fun m (x : Fnd) => max m x.1.ep) 0 L hlt
      have hft := filter_take (freshP L) L hlt
      have hstale := staleRef_any wr (.slice (some ⟨g, off, none⟩) L.length c) L t hR (by omega)
      rw [hf, ht] at hf2
      rw [he, ht] at he2
      rw [ht] at hft
      have hfp : freshP L (t, p) = !staleB L t := rfl
      rw [hfp] at hft
      have Hf := SL.hid hf2; have He := SL.hid he2; have Hft := SL.hid hft
      have Hsat := SL.hid hsat; have Hside := SL.hid hside
      generalize staleB L t = b at hstale Hft
      clear hf he hf2 he2 ht hR hft hfp hsat hside
      cases b with
      | true =>
        go_wp2_with (go_at_call 65; (with_reducible refine hstale.mono ?_); rintro e w2 ⟨rfl, h2, d2⟩)
        have H2 := SL.hid (h2.keepW Hsat.out)
        have D2 := SL.hid (Hside.out.trans d2)
        clear h2 d2 hstale
        all_goals
          go_roundw
          case rel => exact ⟨k + 1, max f t.fl, max e t.ep, by omega, by go_num, by first | rfl | (congr 1; omega), by first | rfl | (congr 1; omega), Hf.out, He.out, by rw [Hft.out]; exact H2.out, D2.out⟩
          case measure => simp [intOf]; omega
      | false =>
        generalize (L.take k).filter (freshP L) = FK at Hsat Hft hfl ⊢
        go_wp2_with fail
        (with_reducible refine hstale.mono ?_)
        rintro e2 w2 ⟨rfl, h2, d2⟩
        have h2' : Sat w2 (emp * whole wr) := h2.to (emp_star _).symm
        replace c0 := h2'.cellOld c0
        replace c1 := h2'.cellOld c1
        replace c2 := h2'.cellOld c2
        replace c3 := h2'.cellOld c3
        replace c4 := h2'.cellOld c4
        replace c5 := h2'.cellOld c5
        replace c6 := h2'.cellOld c6
        replace c7 := h2'.cellOld c7
        have H2 := h2.keepW Hsat.out
        obtain ⟨xa, xc, w4, hrun, h6, d6⟩ := append_ref H2 (t, p) (by omega)
        unfold frC at hrun
        dsimp only at hrun
        have Hrun := SL.hid hrun
        have H6 := SL.hid h6
        have D6 := SL.hid ((Hside.out.trans d2).trans d6)
        have e3 : (if (!false) = true then FK ++ [(t, p)] else FK) = FK ++ [(t, p)] := rfl
        have Hft2 := SL.hid (Hft.out.trans e3)
        clear h2 h2' d2 hstale H2 hrun h6 d6 Hsat Hside Hft e3
        go_wp2_with (at_builtin; refine wpList_append_run Hrun.out _ _ rfl rfl rfl rfl rfl ?_)
        all_goals
          go_roundw
          case rel => exact ⟨k + 1, max f t.fl, max e t.ep, by omega, by go_num, by first | rfl | (congr 1; omega), by first | rfl | (congr 1; omega), Hf.out, He.out, by rw [Hft2.out]; exact H6.out, D6.out⟩
          case measure => simp [intOf]; omega
    · obtain rfl : k = L.length := by omega
      rw [List.take_length] at hf he hsat hfl ⊢
      have hFL : L.filter (freshP L) = freshL L := (freshL_eq L (fun x hx => by have := ok_range (Hfd.out x hx).ok; unfold u64max; omega)).symm
      rw [hFL] at hsat hfl ⊢
      have hfI : flrI L = f := hf
      have heI : epoI L = e := he
      have bf := flr_range Hfd.out
      have be := epo_range Hfd.out
      rw [hfI] at bf
      rw [heI] at be
      obtain ⟨bf0, bf1⟩ := bf
      obtain ⟨be0, be1⟩ := be
      have hmem : ∀ x ∈ freshL L, FndOk (B : Int) P x := fun x hx => Hfd.out x (List.mem_filter.1 hx).1
      have hsqI : sqI L = if wholeR (freshL L) (f + 1) = true then f + 1 else f := by unfold sqI; rw [hfI, whole_eq _ _ (fun x hx => (hmem x hx).ok)]
      have hscan : scanSt L P B = if e = 4294967295 ∨ 281474976710655 ≤ sqI L then none else some ⟨e + 1, sqI L + 1, sqI L, headI (freshL L) (sqI L) P, usedI (whereL (freshL L) (sqI L) B) (headI (freshL L) (sqI L) P) P, whereL (freshL L) (sqI L) B⟩ := by unfold scanSt; rw [heI]
      have HfI := SL.hid hfI; have HeI := SL.hid heI; have Hmem := SL.hid hmem; have Hsq := SL.hid hsqI; have Hscan := SL.hid hscan
      clear hf he hfI heI hmem hsqI hscan hFL hR
      generalize freshL L = FL at *
      generalize sqI L = sq at *
      have hq0 : 0 ≤ IntKind.u32.wrap (e + 1) ∧ (IntKind.u32.wrap (e + 1) = 0 ↔ e = 4294967295) ∧ (e ≠ 4294967295 → IntKind.u32.wrap (e + 1) = e + 1) := by rw [IntKind.wrap_u32]; omega
      obtain ⟨q, hq⟩ : ∃ q, IntKind.u32.wrap (e + 1) = q := ⟨_, rfl⟩
      rw [hq] at hq0
      have Hq0 := SL.hid hq0
      clear hq0
      have Hsat := SL.hid hsat; have Hside := SL.hid hside
      have H2 := hsat.alloc (rsC q 0 f 0 0 (.slice none 0 0))
      have D2 := hside.alloc (rsC q 0 f 0 0 (.slice none 0 0))
      clear hsat hside
      go_wp2_with fail
      generalize wr.alloc (.cells #[.int .u32 q, .int .u64 0, .int .u64 f, .int .i64 0, .int .i64 0, .slice none 0 0] 84 (0, 0)) = w2 at H2 D2 ⊢
      generalize wr.heap.size = s13 at H2 ⊢
      have hwh := wholeRef_any w2 (.slice va FL.length vc) FL (f + 1) H2.front2.rds (fun x hx => (Hmem.out x hx).ok) (by omega)
      generalize wholeR FL (f + 1) = wb at hwh Hsq
      (with_reducible refine hwh.mono ?_)
      rintro e3 w3 ⟨rfl, rfl⟩
      obtain ⟨Y, hY⟩ : ∃ Y, Y = sl 83 8 (.slice va FL.length vc) FL.length (flatR FL) * X := ⟨_, rfl⟩
      rw [← hY] at H2
      have HY := SL.hid hY
      clear hwh hY
      have c2 : w2.cell? ⟨s13, 2, none⟩ = some (.int .u64 f) := H2.cell 2
      have f2 : w2.frozen? ⟨s13, 2, none⟩ = false := H2.frozen 2
      go_upto_if 63 with fail
      go_cut [] from 64 to 66 (fun wx => Sat wx (pt s13 (rsC q 0 sq 0 0 (.slice none 0 0)) * Y) ∧ Side w wx)
      case first =>
        cases wb with
        | true =>
          have hsq : sq = f + 1 := Hsq.out
          subst hsq
          have H3 := H2.setCell 2 (.int .u64 (f + 1))
          have D3 := D2.setCell ⟨s13, 2, none⟩ (.int .u64 (f + 1))
          simp only [List.setIfInBounds_toArray, List.set_cons_succ, List.set_cons_zero] at H3
          have Hs3 := SL.hid H3
          clear H2 D2 H3
          go_wp2_with fail
          go_meet
          exact ⟨Hs3.out, D3⟩
        | false =>
          have hsq : sq = f := Hsq.out
          rw [← hsq] at H2
          have Hs3 := SL.hid H2
          clear H2 hsq c2 f2
          go_wp2_with fail
          go_meet
          exact ⟨Hs3.out, D2⟩
      case rest =>
        clear H2 D2 c2 f2
        obtain ⟨hsat, hside⟩ := hcut
        have hsqb : 0 ≤ sq ∧ sq ≤ 281474976710655 := by have := Hsq.out; split at this <;> omega
        clear Hsq
        have c0 : wc.cell? ⟨s13, 0, none⟩ = some (.int .u32 q) := hsat.cell 0
        have c2 : wc.cell? ⟨s13, 2, none⟩ = some (.int .u64 sq) := hsat.cell 2
        have c1 : wc.cell? ⟨s13, 1, none⟩ = some (.int .u64 0) := hsat.cell 1
        have f1 : wc.frozen? ⟨s13, 1, none⟩ = false := hsat.frozen 1
        have hz : wc.heap[z]? = some (rsC 0 0 0 0 0 (.slice none 0 0)) := by
          have h := hsat
          rw [HY.out, HX.out] at h
          exact h.front3.heap
        have Hs := SL.hid hsat; have Hd := SL.hid hside
        clear hsat hside
        by_cases hno : e = 4294967295 ∨ 281474976710655 ≤ sq
        · have hnone : scanSt L P B = none := by rw [Hscan.out, if_pos hno]
          have Hfin := SL.hid (HN.out hnone)
          have H8 : Sat (wc.setRow z #[.int .u32 0, .int .u64 0, .int .u64 0, .int .i64 0, .int .i64 0, .slice none 0 0]) (pt z (rsC 0 0 0 0 0 (.slice none 0 0)) * whole w) := by
            have h := Hs.out
            rw [HY.out, HX.out] at h
            have h4 := h.front3.setRow (cs' := #[.int .u32 0, .int .u64 0, .int .u64 0, .int .i64 0, .int .i64 0, .slice none 0 0])
            exact (h4.to (by ac_rfl : _ = (pt s13 (rsC q 0 sq 0 0 (.slice none 0 0)) * sl 83 8 (.slice va FL.length vc) FL.length (flatR FL)) * (pt z (rsC 0 0 0 0 0 (.slice none 0 0)) * whole w))).right
          have HH8 := SL.hid H8
          have hq2 := Hq0.out
          clear H8
          by_cases hq : q = 0
          · subst hq
            clear hno hq2
            go_wp2_with (refine wpList_store_row rfl 84 (.tmp 6) (.tmp 75) rfl z #[.int .u32 0, .int .u64 0, .int .u64 0, .int .i64 0, .int .i64 0, .slice none 0 0] rfl rfl 84 #[.int .u32 0, .int .u64 0, .int .u64 0, .int .i64 0, .int .i64 0, .slice none 0 0] hz (rst_six _ _ _ _ _ _ _ _) rfl st_one0 ?_)
            exact bodyPost_ret (rscan_results rfl rfl HH8.out) rfl (Hfin.out _ HH8.out.right (Hd.out.setRow _ _))
          · have hqb : (q == 0) = false := by simpa using hq
            have hsq9 : 281474976710655 ≤ sq := by omega
            clear hno hq2
            go_wp2_with (refine wpList_store_row rfl 84 (.tmp 6) (.tmp 75) rfl z #[.int .u32 0, .int .u64 0, .int .u64 0, .int .i64 0, .int .i64 0, .slice none 0 0] rfl rfl 84 #[.int .u32 0, .int .u64 0, .int .u64 0, .int .i64 0, .int .i64 0, .slice none 0 0] hz (rst_six _ _ _ _ _ _ _ _) rfl st_one0 ?_)
            exact bodyPost_ret (rscan_results rfl rfl HH8.out) rfl (Hfin.out _ HH8.out.right (Hd.out.setRow _ _))
        · have hsome := Hscan.out
          rw [if_neg hno] at hsome
          have hfm : ∀ x ∈ FL, 0 ≤ x.1.id ∧ x.2 < P := fun x hx => by
            have h := Hmem.out x hx
            exact ⟨by have := ok_range h.ok; omega, h.place⟩
          have hwm := whereL_map FL sq B (fun x hx => (hfm x hx).1)
          rw [hwm] at hsome
          have hcs : ∀ k, k < B → ((List.range B).map fun i : Nat => atR FL (i : Int) sq).getD k 0 < (P : Int) := fun k hk => by
            rw [← hwm]
            rcases where_cases sq hfm hk with h | h <;> omega
          have hhr := head_range FL sq HP.out.1
          have Hfin := SL.hid (HS.out _ hsome)
          have hqe : q = e + 1 := Hq0.out.2.2 (by omega)
          subst hqe
          have hqb : (e + 1 == 0) = false := by simp; omega
          have H3 := Hs.out.setCell 1 (.int .u64 (sq + 1))
          simp only [List.setIfInBounds_toArray, List.set_cons_succ, List.set_cons_zero] at H3
          have D3 := Hd.out.setCell ⟨s13, 1, none⟩ (.int .u64 (sq + 1))
          have Hcs := SL.hid hcs; have Hhr := SL.hid hhr
          have hsq9 : sq < 281474976710655 := by omega
          have Hno := SL.hid hno
          clear hsome hfm hwm hcs hhr hno Hscan Hs Hd hq
          go_wp2_with fail
          generalize wc.setCell ⟨s13, 1, none⟩ (.int .u64 (sq + 1)) = w4 at H3 D3 ⊢
          clear c0 c1 c2 f1 hz
          go_loopw [15] (fun u wr => RsRel2 FL sq B s13 (e + 1) Y w u wr) (fun u _ => B - (intOf u).toNat)
          case atStart => exact ⟨0, .slice none 0 0, Nat.zero_le _, rfl, (H3.slNil _ _).to (by ac_rfl), D3⟩
          case round =>
            clear H3 D3
            obtain ⟨k, v, hk, rfl, hsat, hside⟩ := hrel
            obtain ⟨ia, ic, rfl⟩ := sl_shape hsat.front2
            have hRd : RdR _ (.slice va FL.length vc) FL := (by
              have h := hsat
              rw [HY.out] at h
              exact h.front3.rds)
            by_cases hlt : k < B
            · have hlt' : (k : Int) < (B : Int) := by omega
              have hdr := (Sat.drew hsat).front2
              have hRd2 : RdR _ (.slice va FL.length vc) FL := (by
                have h := Sat.drew hsat
                rw [HY.out] at h
                exact h.front3.rds)
              have hat := atRef_any wr.drew (.slice va FL.length vc) FL (k : Int) sq hRd2 (by omega)
              have c5 : wr.cell? ⟨s13, 5, none⟩ = some (.slice ia k ic) := hsat.cell 5
              have c2 : wr.cell? ⟨s13, 2, none⟩ = some (.int .u64 sq) := hsat.cell 2
              have hsucc := i64v_succ (fun i : Nat => atR FL (i : Int) sq) k
              have Hsucc := SL.hid hsucc
              have HDr := SL.hid hdr; have Hside := SL.hid hside
              obtain ⟨av, hav⟩ : ∃ av, atR FL (k : Int) sq = av := ⟨_, rfl⟩
              rw [hav] at hat
              have Hav := SL.hid hav
              clear hsat hside hdr hRd hRd2 hsucc hav
              go_wp2_with fail
              go_region_law (first
                | (refine step_append_run hrun rfl _ _ rfl rfl (by rfl) (by rfl) ?_)
                | (refine step_call_run hat at_enters rfl _ _ rfl (by rfl) ?_; rintro e4 w5 ⟨rfl, h5, d5⟩; refine ⟨_, rfl, ?_⟩; have H5 := h5.keepW HDr.out; have q5 : w5.cell? ⟨s13, 5, none⟩ = some (.slice ia k ic) := H5.front2.cell 5; have q2 : w5.cell? ⟨s13, 2, none⟩ = some (.int .u64 sq) := H5.front2.cell 2; have z5 : (w5.alloc (.cells #[.int .i64 av] 3 (0, 0))).cell? ⟨s13, 5, none⟩ = some (.slice ia k ic) := (H5.alloc _).front3.cell 5; obtain ⟨xa, xc, w6, hrun, h6, d6⟩ := append_int9 H5 av (by omega); have q6 : w6.cell? ⟨s13, 5, none⟩ = some (.slice ia k ic) := h6.front2.cell 5; have f6 : w6.frozen? ⟨s13, 5, none⟩ = false := h6.front2.frozen 5))
              all_goals
                have H7 := h6.front2.setCell 5 (.slice xa (k + 1) xc)
                simp only [List.setIfInBounds_toArray, List.set_cons_succ, List.set_cons_zero] at H7
                have D7 := (((Hside.out.drew).trans d5).trans d6).setCell ⟨s13, 5, none⟩ (.slice xa (k + 1) xc)
                have HH7 := SL.hid H7; have HD7 := SL.hid D7
                clear H7 D7 h5 d5 H5 q5 q2 z5 h6 d6 q6 f6 hrun hat c5 c2
                go_wp2
                go_roundw
                case rel => exact ⟨k + 1, .slice xa (k + 1) xc, by omega, by go_num, by rw [Hsucc.out, Hav.out]; exact HH7.out, HD7.out⟩
                case measure => simp [intOf]; omega
            · obtain rfl : k = B := by omega
              have hhd := headRef_any wr (.slice va FL.length vc) FL sq P hRd HP.out.1 (by have := HP.out; omega) (fun x hx => ⟨(Hmem.out x hx).ok, by have := (Hmem.out x hx).place; have := HP.out; omega⟩) (by omega)
              have hhr := Hhr.out
              generalize headI FL sq P = hd at hhd hhr Hfin
              have Hs := SL.hid hsat; have Hd := SL.hid hside
              have c2 : wr.cell? ⟨s13, 2, none⟩ = some (.int .u64 sq) := hsat.cell 2
              clear hsat hside hRd
              go_wp2_with fail
              (with_reducible refine hhd.mono ?_)
              rintro e4 w5 ⟨rfl, h5, d5⟩
              have H5 := h5.keepW Hs.out
              have D5 := Hd.out.trans d5
              have q3 : w5.cell? ⟨s13, 3, none⟩ = some (.int .i64 0) := H5.cell 3
              have f3 : w5.frozen? ⟨s13, 3, none⟩ = false := H5.frozen 3
              have H6 := H5.setCell 3 (.int .i64 hd)
              have D6 := D5.setCell ⟨s13, 3, none⟩ (.int .i64 hd)
              simp only [List.setIfInBounds_toArray, List.set_cons_succ, List.set_cons_zero] at H6
              have p3 : (w5.setCell ⟨s13, 3, none⟩ (.int .i64 hd)).cell? ⟨s13, 3, none⟩ = some (.int .i64 hd) := H6.cell 3
              have p5 : (w5.setCell ⟨s13, 3, none⟩ (.int .i64 hd)).cell? ⟨s13, 5, none⟩ = some (.slice ia k ic) := H6.cell 5
              obtain ⟨AT, hAT⟩ : ∃ AT, AT = (List.range k).map fun i : Nat => atR FL (i : Int) sq := ⟨_, rfl⟩
              have hcs := Hcs.out
              rw [← hAT] at hcs H6 Hfin
              have hatl : AT.length = k := by rw [hAT]; simp
              have hrd6 : RdI (w5.setCell ⟨s13, 3, none⟩ (.int .i64 hd)) (.slice ia k ic) AT := rdI_sl (by rw [hatl]; exact H6.front2)
              have hus := usedRef_any _ (.slice ia k ic) AT hd P hrd6 (by omega) HP.out.1 (by have := HP.out; omega) hhr.1 hhr.2 (fun j hj => hcs j (by omega))
              have Hatl := SL.hid hatl
              clear hAT hcs hatl hrd6 hhd h5 d5 H5 D5 c2
              go_wp2_with fail
              generalize w5.setCell ⟨s13, 3, none⟩ (.int .i64 hd) = w6 at *
              generalize usedI AT hd P = us at hus Hfin
              (with_reducible refine hus.mono ?_)
              rintro e7 w7 ⟨rfl, rfl⟩
              have q4 : w6.cell? ⟨s13, 4, none⟩ = some (.int .i64 0) := H6.cell 4
              have f4 : w6.frozen? ⟨s13, 4, none⟩ = false := H6.frozen 4
              have H8 := H6.setCell 4 (.int .i64 us)
              have D8 := D6.setCell ⟨s13, 4, none⟩ (.int .i64 us)
              simp only [List.setIfInBounds_toArray, List.set_cons_succ, List.set_cons_zero] at H8
              have r0 : (w6.setCell ⟨s13, 4, none⟩ (.int .i64 us)).cell? ⟨s13, 0, none⟩ = some (.int .u32 (e + 1)) := H8.cell 0
              have r1 : (w6.setCell ⟨s13, 4, none⟩ (.int .i64 us)).cell? ⟨s13, 1, none⟩ = some (.int .u64 (sq + 1)) := H8.cell 1
              have r2 : (w6.setCell ⟨s13, 4, none⟩ (.int .i64 us)).cell? ⟨s13, 2, none⟩ = some (.int .u64 sq) := H8.cell 2
              have r3 : (w6.setCell ⟨s13, 4, none⟩ (.int .i64 us)).cell? ⟨s13, 3, none⟩ = some (.int .i64 hd) := H8.cell 3
              have r4 : (w6.setCell ⟨s13, 4, none⟩ (.int .i64 us)).cell? ⟨s13, 4, none⟩ = some (.int .i64 us) := H8.cell 4
              have r5 : (w6.setCell ⟨s13, 4, none⟩ (.int .i64 us)).cell? ⟨s13, 5, none⟩ = some (.slice ia k ic) := H8.cell 5
              have H9 : Sat (w6.setCell ⟨s13, 4, none⟩ (.int .i64 us)) (pt z (rsC 0 0 0 0 0 (.slice none 0 0)) * (sl 3 1 (.slice ia k ic) k (i64v AT) * whole w)) := by
                have h := H8
                rw [HY.out, HX.out] at h
                exact (h.to (by ac_rfl : _ = (pt s13 _ * sl 83 8 (.slice va FL.length vc) FL.length (flatR FL)) * (pt z (rsC 0 0 0 0 0 (.slice none 0 0)) * (sl 3 1 (.slice ia k ic) k (i64v AT) * whole w)))).right
              have hz9 := H9.heap
              have H10 := H9.setRow (cs' := #[.int .u32 (e + 1), .int .u64 (sq + 1), .int .u64 sq, .int .i64 hd, .int .i64 us, .slice ia k ic])
              have HH10 := SL.hid H10
              clear hus H6 D6 H8 p3 p5 q3 f3 H9 H10
              go_wp2_with (refine wpList_store_row rfl 84 (.tmp 6) (.tmp 108) rfl z #[.int .u32 (e + 1), .int .u64 (sq + 1), .int .u64 sq, .int .i64 hd, .int .i64 us, .slice ia k ic] rfl rfl 84 #[.int .u32 0, .int .u64 0, .int .u64 0, .int .i64 0, .int .i64 0, .slice none 0 0] hz9 (rst_six _ _ _ _ _ _ _ _) rfl (st_one _ _ _ _ _ _ _ _) ?_)
              refine bodyPost_ret (rscan_results rfl rfl HH10.out) rfl ?_
              refine Hfin.out _ (.slice ia k ic) ?_ (D8.setRow _ _)
              show Sat _ (sl 3 1 (.slice ia k ic) AT.length (i64v AT) * whole w)
              rw [Hatl.out]
              exact HH10.out.right
end Go.Proofs.Ytlfooilcngjeiaa

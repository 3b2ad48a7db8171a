/- inode: Blocks, pointers, Right. -/
import Derived.Test.YtaoohjeaaccnfaaFb
import Derived.Deep.DeepCutAuto
import Derived.BigQuiet
import Derived.Deep.QuietTactic
import Derived.Deep.CutBlock
import Derived.Deep.CutRange
import Derived.Deep.MidRow
namespace Go.SL
set_option linter.unusedVariables false
set_option linter.unusedSimpArgs false
open Go.RowKit
/-- A node. -/
structure Nd where
  kd : Int
  lk : Int
  sz : Int
  dr : List Int
  rw : Int
def Nd.l (n : Nd) : List Int := n.kd :: n.lk :: n.sz :: (n.dr ++ [n.rw])
def Nd.v (n : Nd) : Value := .agg (ints n.l)
def ptrOk (p : Int) : Bool := decide (0 ≤ p) && decide (p < 3840)
def blocksOf (sz : Int) : Int := (min (max sz 0) 122880 + 479) / 480
/-- May a node be? -/
def Nd.ok (n : Nd) : Bool := (decide (n.kd = 1) || decide (n.kd = 2)) && decide (0 ≤ n.lk) && decide (n.lk ≤ 65535) && decide (0 ≤ n.sz) && decide (n.sz ≤ 122880) && n.dr.all ptrOk && ptrOk n.rw &&
  (decide (16 < blocksOf n.sz) || decide (n.rw = 0)) && (List.range 16).all fun i => decide ((i : Int) < blocksOf n.sz) || decide (n.dr.getD i 0 = 0)
theorem RdI.shapeF {w : World} {v : Value} {l : List Int} (h : RdI w v l) : ∃ a c, v = .slice a l.length c := by
  rcases h with ⟨x, c, rfl, rfl⟩ | ⟨g, o, c, rfl, _⟩
  · exact ⟨_, _, rfl⟩
  · exact ⟨_, _, rfl⟩
theorem RdI.atF {w : World} {v : Value} {l : List Int} (h : RdI w v l) {k : Nat} (hk : k < l.length) : ∃ g o c, v = .slice (some ⟨g, o, none⟩) l.length c ∧ w.cell? ⟨g, o + k, none⟩ = some (.int .i64 (l.getD k 0)) := by
  rcases h with ⟨x, c, rfl, rfl⟩ | ⟨g, o, c, rfl, _, _, hc⟩
  · simp at hk
  · exact ⟨_, _, _, rfl, hc k hk⟩
theorem RdI.row {w : World} {g : Nat} {xs : List Int} {T : TypeId} {F : Assn} (h : Sat w (pt g (.cells (ints xs) T (0, 0)) * F)) (o n : Nat) (hn : o + n ≤ xs.length) (hm : n ≤ maxLen) : RdI w (.slice (some ⟨g, o, none⟩) n n) ((xs.drop o).take n) := by
  have hl : ((xs.drop o).take n).length = n := by rw [List.length_take, List.length_drop]; omega
  refine .inr ⟨g, o, n, by rw [hl], by omega, hm, fun k hk => ?_⟩
  rw [hl] at hk
  rw [h.cell, get_ints_lt (by omega)]
  simp [List.getD, List.getElem?_take, List.getElem?_drop, hk]
theorem run_index_ints {P : Program} {t e : TypeId} {n : Nat} {l : List Int} (h : P.underlying t = some (.array n e)) (he : P.underlying e = some (.int .i64)) (hs : (P.info? e).map (·.size) = some 1) (hl : l.length = n) (k : Nat) (hk : k < n) (w : World) :
    (Instr.index t (.agg (ints l)) (.int .i64 (k : Int))).run P w = .ok (.int .i64 (l.getD k 0)) w := by
  have hg := get_ints_lt (l := l) (i := k) (by omega)
  cases hq : P.info? e with
  | none => simp [hq] at hs
  | some i =>
    have hs1 : i.size = 1 := by simpa [hq] using hs
    simp [Instr.index, asIntOf, run_underlying h, isAgg, run_underlying he, sizeOf, typeInfo, hq, hs1, part, hg, show k < n from hk, go_sem]
theorem Nd.cells {n : Nd} (h : n.dr.length = 16) : n.l.length = 20 := by simp [Nd.l, h]
theorem Nd.at19 {n : Nd} (h : n.dr.length = 16) : (ints n.l)[19]? = some (.int .i64 n.rw) := by
  rw [get_ints]
  simp [Nd.l, h]
theorem Nd.drop3 {n : Nd} (h : n.dr.length = 16) : (n.l.drop 3).take 16 = n.dr := by
  simp only [Nd.l, List.drop_succ_cons, List.drop_zero]
  rw [← h, List.take_left]
end Go.SL
namespace Go.Proofs.Ytaoohjeaaccnfaa.Fs
set_option linter.unusedVariables false
set_option linter.unusedSimpArgs false
open Go.RowKit Go.SL Go.Proofs.Ytaoohjeaaccnfaa.Ba
set_option maxRecDepth 100000 in
theorem blocks_any (w : World) (n : Int) : Calls Try.prog 39 #[.int .i64 n] w (IntIs (blocksOf n) w) := by
  have e : ∀ m : Int, 0 ≤ m → (m + 479).tdiv 480 = (m + 479) / 480 := fun m h => Int.tdiv_eq_ediv_of_nonneg (by omega)
  unfold blocksOf
  by_cases h0 : n < 0
  · rw [show min (max n 0) 122880 = 0 by omega]
    go_enter Try.func39, Try.ntmps39
    go_wp2
    go_ret
    exact ⟨rfl, rfl⟩
  · by_cases h1 : n ≤ 122880
    · rw [show min (max n 0) 122880 = n by omega]
      have e1 := e n (by omega)
      go_enter Try.func39, Try.ntmps39
      go_wp2
      go_ret
      exact ⟨by show Ending.returned (.int .i64 ((n + 480 - 1) / 480)) = _; rw [show n + 480 - 1 = n + 479 by omega], rfl⟩
    · rw [show min (max n 0) 122880 = 122880 by omega]
      go_enter Try.func39, Try.ntmps39
      go_wp2
      go_ret
      exact ⟨rfl, rfl⟩
def PtrRel (l : List Int) (u : Value) : Prop := ∃ k : Nat, k ≤ l.length ∧ u = .int .i64 (k : Int) ∧ (l.take k).all ptrOk = true
theorem take_succF {l : List Int} {k : Nat} (h : k < l.length) : l.take (k + 1) = l.take k ++ [l.getD k 0] := by
  rw [List.take_add_one, List.getD, List.getElem?_eq_getElem h]; rfl
set_option maxRecDepth 100000 in
set_option maxHeartbeats 1000000 in
theorem pointers_any (w : World) (v : Value) (l : List Int) (h : RdI w v l) (hl : l.length ≤ 1000) :
    Calls Try.prog 77 #[v] w fun e w' => e = .returned (.bool (l.all ptrOk)) ∧ w = w' := by
  have H0 := SL.hid h
  obtain ⟨a, c, rfl⟩ := h.shapeF
  have hln : (l.length : Int) ≤ 1000 := by omega
  clear h
  go_enter Try.func77, Try.ntmps77
  go_wp2_with fail
  go_loop [7] (fun u => PtrRel l u) (fun u => l.length - (intOf u).toNat)
  case atStart => exact ⟨0, Nat.zero_le _, rfl, rfl⟩
  case round =>
    obtain ⟨k, hk, rfl, hall⟩ := hrel
    by_cases hlt : k < l.length
    · have hlt' : (k : Int) < (l.length : Int) := by omega
      obtain ⟨g, o, c', hv, hc⟩ := H0.out.atF hlt
      cases hv
      have hts := take_succF hlt
      have hmem : l.getD k 0 ∈ l := by rw [List.getD, List.getElem?_eq_getElem hlt]; exact List.getElem_mem hlt
      have Hts := SL.hid hts; have Hall := SL.hid hall; have Hmem := SL.hid hmem
      clear hts hall hmem
      generalize l.getD k 0 = p at *
      have Hno : Hid (ptrOk p = false → l.all ptrOk = false) := SL.hid fun h => List.all_eq_false.2 ⟨p, Hmem.out, by simp [h]⟩
      by_cases h1 : p < 0
      · have e := SL.hid (Hno.out (by simp [ptrOk]; omega))
        go_wp2_with fail
        go_ret
        exact ⟨by rw [e.out]; rfl, rfl⟩
      · by_cases h2 : 3840 ≤ p
        · have e := SL.hid (Hno.out (by simp [ptrOk]; omega))
          go_wp2_with fail
          go_ret
          exact ⟨by rw [e.out]; rfl, rfl⟩
        · have e : Hid ((l.take (k + 1)).all ptrOk = true) := SL.hid (by rw [Hts.out, List.all_append, Hall.out]; simp [ptrOk]; omega)
          go_wp2_with fail
          go_round
          case rel => exact ⟨k + 1, by omega, by go_num, e.out⟩
          case measure => simp [intOf]; omega
    · obtain rfl : k = l.length := by omega
      rw [List.take_length] at hall
      have Hall := SL.hid hall
      clear hall
      go_wp2_with fail
      go_ret
      exact ⟨by rw [Hall.out]; rfl, rfl⟩
theorem info_16 : (Try.prog.info? 46).map (·.size) = some 16 := by kernel_rfl
def RightRelF (dr : List Int) (sz : Int) (u : Value) : Prop := ∃ k : Nat, k ≤ 16 ∧ u = .int .i64 (k : Int) ∧ ∀ j : Nat, j < k → (decide ((j : Int) < blocksOf sz) || decide (dr.getD j 0 = 0)) = true
set_option maxRecDepth 100000 in
set_option maxHeartbeats 4000000 in
theorem right_any (w : World) (n : Nd) (h16 : n.dr.length = 16) :
    Calls Try.prog 73 #[n.v] w (Tells (.bool n.ok) w) := by
  have hA := (Sat.whole w).alloc (.cells (ints n.l) 48 (0, 0))
  have dA := (Side.refl w).alloc (.cells (ints n.l) 48 (0, 0))
  have hB := hA.alloc (.cells #[.int .i64 n.rw] 3 (0, 0))
  have dB := dA.alloc (.cells #[.int .i64 n.rw] 3 (0, 0))
  have c0 : (w.alloc (.cells (ints n.l) 48 (0, 0))).cell? ⟨w.heap.size, 0, none⟩ = some (.int .i64 n.kd) := (hA.cell 0).trans (by rw [get_ints]; rfl)
  have c1 : (w.alloc (.cells (ints n.l) 48 (0, 0))).cell? ⟨w.heap.size, 1, none⟩ = some (.int .i64 n.lk) := (hA.cell 1).trans (by rw [get_ints]; rfl)
  have c2 : (w.alloc (.cells (ints n.l) 48 (0, 0))).cell? ⟨w.heap.size, 2, none⟩ = some (.int .i64 n.sz) := (hA.cell 2).trans (by rw [get_ints]; rfl)
  have c19 : (w.alloc (.cells (ints n.l) 48 (0, 0))).cell? ⟨w.heap.size, 19, none⟩ = some (.int .i64 n.rw) := (hA.cell 19).trans (Nd.at19 h16)
  have hp1 := pointers_any _ _ _ (RdI.row hA 3 16 (by rw [Nd.cells h16]; decide) (by decide)) (by rw [Nd.drop3 h16, h16]; decide)
  rw [Nd.drop3 h16] at hp1
  have hp2 := pointers_any _ (.slice (some ⟨(w.alloc (.cells (ints n.l) 48 (0, 0))).heap.size, 0, none⟩) 1 1) [n.rw] (.inr ⟨_, 0, 1, rfl, Nat.le_refl 1, by decide, fun k hk => by
    have : k = 0 := by simpa using hk
    subst this; exact hB.cell 0⟩) (by simp)
  have e2 : [n.rw].all ptrOk = ptrOk n.rw := by simp
  rw [e2] at hp2
  rw [World.size_alloc] at hB hp2
  have hrow : ((w.alloc (.cells (ints n.l) 48 (0, 0))).alloc (.cells #[.int .i64 n.rw] 3 (0, 0))).rangeAt w.heap.size 3 (n.dr.map (Value.int .i64)) := fun j v hv => by
    rw [hB.front2.cell, get_ints]
    rw [List.getElem?_map] at hv
    have : n.l[3 + j]? = n.dr[j]? ∨ 16 ≤ j := by
      by_cases h : j < 16
      · left
        rw [show 3 + j = j + 3 by omega]
        simp only [Nd.l, List.getElem?_cons_succ]
        rw [List.getElem?_append_left (by omega)]
      · exact .inr (by omega)
    rcases this with h | h
    · rw [h]; exact hv
    · rw [List.getElem?_eq_none (by omega)] at hv; cases hv
  have hix := fun (k : Nat) (hk : k < 16) (w : World) => run_index_ints (P := Try.prog) (t := 46) (e := 3) Try.underlying46 Try.underlying3 (by kernel_rfl) h16 k hk w
  obtain ⟨kd, lk, sz, dr, rw'⟩ := n
  dsimp only at *
  have hv : Nd.v ⟨kd, lk, sz, dr, rw'⟩ = .agg (ints (Nd.l ⟨kd, lk, sz, dr, rw'⟩)) := rfl
  rw [hv]
  obtain ⟨B, hB0⟩ : ∃ B, Nd.ok ⟨kd, lk, sz, dr, rw'⟩ = B := ⟨_, rfl⟩
  rw [hB0]
  generalize ints (Nd.l ⟨kd, lk, sz, dr, rw'⟩) = X at *
  have Hrow := SL.hid hrow; have Hix := SL.hid hix; have HB0 := SL.hid hB0; have Hp1 := SL.hid hp1; have Hp2 := SL.hid hp2; have HBs := SL.hid hB
  have hbl := fun w => blocks_any w sz
  have Hbl := SL.hid hbl
  clear hrow hix hB0 hp1 hp2 hB hbl hv e2
  by_cases hk : kd = 1 ∨ kd = 2
  · rcases hk with rfl | rfl
    all_goals
      by_cases h1 : lk < 0
      · have e : B = false := by rw [← HB0.out]; simp [Nd.ok, show ¬ 0 ≤ lk by omega]
        subst e
        go_enter Try.func73, Try.ntmps73
        go_wp2
        go_ret
        exact ⟨rfl, hA.right, dA⟩
      by_cases h2 : 65535 < lk
      · have e : B = false := by rw [← HB0.out]; simp [Nd.ok, show ¬ lk ≤ 65535 by omega]
        subst e
        go_enter Try.func73, Try.ntmps73
        go_wp2
        go_ret
        exact ⟨rfl, hA.right, dA⟩
      by_cases h3 : sz < 0
      · have e : B = false := by rw [← HB0.out]; simp [Nd.ok, show ¬ 0 ≤ sz by omega]
        subst e
        go_enter Try.func73, Try.ntmps73
        go_wp2
        go_ret
        exact ⟨rfl, hA.right, dA⟩
      by_cases h4 : 122880 < sz
      · have e : B = false := by rw [← HB0.out]; simp [Nd.ok, show ¬ sz ≤ 122880 by omega]
        subst e
        go_enter Try.func73, Try.ntmps73
        go_wp2
        go_ret
        exact ⟨rfl, hA.right, dA⟩
      go_enter Try.func73, Try.ntmps73
      go_wp2_with fail
      cases hb1 : dr.all ptrOk with
      | false =>
        have e : B = false := by rw [← HB0.out]; simp only [Nd.ok, hb1]; simp
        subst e
        have hp1 := Hp1.out
        rw [hb1] at hp1
        (with_reducible refine hp1.mono ?_)
        rintro e w3 ⟨rfl, rfl⟩
        clear hp1
        go_wp2
        go_ret
        exact ⟨rfl, hA.right, dA⟩
      | true =>
        have hp1 := Hp1.out
        rw [hb1] at hp1
        (with_reducible refine hp1.mono ?_)
        rintro e w3 ⟨rfl, rfl⟩
        clear hp1
        go_wp2_with fail
        cases hb2 : ptrOk rw' with
        | false =>
          have e : B = false := by rw [← HB0.out]; simp only [Nd.ok, hb2]; simp
          subst e
          have hp2 := Hp2.out
          rw [hb2] at hp2
          (with_reducible refine hp2.mono ?_)
          rintro e w3 ⟨rfl, rfl⟩
          clear hp2
          go_wp2
          go_ret
          exact ⟨rfl, HBs.out.right.right, dB⟩
        | true =>
          have hp2 := Hp2.out
          rw [hb2] at hp2
          (with_reducible refine hp2.mono ?_)
          rintro e w3 ⟨rfl, rfl⟩
          clear hp2
          have d2 : ((w.alloc (.cells X 48 (0, 0))).alloc (.cells #[.int .i64 rw'] 3 (0, 0))).cell? ⟨w.heap.size, 2, none⟩ = some (.int .i64 sz) := ((Sat.whole _).alloc _).cellOld c2
          have d19 : ((w.alloc (.cells X 48 (0, 0))).alloc (.cells #[.int .i64 rw'] 3 (0, 0))).cell? ⟨w.heap.size, 19, none⟩ = some (.int .i64 rw') := ((Sat.whole _).alloc _).cellOld c19
          generalize (w.alloc (.cells X 48 (0, 0))).alloc (.cells #[.int .i64 rw'] 3 (0, 0)) = w4 at *
          clear c0 c1 c2 c19 hA dA
          go_wp2_with fail
          have hbl := Hbl.out w4
          have hb0 : 0 ≤ blocksOf sz := by unfold blocksOf; omega
          obtain ⟨nb, hnb⟩ : ∃ nb, blocksOf sz = nb := ⟨_, rfl⟩
          rw [hnb] at hbl hb0
          have Hnb := SL.hid hnb
          clear hnb
          (with_reducible refine hbl.mono ?_)
          rintro e w3 ⟨rfl, rfl⟩
          clear hbl Hp1 Hp2
          by_cases h5 : nb ≤ 16 ∧ rw' ≠ 0
          · obtain ⟨h5, h6⟩ := h5
            have hne : (rw' == 0) = false := by simpa using h6
            have e : B = false := by rw [← HB0.out]; simp only [Nd.ok, Hnb.out]; simp [show ¬ 16 < nb by omega, h6]
            subst e
            go_wp2
            go_ret
            exact ⟨rfl, HBs.out.right.right, dB⟩
          · have hrest : B = (List.range 16).all fun i => decide ((i : Int) < nb) || decide (dr.getD i 0 = 0) := by
              rw [← HB0.out]
              simp only [Nd.ok, Hnb.out, hb1, hb2, decide_eq_true (show 0 ≤ lk by omega), decide_eq_true (show lk ≤ 65535 by omega), decide_eq_true (show 0 ≤ sz by omega), decide_eq_true (show sz ≤ 122880 by omega)]
              have : (decide (16 < nb) || decide (rw' = 0)) = true := by
                by_cases h : 16 < nb
                · simp [h]
                · have : rw' = 0 := Classical.byContradiction fun q => h5 ⟨by omega, q⟩
                  simp [this]
              rw [this]
              simp
            have Hrest := SL.hid hrest
            clear hrest
            have hway : (nb ≤ 16 ∧ rw' = 0) ∨ (16 < nb) := by
              by_cases h : nb ≤ 16
              · exact .inl ⟨h, Classical.byContradiction fun q => h5 ⟨h, q⟩⟩
              · exact .inr (by omega)
            clear h5
            rcases hway with ⟨h6, rfl⟩ | h6
            all_goals
              first | (have hd9 : decide (nb ≤ 16) = false := decide_eq_false (by omega)) | skip
              obtain ⟨V, hV⟩ : ∃ V, V = (dr.map (Value.int .i64)).toArray := ⟨_, rfl⟩
              have hix : ∀ k : Nat, k < 16 → ∀ w, (Instr.index 46 (.agg V) (.int .i64 (k : Int))).run Try.prog w = .ok (.int .i64 (dr.getD k 0)) w := fun k hk w => by rw [hV]; exact Hix.out k hk w
              have Hix2 := SL.hid hix; have HV := SL.hid hV
              have hinfo : (Try.prog.info? 46).map (·.size) = some (dr.map (Value.int .i64)).length := by rw [List.length_map, h16]; exact info_16
              have Hinfo := SL.hid hinfo
              clear hix Hix hV hinfo
              go_wp2_with (refine wpList_load_mid (by exact rfl) 46 (.tmp 48) (by exact rfl) w.heap.size 3 (by exact rfl) (dr.map (Value.int .i64)) _ (by with_reducible exact Hrow.out) Try.underlying46 rfl (by with_reducible exact Hinfo.out) ?_)
              rw [← HV.out]
              go_loop [50] (fun u => RightRelF dr sz u) (fun u => 16 - (intOf u).toNat)
              case atStart => exact ⟨0, Nat.zero_le _, rfl, fun j hj => absurd hj (Nat.not_lt_zero _)⟩
              case round =>
                obtain ⟨k, hk, rfl, hall⟩ := hrel
                have Hall := SL.hid hall
                clear hall
                by_cases hlt : k < 16
                · have hlt' : (k : Int) < 16 := by omega
                  have hik := Hix2.out k hlt
                  have Hno : Hid ((decide ((k : Int) < nb) || decide (dr.getD k 0 = 0)) = false → B = false) := SL.hid fun h => by
                    rw [Hrest.out]; exact List.all_eq_false.2 ⟨k, List.mem_range.2 hlt, by rw [h]; simp⟩
                  have Hyes : Hid ((decide ((k : Int) < nb) || decide (dr.getD k 0 = 0)) = true → ∀ j : Nat, j < k + 1 → (decide ((j : Int) < blocksOf sz) || decide (dr.getD j 0 = 0)) = true) := SL.hid fun h j hj => by
                    rcases Nat.lt_or_eq_of_le (Nat.le_of_lt_succ hj) with h9 | h9
                    · exact Hall.out j h9
                    · rw [h9, Hnb.out]; exact h
                  generalize dr.getD k 0 = p at *
                  by_cases h6 : nb ≤ (k : Int)
                  · by_cases h7 : p = 0
                    · subst h7
                      have e := SL.hid (Hyes.out (by simp))
                      go_wp2_with fail
                      go_round
                      case rel => exact ⟨k + 1, by omega, by go_num, e.out⟩
                      case measure => simp [intOf]; omega
                    · have hne : (p == 0) = false := by simpa using h7
                      have e : B = false := Hno.out (by simp [h7]; omega)
                      subst e
                      go_wp2_with fail
                      all_goals
                        go_ret
                        exact ⟨rfl, HBs.out.right.right, dB⟩
                  · have hd : decide (nb ≤ (k : Int)) = false := decide_eq_false h6
                    have e := SL.hid (Hyes.out (by simp; omega))
                    go_wp2_with fail
                    go_round
                    case rel => exact ⟨k + 1, by omega, by go_num, e.out⟩
                    case measure => simp [intOf]; omega
                · obtain rfl : k = 16 := by omega
                  have e : B = true := by
                    rw [Hrest.out]
                    refine List.all_eq_true.2 fun j hj => ?_
                    have := Hall.out j (List.mem_range.1 hj)
                    rwa [Hnb.out] at this
                  subst e
                  go_wp2_with fail
                  go_ret
                  exact ⟨rfl, HBs.out.right.right, dB⟩
  · have hk1 : (kd == 1) = false := by simp; omega
    have hk2 : (kd == 2) = false := by simp; omega
    have hk3 : (kd != 1) = true := by simp; omega
    have hk4 : (kd != 2) = true := by simp; omega
    have e : B = false := by rw [← HB0.out]; simp [Nd.ok, show ¬ kd = 1 by omega, show ¬ kd = 2 by omega]
    subst e
    go_enter Try.func73, Try.ntmps73
    go_wp2
    go_ret
    exact ⟨rfl, hA.right, dA⟩
end Go.Proofs.Ytaoohjeaaccnfaa.Fs

/- Steps towards the statement StoreForms. -/
import Derived.Test.YtdafdidmbeecfaaGreatDoorStoreFormsP7
section
namespace Go.SL
set_option linter.unusedVariables false
set_option linter.unusedSimpArgs false
open Go.RowKit
structure Tb where
  ps : List Int
  os : List Int
  c : Int
structure Tb.Ok (T : Tb) : Prop where
  n : T.ps.length ≤ 1048576
  m : T.os.length ≤ 1048576
  ps : ∀ v ∈ T.ps, v = -1 ∨ (0 ≤ v ∧ v < T.os.length)
def told (l : List Int) (i : Int) : Option Int := if 0 ≤ i ∧ i < l.length ∧ l.getD i.toNat 0 ≠ -1 then some (l.getD i.toNat 0) else none
def toldV (o : Option Int) : Value := .tuple #[.int .i64 (o.getD 0), .bool o.isSome]
def Tb.fresh (b p : Nat) : Tb := ⟨List.replicate b (-1), List.replicate p (-1), 0⟩
def Tb.drop (T : Tb) (id : Int) : Bool × Tb := match told T.ps id with
  | some p => (true, ⟨T.ps.set id.toNat (-1), T.os.set p.toNat (-1), i64w (T.c - 1)⟩)
  | none => (false, T)
def Tb.put (T : Tb) (id place : Int) : Bool × Tb :=
  if 0 ≤ id ∧ id < T.ps.length ∧ 0 ≤ place ∧ place < T.os.length ∧ (T.os.getD place.toNat 0 = -1 ∨ T.os.getD place.toNat 0 = id) then
    (true, ⟨(T.drop id).2.ps.set id.toNat place, (T.drop id).2.os.set place.toNat id, i64w ((T.drop id).2.c + 1)⟩)
  else (false, T)
structure Tx where
  g1 : Nat
  g2 : Nat
def tableX (x : Tx) (t : Nat) (T : Tb) : Assn :=
  pt t (.cells #[.slice (some ⟨x.g1, 0, none⟩) T.ps.length T.ps.length, .slice (some ⟨x.g2, 0, none⟩) T.os.length T.os.length, .int .i64 T.c] 146 (0, 0)) * (pt x.g1 (.cells (ints T.ps) 3 (0, 0)) * pt x.g2 (.cells (ints T.os) 3 (0, 0)))
def tableA (t : Nat) (T : Tb) : Assn := ex fun x => tableX x t T
theorem Sat.tabOpen {w : World} {t : Nat} {T : Tb} {F : Assn} (h : Sat w (tableA t T * F)) : ∃ x : Tx, Sat w (pt t (.cells #[.slice (some ⟨x.g1, 0, none⟩) T.ps.length T.ps.length, .slice (some ⟨x.g2, 0, none⟩) T.os.length T.os.length, .int .i64 T.c] 146 (0, 0)) * (pt x.g1 (.cells (ints T.ps) 3 (0, 0)) * (pt x.g2 (.cells (ints T.os) 3 (0, 0)) * F))) := by
  obtain ⟨x, h⟩ := Sat.ex_star_iff.1 h
  exact ⟨x, h.to (by unfold tableX; ac_rfl)⟩
theorem Sat.tabShut {w : World} {t : Nat} {T : Tb} {F : Assn} (x : Tx) (h : Sat w (pt t (.cells #[.slice (some ⟨x.g1, 0, none⟩) T.ps.length T.ps.length, .slice (some ⟨x.g2, 0, none⟩) T.os.length T.os.length, .int .i64 T.c] 146 (0, 0)) * (pt x.g1 (.cells (ints T.ps) 3 (0, 0)) * (pt x.g2 (.cells (ints T.os) 3 (0, 0)) * F)))) : Sat w (tableA t T * F) :=
  Sat.ex_star_iff.2 ⟨x, h.to (by unfold tableX; ac_rfl)⟩
end Go.SL
namespace Go.Proofs.YtdafdidmbeecfaaGreatDoor
set_option linter.unusedVariables false
set_option linter.unusedSimpArgs false
open Go.RowKit Go.SL
theorem within_any (w : World) (a : Option Addr) (n c : Nat) (i : Int) : Calls Tryz.prog 83 #[.slice a n c, .int .i64 i] w (BoolIs (decide (0 ≤ i ∧ i < (n : Int))) w) := by
  by_cases h0 : 0 ≤ i
  · by_cases h1 : i < (n : Int)
    · rw [show decide (0 ≤ i ∧ i < (n : Int)) = true by simp [h0, h1]]
      go_enter Tryz.func83, Tryz.ntmps83
      go_wp2
      go_ret
      exact ⟨rfl, rfl⟩
    · rw [show decide (0 ≤ i ∧ i < (n : Int)) = false by simp [h1]]
      have hd : decide (i < (n : Int)) = false := by simpa using h1
      go_enter Tryz.func83, Tryz.ntmps83
      go_wp2
      go_ret
      exact ⟨rfl, rfl⟩
  · rw [show decide (0 ≤ i ∧ i < (n : Int)) = false by simp [h0]]
    go_enter Tryz.func83, Tryz.ntmps83
    go_wp2
    go_ret
    exact ⟨rfl, rfl⟩
def TellsT (o : Option Int) (w : World) (e : Ending) (w' : World) : Prop := e = .returned (toldV o) ∧ w = w'
set_option maxRecDepth 100000 in
theorem told_any (w : World) (g : Nat) (l : List Int) (i : Int) (F : Assn) (h : Sat w (pt g (.cells (ints l) 3 (0, 0)) * F)) :
    Calls Tryz.prog 86 #[.slice (some ⟨g, 0, none⟩) l.length l.length, .int .i64 i] w (TellsT (told l i) w) := by
  have hw := within_any w (some ⟨g, 0, none⟩) l.length l.length i
  by_cases hin : 0 ≤ i ∧ i < (l.length : Int)
  · rw [show decide (0 ≤ i ∧ i < (l.length : Int)) = true by simpa using hin] at hw
    obtain ⟨k, rfl⟩ := Int.eq_ofNat_of_zero_le hin.1
    have hkl' : (k : Int) < (l.length : Int) := hin.2
    have hkl : k < l.length := by omega
    have hc : w.cell? ⟨g, k, none⟩ = some (.int .i64 (l.getD k 0)) := (h.cell k).trans (get_ints_lt hkl)
    by_cases hv : l.getD k 0 = -1
    · have e : told l (k : Int) = none := by unfold told; rw [if_neg]; rintro ⟨_, _, h3⟩; exact h3 (by rw [Int.toNat_natCast]; exact hv)
      rw [e]; rw [hv] at hc
      clear e hin h hv
      go_enter Tryz.func86, Tryz.ntmps86
      go_wp2_with (go_at_call 83; (with_reducible refine hw.mono ?_); rintro e w1 ⟨rfl, rfl⟩)
      go_ret2
      exact ⟨rfl, rfl⟩
    · have e : told l (k : Int) = some (l.getD k 0) := by unfold told; rw [if_pos ⟨hin.1, hin.2, by rw [Int.toNat_natCast]; exact hv⟩, Int.toNat_natCast]
      have hvb : (l.getD k 0 == -1) = false := by simpa using hv
      rw [e]
      clear e hin h hv
      generalize l.getD k 0 = v at hc hvb
      go_enter Tryz.func86, Tryz.ntmps86
      go_wp2_with (go_at_call 83; (with_reducible refine hw.mono ?_); rintro e w1 ⟨rfl, rfl⟩)
      go_ret2
      exact ⟨rfl, rfl⟩
  · rw [show decide (0 ≤ i ∧ i < (l.length : Int)) = false by simpa using hin] at hw
    have e : told l i = none := by unfold told; rw [if_neg]; rintro ⟨h1, h2, _⟩; exact hin ⟨h1, h2⟩
    rw [e]
    clear e hin h
    go_enter Tryz.func86, Tryz.ntmps86
    go_wp2_with (go_at_call 83; (with_reducible refine hw.mono ?_); rintro e w1 ⟨rfl, rfl⟩)
    go_ret2
    exact ⟨rfl, rfl⟩
theorem at_any (w : World) (t : Nat) (T : Tb) (id : Int) (F : Assn) (h : Sat w (tableA t T * F)) :
    Calls Tryz.prog 60 #[.pointer (some ⟨t, 0, none⟩), .int .i64 id] w (TellsT (told T.ps id) w) := by
  obtain ⟨x, hx⟩ := h.tabOpen
  have ht := told_any w x.g1 T.ps id _ hx.front2
  have c0 : w.cell? ⟨t, 0, none⟩ = some (.slice (some ⟨x.g1, 0, none⟩) T.ps.length T.ps.length) := hx.cell 0
  generalize told T.ps id = o at ht ⊢
  clear h hx
  go_enter Tryz.func60, Tryz.ntmps60
  go_wp2_with (go_at_call 86; (with_reducible refine ht.mono ?_); rintro e w1 ⟨rfl, rfl⟩; unfold toldV)
  go_ret2
  exact ⟨rfl, rfl⟩
theorem owner_any (w : World) (t : Nat) (T : Tb) (id : Int) (F : Assn) (h : Sat w (tableA t T * F)) :
    Calls Tryz.prog 103 #[.pointer (some ⟨t, 0, none⟩), .int .i64 id] w (TellsT (told T.os id) w) := by
  obtain ⟨x, hx⟩ := h.tabOpen
  have ht := told_any w x.g2 T.os id _ hx.front3
  have c0 : w.cell? ⟨t, 1, none⟩ = some (.slice (some ⟨x.g2, 0, none⟩) T.os.length T.os.length) := hx.cell 1
  generalize told T.os id = o at ht ⊢
  clear h hx
  go_enter Tryz.func103, Tryz.ntmps103
  go_wp2_with (go_at_call 86; (with_reducible refine ht.mono ?_); rintro e w1 ⟨rfl, rfl⟩; unfold toldV)
  go_ret2
  exact ⟨rfl, rfl⟩
theorem told_some {l : List Int} {i p : Int} (h : told l i = some p) : ∃ k : Nat, i = (k : Int) ∧ k < l.length ∧ l.getD k 0 = p ∧ p ≠ -1 := by
  unfold told at h
  split at h
  · rename_i hc
    obtain ⟨h1, h2, h3⟩ := hc
    obtain ⟨k, rfl⟩ := Int.eq_ofNat_of_zero_le h1
    rw [Int.toNat_natCast] at h h3
    have h := Option.some.inj h
    exact ⟨k, rfl, by omega, h, by rw [← h]; exact h3⟩
  · cases h
theorem tb_place {T : Tb} (h : T.Ok) {i p : Int} (ht : told T.ps i = some p) : ∃ j : Nat, p = (j : Int) ∧ j < T.os.length := by
  obtain ⟨k, rfl, hk, hp, hn⟩ := told_some ht
  have hm : p ∈ T.ps := by rw [← hp, List.getD, List.getElem?_eq_getElem hk]; exact List.getElem_mem hk
  rcases h.ps p hm with e | ⟨e1, e2⟩
  · exact absurd e hn
  · obtain ⟨j, rfl⟩ := Int.eq_ofNat_of_zero_le e1
    exact ⟨j, rfl, by omega⟩
def TabQ (t : Nat) (b : Bool) (T : Tb) (F : Assn) (w : World) (e : Ending) (w' : World) : Prop := e = .returned (.bool b) ∧ Sat w' (tableA t T * F) ∧ Side w w'
set_option maxRecDepth 100000 in
set_option maxHeartbeats 1000000 in
theorem drop_any (w : World) (t : Nat) (T : Tb) (id : Int) (F : Assn) (h : Sat w (tableA t T * F)) (hT : T.Ok) :
    Calls Tryz.prog 84 #[.pointer (some ⟨t, 0, none⟩), .int .i64 id] w (TabQ t (T.drop id).1 (T.drop id).2 F w) := by
  have ha := at_any w t T id F h
  unfold Tb.drop
  match hm : told T.ps id with
  | none =>
    rw [hm] at ha
    clear hm
    go_enter Tryz.func84, Tryz.ntmps84
    go_wp2_with (go_at_call 60; (with_reducible refine ha.mono ?_); rintro e w1 ⟨rfl, rfl⟩; unfold toldV)
    go_ret
    exact ⟨rfl, h, Side.refl w⟩
  | some p =>
    rw [hm] at ha
    obtain ⟨k, rfl, hk, _, _⟩ := told_some hm
    obtain ⟨j, rfl, hj⟩ := tb_place hT hm
    obtain ⟨x, hx⟩ := h.tabOpen
    have hk' : (k : Int) < (T.ps.length : Int) := by omega
    have hj' : (j : Int) < (T.os.length : Int) := by omega
    have c0 : w.cell? ⟨t, 0, none⟩ = some (.slice (some ⟨x.g1, 0, none⟩) T.ps.length T.ps.length) := hx.cell 0
    have c1 : w.cell? ⟨t, 1, none⟩ = some (.slice (some ⟨x.g2, 0, none⟩) T.os.length T.os.length) := hx.cell 1
    have s1 : w.cell? ⟨x.g1, k, none⟩ = some (.int .i64 (T.ps.getD k 0)) := (hx.front2.cell k).trans (get_ints_lt hk)
    have f1 := hx.front2.frozen k
    have H2 := (hx.front2.setCell k (.int .i64 (-1)))
    have c0' := H2.front2.cell 0
    have c1' := H2.front2.cell 1
    have s2 : (w.setCell ⟨x.g1, k, none⟩ (.int .i64 (-1))).cell? ⟨x.g2, j, none⟩ = some (.int .i64 (T.os.getD j 0)) := (H2.front3.cell j).trans (get_ints_lt hj)
    have f2 := H2.front3.frozen j
    have H3 := H2.front3.setCell j (.int .i64 (-1))
    have c0'' := H3.front3.cell 0
    have c1'' := H3.front3.cell 1
    have c2'' : ((w.setCell ⟨x.g1, k, none⟩ (.int .i64 (-1))).setCell ⟨x.g2, j, none⟩ (.int .i64 (-1))).cell? ⟨t, 2, none⟩ = some (.int .i64 T.c) := H3.front3.cell 2
    have f2'' := H3.front3.frozen 2
    rw [set_ints] at H3 H2
    rw [set_ints] at H3
    have H4 := SL.hid (H3.front3.setCell 2 (.int .i64 (i64w (T.c - 1))))
    simp only [Int.toNat_natCast]
    generalize T.ps.getD k 0 = vk at s1
    generalize T.os.getD j 0 = vj at s2
    clear hm h hx H2 H3 hT
    go_enter Tryz.func84, Tryz.ntmps84
    go_wp2_with (go_at_call 60; (with_reducible refine ha.mono ?_); rintro e w1 ⟨rfl, rfl⟩; unfold toldV)
    go_region_held3 (fun w' => w'.cell? ⟨t, 0, none⟩ = some (.slice (some ⟨x.g1, 0, none⟩) T.ps.length T.ps.length) ∧ w'.cell? ⟨t, 1, none⟩ = some (.slice (some ⟨x.g2, 0, none⟩) T.os.length T.os.length)) (first | assumption | exact ⟨c0, c1⟩ | exact ⟨c0', c1'⟩ | exact ⟨c0'', c1''⟩) (fail)
    go_wp2
    go_ret
    refine ⟨rfl, Sat.tabShut x ?_, ((((Side.refl w).setCell _ _).setCell _ _).drew).setCell _ _⟩
    simp only [List.length_set]
    exact (H4.out.drew).to (by simp only [List.setIfInBounds_toArray, List.set_cons_zero, List.set_cons_succ]; ac_rfl)
theorem drop_lengths (T : Tb) (id : Int) : (T.drop id).2.ps.length = T.ps.length ∧ (T.drop id).2.os.length = T.os.length := by
  unfold Tb.drop
  split <;> simp
set_option maxRecDepth 100000 in
set_option maxHeartbeats 1000000 in
theorem put_any (w : World) (t : Nat) (T : Tb) (id place : Int) (F : Assn) (h : Sat w (tableA t T * F)) (hT : T.Ok) :
    Calls Tryz.prog 58 #[.pointer (some ⟨t, 0, none⟩), .int .i64 id, .int .i64 place] w (TabQ t (T.put id place).1 (T.put id place).2 F w) := by
  obtain ⟨x, hx⟩ := h.tabOpen
  have c0 : w.cell? ⟨t, 0, none⟩ = some (.slice (some ⟨x.g1, 0, none⟩) T.ps.length T.ps.length) := hx.cell 0
  have c1 : w.cell? ⟨t, 1, none⟩ = some (.slice (some ⟨x.g2, 0, none⟩) T.os.length T.os.length) := hx.cell 1
  have w1 := within_any w (some ⟨x.g1, 0, none⟩) T.ps.length T.ps.length id
  have w2 := within_any w (some ⟨x.g2, 0, none⟩) T.os.length T.os.length place
  by_cases h1 : 0 ≤ id ∧ id < (T.ps.length : Int)
  · rw [show decide (0 ≤ id ∧ id < (T.ps.length : Int)) = true by simpa using h1] at w1
    by_cases h2 : 0 ≤ place ∧ place < (T.os.length : Int)
    · rw [show decide (0 ≤ place ∧ place < (T.os.length : Int)) = true by simpa using h2] at w2
      obtain ⟨k, rfl⟩ := Int.eq_ofNat_of_zero_le h1.1
      obtain ⟨j, rfl⟩ := Int.eq_ofNat_of_zero_le h2.1
      have hk : k < T.ps.length := by omega
      have hj : j < T.os.length := by omega
      have hk' : (k : Int) < (T.ps.length : Int) := by omega
      have hj' : (j : Int) < (T.os.length : Int) := by omega
      have so : w.cell? ⟨x.g2, j, none⟩ = some (.int .i64 (T.os.getD j 0)) := (hx.front3.cell j).trans (get_ints_lt hj)
      by_cases hv : T.os.getD j 0 = -1 ∨ T.os.getD j 0 = (k : Int)
      · have e : T.put (k : Int) (j : Int) = (true, ⟨(T.drop (k : Int)).2.ps.set k (j : Int), (T.drop (k : Int)).2.os.set j (k : Int), i64w ((T.drop (k : Int)).2.c + 1)⟩) := by
          unfold Tb.put; rw [if_pos ⟨h1.1, h1.2, h2.1, h2.2, by simpa using hv⟩]; simp
        have hd := drop_any w t T k F h hT
        obtain ⟨l1, l2⟩ := drop_lengths T k
        rw [e]
        generalize hD : (T.drop (k : Int)).2 = D at hd l1 l2 ⊢
        generalize (T.drop (k : Int)).1 = db at hd
        have hvb : ((T.os.getD j 0 != -1) = false) ∨ ((T.os.getD j 0 != -1) = true ∧ (T.os.getD j 0 != (k : Int)) = false) := by
          rcases hv with hv | hv
          · left; rw [hv]; rfl
          · by_cases hq : T.os.getD j 0 = -1
            · left; rw [hq]; rfl
            · right; exact ⟨by simpa using hq, by rw [hv]; simp⟩
        clear e hv h1 h2 h hx hT hD
        generalize T.os.getD j 0 = v at so hvb
        have Hl1 := SL.hid l1; have Hl2 := SL.hid l2; clear l1 l2
        rcases hvb with hvb | ⟨hvb, hvb2⟩
        all_goals
          go_enter Tryz.func58, Tryz.ntmps58
          go_wp2_with (first
            | (go_at_call_of 83 (Value.int .i64 (k : Int)); (with_reducible refine w1.mono ?_); rintro e w1' ⟨rfl, rfl⟩)
            | (go_at_call_of 83 (Value.int .i64 (j : Int)); (with_reducible refine w2.mono ?_); rintro e w1' ⟨rfl, rfl⟩))
          (with_reducible refine hd.mono ?_)
          rintro e w3 ⟨rfl, h3, d3⟩
          obtain ⟨y, hy⟩ := h3.tabOpen
          rw [Hl1.out, Hl2.out] at hy
          have hk1 : k < D.ps.length := by rw [Hl1.out]; exact hk
          have hj1 : j < D.os.length := by rw [Hl2.out]; exact hj
          have c0 : w3.cell? ⟨t, 0, none⟩ = some (.slice (some ⟨y.g1, 0, none⟩) T.ps.length T.ps.length) := hy.cell 0
          have c1 : w3.cell? ⟨t, 1, none⟩ = some (.slice (some ⟨y.g2, 0, none⟩) T.os.length T.os.length) := hy.cell 1
          have s1 : w3.cell? ⟨y.g1, k, none⟩ = some (.int .i64 (D.ps.getD k 0)) := (hy.front2.cell k).trans (get_ints_lt hk1)
          have f1 := hy.front2.frozen k
          have H2 := (hy.front2.setCell k (.int .i64 (j : Int)))
          have c0' := H2.front2.cell 0
          have c1' := H2.front2.cell 1
          have s2 : (w3.setCell ⟨y.g1, k, none⟩ (.int .i64 (j : Int))).cell? ⟨y.g2, j, none⟩ = some (.int .i64 (D.os.getD j 0)) := (H2.front3.cell j).trans (get_ints_lt hj1)
          have f2 := H2.front3.frozen j
          have H3 := H2.front3.setCell j (.int .i64 (k : Int))
          have c0'' := H3.front3.cell 0
          have c1'' := H3.front3.cell 1
          have c2'' : ((w3.setCell ⟨y.g1, k, none⟩ (.int .i64 (j : Int))).setCell ⟨y.g2, j, none⟩ (.int .i64 (k : Int))).cell? ⟨t, 2, none⟩ = some (.int .i64 D.c) := H3.front3.cell 2
          have f2'' := H3.front3.frozen 2
          rw [set_ints] at H3 H2
          rw [set_ints] at H3
          have H4 := SL.hid (H3.front3.setCell 2 (.int .i64 (i64w (D.c + 1))))
          generalize D.ps.getD k 0 = vk at s1
          generalize D.os.getD j 0 = vj at s2
          clear hd w1 w2 so h3 hy H2 H3 hvb
          go_wp2
          go_region_held3 (fun w' => w'.cell? ⟨t, 0, none⟩ = some (.slice (some ⟨y.g1, 0, none⟩) T.ps.length T.ps.length) ∧ w'.cell? ⟨t, 1, none⟩ = some (.slice (some ⟨y.g2, 0, none⟩) T.os.length T.os.length)) (first | assumption | exact ⟨c0, c1⟩ | exact ⟨c0', c1'⟩ | exact ⟨c0'', c1''⟩) (fail)
          go_wp2
          go_ret
          refine ⟨rfl, Sat.tabShut y ?_, (((d3.setCell _ _).setCell _ _).drew).setCell _ _⟩
          simp only [List.length_set, Hl1.out, Hl2.out]
          exact (H4.out.drew).to (by simp only [List.setIfInBounds_toArray, List.set_cons_zero, List.set_cons_succ]; ac_rfl)
      · have e : T.put (k : Int) (j : Int) = (false, T) := by
          unfold Tb.put; rw [if_neg]; rintro ⟨_, _, _, _, h5⟩; exact hv (by simpa using h5)
        rw [e]
        have hvb : (T.os.getD j 0 != -1) = true := by simp only [bne_iff_ne, ne_eq]; exact fun q => hv (.inl q)
        have hvb2 : (T.os.getD j 0 != (k : Int)) = true := by simp only [bne_iff_ne, ne_eq]; exact fun q => hv (.inr q)
        have H := SL.hid h
        clear e hv h1 h2 h hx hT
        generalize T.os.getD j 0 = v at so hvb hvb2
        go_enter Tryz.func58, Tryz.ntmps58
        go_wp2_with (first
          | (go_at_call_of 83 (Value.int .i64 (k : Int)); (with_reducible refine w1.mono ?_); rintro e w1' ⟨rfl, rfl⟩)
          | (go_at_call_of 83 (Value.int .i64 (j : Int)); (with_reducible refine w2.mono ?_); rintro e w1' ⟨rfl, rfl⟩))
        go_ret
        exact ⟨rfl, H.out, Side.refl w⟩
    · rw [show decide (0 ≤ place ∧ place < (T.os.length : Int)) = false by simpa using h2] at w2
      have e : T.put id place = (false, T) := by
        unfold Tb.put; rw [if_neg]; rintro ⟨_, _, h3, h4, _⟩; exact h2 ⟨h3, h4⟩
      rw [e]
      have H := SL.hid h
      clear e h1 h2 h hx hT
      go_enter Tryz.func58, Tryz.ntmps58
      go_wp2_with fail
      refine w1.mono ?_
      rintro e w1' ⟨rfl, rfl⟩
      clear w1
      go_wp2_with fail
      refine w2.mono ?_
      rintro e w1' ⟨rfl, rfl⟩
      clear w2
      go_wp2
      go_ret
      exact ⟨rfl, H.out, Side.refl w⟩
  · rw [show decide (0 ≤ id ∧ id < (T.ps.length : Int)) = false by simpa using h1] at w1
    have e : T.put id place = (false, T) := by
      unfold Tb.put; rw [if_neg]; rintro ⟨h3, h4, _⟩; exact h1 ⟨h3, h4⟩
    rw [e]
    have H := SL.hid h
    clear e h1 h hx hT w2
    go_enter Tryz.func58, Tryz.ntmps58
    go_wp2_with (go_at_call 83; (with_reducible refine w1.mono ?_); rintro e w1' ⟨rfl, rfl⟩)
    go_ret
    exact ⟨rfl, H.out, Side.refl w⟩
end Go.Proofs.YtdafdidmbeecfaaGreatDoor
namespace Go.Proofs.YtdafdidmbeecfaaGreatDoor
set_option linter.unusedVariables false
set_option linter.unusedSimpArgs false
open Go.RowKit Go.SL
attribute [local go_sem] Oper.semAt_some
def EmptyQ (n : Nat) (w : World) (e : Ending) (w' : World) : Prop := ∃ g, e = .returned (.slice (some ⟨g, 0, none⟩) n n) ∧ Sat w' (pt g (.cells (ints (List.replicate n (-1))) 3 (0, 0)) * whole w) ∧ Side w w'
def EmptyRel (g : Nat) (n : Nat) (w : World) (u : Value) (wr : World) : Prop :=
  ∃ k : Nat, k ≤ n ∧ u = .int .i64 k ∧ Sat wr (pt g (.cells (ints (List.replicate k (-1) ++ List.replicate (n - k) 0)) 3 (0, 0)) * whole w) ∧ Side w wr
set_option maxRecDepth 100000 in
set_option maxHeartbeats 1000000 in
theorem empty_any (n : Nat) (w : World) (h2 : n ≤ 1048576) : Calls Tryz.prog 117 #[.int .i64 n] w (EmptyQ n w) := by
  have hn1 : (0 : Int) ≤ (n : Int) := by omega
  have hn2 : (n : Int) ≤ 1048576 := by omega
  have hmk := make_ints n h2 w
  have hA := ((Sat.whole w).alloc (.cells (ints (List.replicate n 0)) 3 (0, 0)))
  have hs := ((Side.refl w).alloc (.cells (ints (List.replicate n 0)) 3 (0, 0)))
  go_enter Tryz.func117, Tryz.ntmps117
  go_wp2
  generalize w.alloc (.cells (ints (List.replicate n 0)) 3 (0, 0)) = w1 at hA hs ⊢
  generalize w.heap.size = g at hA ⊢
  clear hmk
  go_loopw [11] (fun u wr => EmptyRel g n w u wr) (fun u _ => n - (intOf u).toNat)
  case atStart => exact ⟨0, Nat.zero_le _, rfl, hA.to (by simp only [List.replicate_zero, List.nil_append, Nat.sub_zero]), hs⟩
  case round =>
    obtain ⟨k, hk, rfl, hsat, hside⟩ := hrel
    clear hA hs
    have hl : (List.replicate k (-1) ++ List.replicate (n - k) (0 : Int)).length = n := by simp; omega
    by_cases hlt : k < n
    · have hlt' : (k : Int) < (n : Int) := by omega
      have hv : wr.cell? ⟨g, k, none⟩ = some (.int .i64 ((List.replicate k (-1) ++ List.replicate (n - k) (0 : Int)).getD k 0)) := (hsat.cell k).trans (get_ints_lt (by rw [hl]; exact hlt))
      have hf := hsat.frozen k
      generalize (List.replicate k (-1) ++ List.replicate (n - k) (0 : Int)).getD k 0 = q at hv
      have h4 := hsat.setCell k (.int .i64 (-1))
      rw [set_ints, fill_next n k (-1) hlt] at h4
      have H4 := SL.hid h4
      clear hsat h4 hl
      go_wp2
      go_roundw
      case rel => exact ⟨k + 1, by omega, by go_num, H4.out, hside.setCell _ _⟩
      case measure => simp [intOf]; omega
    · obtain rfl : k = n := by omega
      rw [Nat.sub_self, List.replicate_zero, List.append_nil] at hsat
      have H4 := SL.hid hsat
      clear hsat hl hlt
      go_wp2
      go_ret
      exact ⟨g, rfl, H4.out, hside⟩
def TabNewQ (b p : Nat) (w : World) (e : Ending) (w' : World) : Prop := ∃ t, e = .returned (.pointer (some ⟨t, 0, none⟩)) ∧ Sat w' (tableA t (Tb.fresh b p) * whole w) ∧ Side w w'
set_option maxRecDepth 100000 in
theorem tabNew_any (b p : Nat) (w : World) (hb : b ≤ 1048576) (hp : p ≤ 1048576) : Calls Tryz.prog 96 #[.int .i64 b, .int .i64 p] w (TabNewQ b p w) := by
  go_enter Tryz.func96, Tryz.ntmps96
  go_wp2_with fail
  refine (empty_any b w hb).mono ?_
  rintro e w1 ⟨g1, rfl, h1, d1⟩
  go_wp2_with fail
  refine (empty_any p w1 hp).mono ?_
  rintro e w2 ⟨g2, rfl, h2, d2⟩
  have h3 := (h2.under h1).alloc (.cells #[.slice (some ⟨g1, 0, none⟩) b b, .slice (some ⟨g2, 0, none⟩) p p, .int .i64 0] 146 (0, 0))
  go_wp2
  go_ret
  refine ⟨_, rfl, Sat.tabShut ⟨g1, g2⟩ ?_, (d1.trans d2).alloc _⟩
  exact h3.to (by simp only [Tb.fresh, List.length_replicate]; ac_rfl)
def tbAll (T : Tb) : List (Int × Int) := (List.range T.ps.length).filterMap fun i : Nat => (told T.ps (i : Int)).map fun p => ((i : Int), p)
def allN (T : Tb) (k : Nat) : List (Int × Int) := (List.range k).filterMap fun i : Nat => (told T.ps (i : Int)).map fun p => ((i : Int), p)
theorem allN_succ (T : Tb) (k : Nat) : allN T (k + 1) = allN T k ++ (match told T.ps (k : Int) with | some p => [((k : Int), p)] | none => []) := by
  unfold allN
  rw [List.range_succ, List.filterMap_append]
  congr 1
  cases h : told T.ps (k : Int) <;> simp [List.filterMap_cons, h]
theorem allN_prefix (T : Tb) {k n : Nat} (h : k ≤ n) : allN T k <+: allN T n := by
  obtain ⟨m, rfl⟩ := Nat.le.dest h
  clear h
  induction m with
  | zero => exact List.prefix_refl _
  | succ m ih => rw [show k + (m + 1) = (k + m) + 1 by omega, allN_succ]; exact ih.trans (List.prefix_append _ _)
def pairT (x : Int × Int) (vs : Array Value) : Assn := fact (vs = #[.int .i64 x.1, .int .i64 x.2])
def AllTF (p : Option Addr) (w : World) (e : Ending) (w' : World) : Prop := e = .returned (.func (.func 100) #[] #[.pointer (some ⟨w.heap.size, 0, none⟩)]) ∧ w' = w.alloc (.cells #[.pointer p] 96 (0, 0))
theorem allT_any (w : World) (p : Option Addr) : Calls Tryz.prog 77 #[.pointer p] w (AllTF p w) := by
  go_enter Tryz.func77, Tryz.ntmps77
  go_wp2
  go_ret
  exact ⟨rfl, rfl⟩
def AllTIt (bx t : Nat) (T : Tb) : Assn := pt bx (.cells #[.pointer (some ⟨t, 0, none⟩)] 96 (0, 0)) * tableA t T
def AllTRel (A : List (Int × Int) → Assn) (T : Tb) (X : Assn) (w0 : World) (i : Value) (wr : World) : Prop :=
  ∃ k : Nat, k ≤ T.ps.length ∧ i = .int .i64 (k : Int) ∧ Side w0 wr ∧ Sat wr (A (allN T k) * X)
set_option maxRecDepth 100000 in
set_option maxHeartbeats 2000000 in
theorem allT_iter (n : Nat) (bx t : Nat) (T : Tb) (hT : T.ps.length ≤ 1048576) :
    Iterates Fence.wide n Tryz.prog 100 #[.pointer (some ⟨bx, 0, none⟩)] (AllTIt bx t T) pairT (fun ys => ys = tbAll T) (fun ys => ys <+: tbAll T) := by
  intro lp A Ax G w0 w hY hs h0
  have hB : Sat w (tableA t T * (pt bx (.cells #[.pointer (some ⟨t, 0, none⟩)] 96 (0, 0)) * (A [] * G))) := h0.to (by unfold AllTIt; ac_rfl)
  have hbx := hB.front2.cell 0
  obtain ⟨x, hx⟩ := hB.tabOpen
  have c0 : w.cell? ⟨t, 0, none⟩ = some (.slice (some ⟨x.g1, 0, none⟩) T.ps.length T.ps.length) := hx.cell 0
  have hl1 : (T.ps.length : Int) ≤ 1048576 := by omega
  have hpre : Hid (∀ k, k ≤ T.ps.length → allN T k <+: tbAll T) := fun k hk => allN_prefix T hk
  clear hB hx
  refine callsIn_of_wp Tryz.func100 rfl trivial ?_ rfl
  simp only [Tryz.ntmps100, List.size_toArray, List.length_cons, List.length_nil, Nat.reduceAdd, Nat.reduceSub, Array.replicate_succ, Array.replicate_zero, List.push_toArray, List.append_toArray, List.nil_append, List.cons_append]
  gi_wp2
  gi_loopw [11] (fun i wr => AllTRel A T (AllTIt bx t T * G) w0 i wr) (fun i _ => T.ps.length - (intOf i).toNat)
  case atStart => exact ⟨0, Nat.zero_le _, rfl, hs, h0⟩
  case round =>
    clear h0 hbx c0
    obtain ⟨k, hk, rfl, hside, hsat⟩ := hrel
    have hB : Sat wr (tableA t T * (pt bx (.cells #[.pointer (some ⟨t, 0, none⟩)] 96 (0, 0)) * (A (allN T k) * G))) := hsat.to (by unfold AllTIt; ac_rfl)
    have hbx := hB.front2.cell 0
    have ha := at_any wr t T (k : Int) _ hB
    by_cases hlt : k < T.ps.length
    · have hlt' : (k : Int) < (T.ps.length : Int) := by omega
      have hsn := allN_succ T k
      have hpk := hpre.out (k + 1) (by omega)
      clear hB
      match hm : told T.ps (k : Int) with
      | none =>
        rw [hm] at ha hsn
        simp only [List.append_nil] at hsn
        have Hsn := hid hsn
        clear hsn hm hpk
        gi_wp2_with fail
        refine callW ha ?_
        rintro e w1 ⟨rfl, rfl⟩
        unfold toldV
        clear ha
        gi_wp2
        refine ⟨fun f hf => (by cases hf), ?_⟩
        gi_wp2
        go_roundw
        case rel => exact ⟨k + 1, by omega, by go_num, hside, by rw [Hsn.out]; exact hsat⟩
        case measure => simp [intOf]; omega
      | some p =>
        rw [hm] at ha hsn
        simp only at hsn
        rw [hsn] at hpk
        have hT2 : Sat wr (A (allN T k) * (pairT ((k : Int), p) #[.int .i64 (k : Int), .int .i64 p] * (AllTIt bx t T * G))) :=
          (Sat.fact_iff.2 ⟨rfl, hsat⟩ : Sat wr (fact _ * _)).to (by unfold pairT; ac_rfl)
        obtain ⟨fn, tmps, assign, body, hy, hR⟩ := hY _ ((k : Int), p) #[.int .i64 (k : Int), .int .i64 p] _ wr hpk hside hT2
        have Hsn := hid hsn; have Hpk := hid hpk
        clear hsn hm hpk hT2 hsat
        gi_wp2_with fail
        refine callW ha ?_
        rintro e w1 ⟨rfl, rfl⟩
        unfold toldV
        clear ha
        gi_wp2
        refine ⟨fun h => (by cases h), hR.mono ?_⟩
        rintro e W' (⟨rfl, hs5, hsat5⟩ | ⟨rfl, hs5, hsat5⟩)
        · gi_wp2
          go_roundw
          case rel => exact ⟨k + 1, by omega, by go_num, hs5, by rw [Hsn.out]; exact hsat5⟩
          case measure => simp [intOf]; omega
        · gi_wp2
          refine bodyPost_ret (results_none rfl _ _ _) rfl ?_
          exact ⟨⟨_, rfl⟩, hs5, .inr ⟨_, Hpk.out, hsat5⟩⟩
    · obtain rfl : k = T.ps.length := by omega
      clear hB ha
      gi_wp2
      go_end0
      exact ⟨⟨_, rfl⟩, hside, .inl ⟨_, rfl, hsat⟩⟩
end Go.Proofs.YtdafdidmbeecfaaGreatDoor
end
section
namespace Go.SL
set_option linter.unusedVariables false
set_option linter.unusedSimpArgs false
open Go.RowKit
structure Jr where
  P : Nat
  T : Tb
  n : Int
  ep : Int
  st : Int
  sq : Int
  hd : Int
  us : Int
  fr : Int
  br : Bool
def ringL (P : Nat) : List Int := (List.range P).map fun i : Nat => (i : Int) + 1
theorem ringL_length (P : Nat) : (ringL P).length = P := by simp [ringL]
theorem ringL_get {P k : Nat} (h : k < P) : (ringL P).getD k 0 = (k : Int) + 1 := by simp [ringL, List.getD, h]
def Jr.cells (J : Jr) (d r t : Nat) : Array Value :=
  #[ptV d, ptV r, ptV t, .int .i64 J.n, .int .u32 J.ep, .int .u64 J.st, .int .u64 J.sq, .int .i64 J.hd, .int .i64 J.us, .int .i64 J.fr, .bool J.br]
def jrX (j d r t : Nat) (J : Jr) : Assn := pt j (.cells (J.cells d r t) 98 (0, 0)) * (ringA r (ringL J.P) * tableA t J.T)
def jrA (j d : Nat) (J : Jr) : Assn := ex fun x : Nat × Nat => pt j (.cells (J.cells d x.1 x.2) 98 (0, 0)) * (ringA x.1 (ringL J.P) * tableA x.2 J.T)
structure Jr.Ok (J : Jr) : Prop where
  p0 : 0 < J.P
  p1 : J.P ≤ 20000
  T : J.T.Ok
  ps : (J.T.ps.length : Int) = J.n
  os : J.T.os.length = J.P
  us0 : 0 ≤ J.us
  us1 : J.us ≤ J.P
  hd0 : 0 ≤ J.hd
  hd1 : J.hd < J.P
  fr0 : 0 ≤ J.fr
  fr1 : J.fr ≤ 48
theorem Sat.jrOpen {w : World} {j d : Nat} {J : Jr} {F : Assn} (h : Sat w (jrA j d J * F)) : ∃ r t, Sat w (pt j (.cells (J.cells d r t) 98 (0, 0)) * (ringA r (ringL J.P) * (tableA t J.T * F))) := by
  obtain ⟨x, h⟩ := Sat.ex_star_iff.1 h
  exact ⟨x.1, x.2, h.to (by ac_rfl)⟩
theorem Sat.jrShut {w : World} {j d r t : Nat} {J : Jr} {F : Assn} (h : Sat w (pt j (.cells (J.cells d r t) 98 (0, 0)) * (ringA r (ringL J.P) * (tableA t J.T * F)))) : Sat w (jrA j d J * F) :=
  Sat.ex_star_iff.2 ⟨(r, t), h.to (by ac_rfl)⟩
theorem Sat.jrOfX {w : World} {j d r t : Nat} {J : Jr} {F : Assn} (h : Sat w (jrX j d r t J * F)) : Sat w (jrA j d J * F) := Sat.ex_star_iff.2 ⟨(r, t), h⟩
theorem Sat.jrToX {w : World} {j d : Nat} {J : Jr} {F : Assn} (h : Sat w (jrA j d J * F)) : ∃ r t, Sat w (jrX j d r t J * F) := by
  obtain ⟨x, h⟩ := Sat.ex_star_iff.1 h
  exact ⟨x.1, x.2, h⟩
theorem Sat.jrShutX {w : World} {j d r t : Nat} {J : Jr} {F : Assn} (h : Sat w (pt j (.cells (J.cells d r t) 98 (0, 0)) * (ringA r (ringL J.P) * (tableA t J.T * F)))) : Sat w (jrX j d r t J * F) := h.to (by unfold jrX; ac_rfl)
theorem Sat.jrOpenX {w : World} {j d r t : Nat} {J : Jr} {F : Assn} (h : Sat w (jrX j d r t J * F)) : Sat w (pt j (.cells (J.cells d r t) 98 (0, 0)) * (ringA r (ringL J.P) * (tableA t J.T * F))) := h.to (by unfold jrX; ac_rfl)
def Jr.load (J : Jr) (D : Dev) (id place : Int) : (Int × List UInt8) × Jr × Dev :=
  let R := D.read (place % (J.P : Int) + 1)
  if R.1.1 = 0 then
    match decodeF R.1.2 with
    | some (t, b) => if t.id = id then ((0, b), J, R.2) else ((2, []), { J with br := true }, R.2)
    | none => ((2, []), { J with br := true }, R.2)
  else ((2, []), { J with br := true }, R.2)
def Jr.read (J : Jr) (D : Dev) (id : Int) : (Int × List UInt8) × Jr × Dev :=
  if id < 0 ∨ J.n ≤ id then ((1, []), J, D)
  else if J.br then ((2, []), J, D)
  else match told J.T.ps id with
    | none => ((0, zs 480), J, D)
    | some p => J.load D id p
def Jr.flush (J : Jr) (D : Dev) : Int × Jr × Dev :=
  if J.br then (2, J, D) else if D.flush.1 = 0 then (0, J, D.flush.2) else (2, { J with br := true }, D.flush.2)
end Go.SL
namespace Go.Proofs.YtdafdidmbeecfaaGreatDoor
set_option linter.unusedVariables false
set_option linter.unusedSimpArgs false
open Go.RowKit Go.SL
def JrXQ (j d r t : Nat) (J : Jr) (v : Value) (F : Assn) (w : World) (e : Ending) (w' : World) : Prop := e = .returned v ∧ Sat w' (jrX j d r t J * F) ∧ Side w w'
theorem fail_anyX (w : World) (j d r t : Nat) (J : Jr) (F : Assn) (h : Sat w (jrX j d r t J * F)) :
    Calls Tryz.prog 78 #[ptV j] w (JrXQ j d r t { J with br := true } (.int .i64 2) F w) := by
  have hx : Sat w (pt j (.cells (J.cells d r t) 98 (0, 0)) * (ringA r (ringL J.P) * (tableA t J.T * F))) := h.to (by unfold jrX; ac_rfl)
  have hc : w.cell? ⟨j, 10, none⟩ = some (.bool J.br) := hx.cell 10
  have hf := hx.frozen 10
  have h2 := hx.setCell 10 (.bool true)
  have H2 := SL.hid h2
  clear h hx h2
  go_enter Tryz.func78, Tryz.ntmps78
  go_wp2
  go_ret
  exact ⟨rfl, Sat.jrShutX (J := { J with br := true }) H2.out, (Side.refl w).setCell _ _⟩
def JrQ (j d : Nat) (J : Jr) (v : Value) (F : Assn) (w : World) (e : Ending) (w' : World) : Prop := e = .returned v ∧ Sat w' (jrA j d J * F) ∧ Side w w'
theorem fail_any (w : World) (j d : Nat) (J : Jr) (F : Assn) (h : Sat w (jrA j d J * F)) :
    Calls Tryz.prog 78 #[ptV j] w (JrQ j d { J with br := true } (.int .i64 2) F w) := by
  obtain ⟨r, t, hx⟩ := h.jrToX
  exact (fail_anyX w j d r t J F hx).mono fun _ _ ⟨a, b, c⟩ => ⟨a, b.jrOfX, c⟩
theorem room_any (w : World) (j d : Nat) (J : Jr) (F : Assn) (h : Sat w (jrA j d J * F)) (hJ : J.Ok) :
    Calls Tryz.prog 17 #[ptV j] w (Tells (.int .i64 ((J.P : Int) - J.us - J.fr)) w) := by
  obtain ⟨r, t, hx⟩ := h.jrOpen
  have c1 : w.cell? ⟨j, 1, none⟩ = some (ptV r) := hx.cell 1
  have c8 : w.cell? ⟨j, 8, none⟩ = some (.int .i64 J.us) := hx.cell 8
  have c9 : w.cell? ⟨j, 9, none⟩ = some (.int .i64 J.fr) := hx.cell 9
  have hR := hx.front2
  have hlen : ∀ w', Sat w' (ringA r (ringL J.P) * (pt j (.cells (J.cells d r t) 98 (0, 0)) * (tableA t J.T * F))) → Calls Tryz.prog 52 #[ptV r] w' (IntIs J.P w') := fun w' h => by
    have := ringLen_any w' r (ringL J.P) _ h
    rwa [ringL_length] at this
  obtain ⟨p0, p1, _, _, _, u0, u1, _, _, f0, f1⟩ := hJ
  have hl := hlen w hR
  have hld := hlen w.drew hR
  have hP : (J.P : Int) ≤ 20000 := by omega
  have hP0 : 0 ≤ (J.P : Int) := by omega
  have hu2 : J.us ≤ 20000 := by omega
  clear h hx hR hlen
  go_enter Tryz.func17, Tryz.ntmps17
  have s1 : IntKind.i64.wrap ((J.P : Int) - J.us) = (J.P : Int) - J.us := by rw [IntKind.wrap_i64]; omega
  have s2 : IntKind.i64.wrap ((J.P : Int) - J.us - J.fr) = (J.P : Int) - J.us - J.fr := by rw [IntKind.wrap_i64]; omega
  go_wp2_with fail
  go_region_held3 (fun w' => w'.cell? ⟨j, 1, none⟩ = some (ptV r) ∧ w'.cell? ⟨j, 8, none⟩ = some (.int .i64 J.us) ∧ w'.cell? ⟨j, 9, none⟩ = some (.int .i64 J.fr)) (first | exact ⟨c1, c8, c9⟩) (first
    | (go_at_call 52; (with_reducible refine hld.mono ?_); rintro e w1 ⟨rfl, rfl⟩))
  go_wp2
  go_ret
  exact ⟨rfl, (Sat.whole w).drew, (Side.refl w).drew⟩
def FlushQ (S : Hp) (j d : Nat) (R : Int × Jr × Dev) (F : Assn) (w : World) (e : Ending) (w' : World) : Prop :=
  e = .returned (.int .i64 R.1) ∧ Sat w' (jrA j d R.2.1 * (devA S d R.2.2 * F)) ∧ Side w w'
set_option maxRecDepth 100000 in
theorem jflush_any (w : World) (S : Hp) (j d : Nat) (J : Jr) (D : Dev) (F : Assn) (h : Sat w (jrA j d J * (devA S d D * F))) (hD : D.Ok) :
    Calls Tryz.prog 54 #[ptV j] w (FlushQ S j d (J.flush D) F w) := by
  obtain ⟨r, t, hx⟩ := h.jrOpen
  have c10 : w.cell? ⟨j, 10, none⟩ = some (.bool J.br) := hx.cell 10
  have c0 : w.cell? ⟨j, 0, none⟩ = some (ptV d) := hx.cell 0
  have hf := flush_any w S d D _ h.front2 hD
  clear hx
  unfold Jr.flush
  cases hb : J.br with
  | true =>
    rw [hb] at c10
    clear hf
    go_enter Tryz.func54, Tryz.ntmps54
    go_wp2
    go_ret
    exact ⟨rfl, h, Side.refl w⟩
  | false =>
    rw [hb] at c10
    by_cases h0 : D.flush.1 = 0
    · rw [if_neg (by simp), if_pos h0]
      rw [h0] at hf
      clear h h0 hb
      go_enter Tryz.func54, Tryz.ntmps54
      go_wp2_with fail
      refine hf.mono ?_
      rintro e w1 ⟨rfl, h1, d1⟩
      clear hf c0 c10
      go_wp2
      go_ret
      exact ⟨rfl, h1.front2, d1⟩
    · rw [if_neg (by simp), if_neg h0]
      have h0b : (D.flush.1 == 0) = false := by simpa using h0
      generalize D.flush.1 = v at hf h0b
      clear h h0 hb
      go_enter Tryz.func54, Tryz.ntmps54
      go_wp2_with fail
      refine hf.mono ?_
      rintro e w1 ⟨rfl, h1, d1⟩
      have hfl := fail_any w1 j d J _ h1.front2
      clear hf c0 c10 h1
      go_wp2_with fail
      refine hfl.mono ?_
      rintro e w2 ⟨rfl, h2, d2⟩
      clear hfl
      go_wp2
      go_ret
      exact ⟨rfl, h2, d1.trans d2⟩
def LoadXQ (S : Hp) (j d r t : Nat) (R : (Int × List UInt8) × Jr × Dev) (F : Assn) (w : World) (e : Ending) (w' : World) : Prop :=
  ∃ dv, e = .returned (.tuple #[dv, .int .i64 R.1.1]) ∧ Sat w' (ansA 5 R.1 dv * (jrX j d r t R.2.1 * (devA S d R.2.2 * (pool S * F)))) ∧ Side w w'
def LoadQ (S : Hp) (j d : Nat) (R : (Int × List UInt8) × Jr × Dev) (F : Assn) (w : World) (e : Ending) (w' : World) : Prop :=
  ∃ dv, e = .returned (.tuple #[dv, .int .i64 R.1.1]) ∧ Sat w' (ansA 5 R.1 dv * (jrA j d R.2.1 * (devA S d R.2.2 * (pool S * F)))) ∧ Side w w'
theorem bs_at {w : World} {v : Value} {l : List UInt8} {F : Assn} (h : Sat w (bs 5 v l * F)) (hl : 0 < l.length) (hm : l.length ≤ 1000000) :
    ∃ g c, v = .slice (some ⟨g, 0, none⟩) l.length c ∧ l.length ≤ c ∧ ∀ o, o < l.length → w.cell? ⟨g, o, none⟩ = some (u8 (l.getD o 0)) := by
  rcases h.slCases with ⟨_, h0, _⟩ | ⟨g, cap, cur, rfl, h3, h4, h5, h6, hF⟩
  · omega
  · refine ⟨g, cap, rfl, h3, fun o ho => ?_⟩
    rw [hF.cell]
    have e := congrArg (·[o]?) h6
    simp only [List.getElem?_take, Nat.mul_one, ho, if_true, List.getElem?_map, Array.getElem?_toList] at e
    rw [e, List.getElem?_eq_getElem ho, List.getD, List.getElem?_eq_getElem ho]; rfl
end Go.Proofs.YtdafdidmbeecfaaGreatDoor
end
section
namespace Go.Proofs.YtdafdidmbeecfaaGreatDoor
set_option linter.unusedVariables false
set_option linter.unusedSimpArgs false
open Go.RowKit Go.SL
theorem tells_len (D : Dev) (a : Int) (h : (D.tells a).1 = 0) : (D.tells a).2.length = 512 := by
  unfold Dev.tells at h ⊢
  split
  · exact padTo_length _ _
  · rename_i hn
    rw [hn] at h
    simp only at h
    split
    · rename_i h2; rw [if_pos h2] at h; cases h
    · exact padTo_length _ _
theorem read_len (D : Dev) (a : Int) (h : (D.read a).1.1 = 0) : (D.read a).1.2.length = 512 := by
  unfold Dev.read at h ⊢
  split
  · rename_i h1
    rw [if_pos h1] at h
    split
    · rename_i h2; rw [if_pos h2] at h; exact tells_len _ _ h
    · rename_i h2; rw [if_neg h2] at h; cases h
  · rename_i h1; rw [if_neg h1] at h; cases h
set_option maxRecDepth 100000 in
set_option maxHeartbeats 2000000 in
theorem load_anyX (w : World) (S : Hp) (j d r t : Nat) (J : Jr) (D : Dev) (id place : Int) (F : Assn) (h : Sat w (jrX j d r t J * (devA S d D * (pool S * F)))) (hJ : J.Ok) (hD : D.Ok) :
    Calls Tryz.prog 61 #[ptV j, .int .i64 id, .int .i64 place] w (LoadXQ S j d r t (J.load D id place) F w) := by
  have hx : Sat w (pt j (.cells (J.cells d r t) 98 (0, 0)) * (ringA r (ringL J.P) * (tableA t J.T * (devA S d D * (pool S * F))))) := h.to (by unfold jrX; ac_rfl)
  have c0 : w.cell? ⟨j, 0, none⟩ = some (ptV d) := hx.cell 0
  have c1 : w.cell? ⟨j, 1, none⟩ = some (ptV r) := hx.cell 1
  have hp0 := hJ.p0
  have hp1 := hJ.p1
  have hget := get_any w.drew r (ringL J.P) place _ hx.front2.drew (by rw [ringL_length]; exact hp0) (by rw [ringL_length]; omega)
  obtain ⟨k, hk, hkl⟩ := mod_nat place hp0
  rw [ringL_length, hk, Int.toNat_natCast, ringL_get hkl, ← hk] at hget
  obtain ⟨O, hO⟩ : ∃ O, O = J.load D id place := ⟨_, rfl⟩
  rw [← hO]
  have hlen := read_len D (place % (J.P : Int) + 1)
  obtain ⟨R, hR⟩ : ∃ R, R = D.read (place % (J.P : Int) + 1) := ⟨_, rfl⟩
  rw [← hR] at hlen
  have hrd : ∀ w', Sat w' (pt j (.cells (J.cells d r t) 98 (0, 0)) * (ringA r (ringL J.P) * (tableA t J.T * (devA S d D * (pool S * F))))) → Calls Tryz.prog 63 #[ptV d, .int .i64 (place % (J.P : Int) + 1)] w' (ReadQ S d R.2 R.1 (pt j (.cells (J.cells d r t) 98 (0, 0)) * (ringA r (ringL J.P) * (tableA t J.T * F))) w') := fun w' h' => by
    rw [hR]; exact read_any w' S d D _ _ (h'.to (by ac_rfl)) hD
  unfold Jr.load at hO
  rw [← hR] at hO
  have HO1 : Hid (R.1.1 ≠ 0 → O = ((2, []), { J with br := true }, R.2)) := fun q => by rw [hO]; simp only [if_neg q]
  have HO2 : Hid (R.1.1 = 0 → decodeF R.1.2 = none → O = ((2, []), { J with br := true }, R.2)) := fun q q2 => by rw [hO]; simp only [if_pos q, q2]
  have HO3 : Hid (R.1.1 = 0 → ∀ t b, decodeF R.1.2 = some (t, b) → t.id ≠ id → O = ((2, []), { J with br := true }, R.2)) := fun q t b q2 q3 => by rw [hO]; simp only [if_pos q, q2, if_neg q3]
  have HO4 : Hid (R.1.1 = 0 → ∀ t b, decodeF R.1.2 = some (t, b) → t.id = id → O = ((0, b), J, R.2)) := fun q t b q2 q3 => by rw [hO]; simp only [if_pos q, q2, if_pos q3]
  clear hO
  have Hrd := SL.hid hrd
  have Hlen := SL.hid hlen
  generalize place % (J.P : Int) + 1 = sec at *
  clear hk hkl hrd hR hlen
  obtain ⟨⟨rc, rl⟩, D'⟩ := R
  simp only at Hlen Hrd HO1 HO2 HO3 HO4
  go_enter Tryz.func61, Tryz.ntmps61
  go_wp2_with fail
  go_region_held3 (fun w' => w'.cell? ⟨j, 0, none⟩ = some (ptV d) ∧ w'.cell? ⟨j, 1, none⟩ = some (ptV r)) (first | (with_reducible exact ⟨a0, a1⟩) | (with_reducible exact ⟨b0, b1⟩) | exact ⟨c0, c1⟩) (first
    | (go_at_call 82; (with_reducible refine hget.mono ?_); rintro e w1 ⟨rfl, h1, d1⟩; have H1 := h1.keepW (Sat.drew hx); have a0 : w1.cell? ⟨j, 0, none⟩ = some (ptV d) := H1.cell 0; have a1 : w1.cell? ⟨j, 1, none⟩ = some (ptV r) := H1.cell 1; have hrd1 := Hrd.out w1 H1)
    | (go_at_call 63; (with_reducible refine hrd1.mono ?_); rintro e w2 ⟨dv, rfl, h2, d2⟩; have b0 : w2.cell? ⟨j, 0, none⟩ = some (ptV d) := h2.front4.cell 0; have b1 : w2.cell? ⟨j, 1, none⟩ = some (ptV r) := h2.front4.cell 1))
  have D2 := ((Side.refl w).drew.trans d1).trans d2
  have h3 : Sat w2 (ansA 5 (rc, rl) dv * (jrX j d r t J * (devA S d D' * (pool S * F)))) := h2.to (by unfold jrX; ac_rfl)
  clear h hx c0 c1 hget h1 d1 H1 a0 a1 hrd1 d2 b0 b1 h2 Hrd
  by_cases hrc : rc = 0
  · subst hrc
    have h4 := h3.ansYes
    have hl := Hlen.out rfl
    obtain ⟨g, cap, rfl, hcap, hcells⟩ := bs_at h4 (by omega) (by omega)
    rw [hl] at hcap hcells
    have hcapm : cap ≤ maxLen := by
      rcases h4.slCases with ⟨hv, _⟩ | ⟨g', cap', cur, hv, h5, h6, _⟩
      · cases hv
      · cases hv; exact h6
    have hdec := decode_any rl hl g cap hcap hcapm w2 hcells
    have Hl := SL.hid hl
    rw [hl]
    clear h3 hcells hl hcap hcapm
    match hd : decodeF rl with
    | none =>
      rw [hd] at hdec
      have ho := HO2.out rfl hd
      clear hd HO1 HO2 HO3 HO4
      go_wp2_with fail
      refine hdec.mono ?_
      rintro e w3 ⟨rfl, h5, d3⟩
      have H5 := (h5.keepW h4).right
      have H6 := H5.alloc (.cells Tg.zero.cells 121 (0, 0))
      have D5 := (D2.trans d3).alloc (.cells Tg.zero.cells 121 (0, 0))
      have hfl := fail_anyX _ j d r t J _ H6.right
      have Ho := SL.hid ho
      clear hdec h4 h5 H5 H6 ho
      simp only [Tg.cells, Tg.zero] at hfl D5 ⊢
      go_wp2_with fail
      refine hfl.mono ?_
      rintro e w4 ⟨rfl, h6, d4⟩
      clear hfl
      go_wp2
      go_ret2
      refine ⟨.slice none 0 0, by rw [Ho.out]; rfl, ?_, D5.trans d4⟩
      rw [Ho.out]
      exact Sat.ansNil h6 (show (2 : Int) ≠ 0 by decide)
    | some (t', b) =>
      rw [hd] at hdec
      by_cases hid' : t'.id = id
      · have ho := HO4.out rfl t' b hd hid'
        have Ho := SL.hid ho
        have hidb : (t'.id != id) = false := by simp [hid']
        clear hd HO1 HO2 HO3 HO4 ho hid'
        go_wp2_with fail
        refine hdec.mono ?_
        rintro e w3 ⟨v, rfl, h5, d3⟩
        have H5 := (h5.under h4).drop2
        have H6 := H5.alloc (.cells t'.cells 121 (0, 0))
        have D5 := (D2.trans d3).alloc (.cells t'.cells 121 (0, 0))
        clear hdec h4 h5 H5
        simp only [Tg.cells] at H6 D5 ⊢
        go_wp2
        go_ret2
        refine ⟨v, by rw [Ho.out]; rfl, ?_, D5⟩
        rw [Ho.out]
        exact Sat.ansOf H6.right
      · have ho := HO3.out rfl t' b hd hid'
        have Ho := SL.hid ho
        have hidb : (t'.id != id) = true := by simpa using hid'
        clear hd HO1 HO2 HO3 HO4 ho hid'
        go_wp2_with fail
        refine hdec.mono ?_
        rintro e w3 ⟨v, rfl, h5, d3⟩
        have H5 := (h5.under h4).right.right
        have H6 := H5.alloc (.cells t'.cells 121 (0, 0))
        have D5 := (D2.trans d3).alloc (.cells t'.cells 121 (0, 0))
        have hfl := fail_anyX _ j d r t J _ H6.right
        clear hdec h4 h5 H5 H6
        simp only [Tg.cells] at hfl D5 ⊢
        go_wp2_with fail
        refine hfl.mono ?_
        rintro e w4 ⟨rfl, h6, d4⟩
        clear hfl
        go_wp2
        go_ret2
        refine ⟨.slice none 0 0, by rw [Ho.out]; rfl, ?_, D5.trans d4⟩
        rw [Ho.out]
        exact Sat.ansNil h6 (show (2 : Int) ≠ 0 by decide)
  · have hrb : (rc == 0) = false := by simpa using hrc
    have ho := HO1.out hrc
    have Ho := SL.hid ho
    obtain ⟨rfl, h4⟩ := h3.ansNo hrc
    have hfl := fail_anyX _ j d r t J _ h4
    clear h3 h4 ho HO1 HO2 HO3 HO4 hrc
    go_wp2_with fail
    refine hfl.mono ?_
    rintro e w4 ⟨rfl, h6, d4⟩
    clear hfl
    go_wp2
    go_ret2
    refine ⟨.slice none 0 0, by rw [Ho.out]; rfl, ?_, D2.trans d4⟩
    rw [Ho.out]
    exact Sat.ansNil h6 (show (2 : Int) ≠ 0 by decide)
theorem load_any (w : World) (S : Hp) (j d : Nat) (J : Jr) (D : Dev) (id place : Int) (F : Assn) (h : Sat w (jrA j d J * (devA S d D * (pool S * F)))) (hJ : J.Ok) (hD : D.Ok) :
    Calls Tryz.prog 61 #[ptV j, .int .i64 id, .int .i64 place] w (LoadQ S j d (J.load D id place) F w) := by
  obtain ⟨r, t, hx⟩ := h.jrToX
  exact (load_anyX w S j d r t J D id place F hx hJ hD).mono fun _ _ ⟨dv, a, b, c⟩ => ⟨dv, a, Sat.front2 (b.front2.jrOfX), c⟩
set_option maxRecDepth 100000 in
set_option maxHeartbeats 2000000 in
theorem jread_any (w : World) (S : Hp) (j d : Nat) (J : Jr) (D : Dev) (id : Int) (F : Assn) (h : Sat w (jrA j d J * (devA S d D * (pool S * F)))) (hJ : J.Ok) (hD : D.Ok) :
    Calls Tryz.prog 21 #[ptV j, .int .i64 id] w (LoadQ S j d (J.read D id) F w) := by
  obtain ⟨r, t, hx⟩ := h.jrOpen
  have c2 : w.cell? ⟨j, 2, none⟩ = some (ptV t) := hx.cell 2
  have c3 : w.cell? ⟨j, 3, none⟩ = some (.int .i64 J.n) := hx.cell 3
  have c10 : w.cell? ⟨j, 10, none⟩ = some (.bool J.br) := hx.cell 10
  have ha := at_any w t J.T id _ hx.front3
  have hl := fun p => load_any w S j d J D id p F h hJ hD
  unfold Jr.read
  clear hx
  by_cases h0 : id < 0
  · rw [if_pos (.inl h0)]
    clear ha hl
    go_enter Tryz.func21, Tryz.ntmps21
    go_wp2
    go_ret2
    exact ⟨_, rfl, Sat.ansNil h (show (1 : Int) ≠ 0 by decide), Side.refl w⟩
  · by_cases h1 : J.n ≤ id
    · rw [if_pos (.inr h1)]
      clear ha hl
      go_enter Tryz.func21, Tryz.ntmps21
      go_wp2
      go_ret2
      exact ⟨_, rfl, Sat.ansNil h (show (1 : Int) ≠ 0 by decide), Side.refl w⟩
    · rw [if_neg (by rintro (q | q) <;> contradiction)]
      cases hb : J.br with
      | true =>
        rw [hb] at c10
        rw [if_pos rfl]
        clear ha hl
        go_enter Tryz.func21, Tryz.ntmps21
        go_wp2
        go_ret2
        exact ⟨_, rfl, Sat.ansNil h (show (2 : Int) ≠ 0 by decide), Side.refl w⟩
      | false =>
        rw [hb] at c10
        rw [if_neg (by simp)]
        cases hm : told J.T.ps id with
        | none =>
          rw [hm] at ha
          simp only
          have hmk : ∀ w, (Instr.makeSlice 22 (.int .i64 480) (.int .i64 480)).run Tryz.prog w =
            .ok (.slice (some ⟨w.heap.size, 0, none⟩) 480 480) (w.alloc (.cells (u8s (zs 480)) 5 (0, 0))) := make_bytes 480 (by omega)
          have hA := h.alloc (.cells (u8s (zs 480)) 5 (0, 0))
          clear hl hm
          go_enter Tryz.func21, Tryz.ntmps21
          go_wp2_with fail
          refine ha.mono ?_
          rintro e w1 ⟨rfl, rfl⟩
          unfold toldV
          clear ha
          go_wp2
          go_ret2
          exact ⟨_, rfl, Sat.ansOf (bs_of_pt (length_zs 480) hA), (Side.refl w).alloc _⟩
        | some p =>
          rw [hm] at ha
          simp only
          have hlp := hl p
          clear hl hm h
          generalize J.load D id p = O at hlp ⊢
          go_enter Tryz.func21, Tryz.ntmps21
          go_wp2_with fail
          refine ha.mono ?_
          rintro e w1 ⟨rfl, rfl⟩
          unfold toldV
          clear ha
          go_wp2_with fail
          refine hlp.mono ?_
          rintro e w2 ⟨dv, rfl, h2, d2⟩
          clear hlp
          go_wp2
          go_ret2
          exact ⟨dv, rfl, h2, d2⟩
end Go.Proofs.YtdafdidmbeecfaaGreatDoor
end

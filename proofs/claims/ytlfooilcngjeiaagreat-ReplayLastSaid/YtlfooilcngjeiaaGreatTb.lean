/- table: what its functions do. table: New; All, as an iterator. -/
import Derived.Test.YtlfooilcngjeiaaGreatRh
namespace Go.SL
set_option linter.unusedVariables false
set_option linter.unusedSimpArgs false
open Go.RowKit
/-- A table: of each block its place, of each place its block, how many. -/
structure Tb where
  ps : List Int
  os : List Int
  c : Int
structure Tb.Ok (T : Tb) : Prop where
  n : T.ps.length ≤ 1048576
  m : T.os.length ≤ 1048576
  ps : ∀ v ∈ T.ps, v = -1 ∨ (0 ≤ v ∧ v < T.os.length)
def told (l : List Int) (i : Int) : Option Int := if 0 ≤ i ∧ i < l.length ∧ l.getD i.toNat 0 ≠ -1 then some (l.getD i.toNat 0) else none
def toldV (o : Option Int) : Value := .tuple #[.int .i64 (o.getD 0), .bool o.isSome]
def Tb.fresh (b p : Nat) : Tb := ⟨List.replicate b (-1), List.replicate p (-1), 0⟩
def Tb.drop (T : Tb) (id : Int) : Bool × Tb := match told T.ps id with
  | some p => (true, ⟨T.ps.set id.toNat (-1), T.os.set p.toNat (-1), i64w (T.c - 1)⟩)
  | none => (false, T)
def Tb.put (T : Tb) (id place : Int) : Bool × Tb :=
  if 0 ≤ id ∧ id < T.ps.length ∧ 0 ≤ place ∧ place < T.os.length ∧ (T.os.getD place.toNat 0 = -1 ∨ T.os.getD place.toNat 0 = id) then
    (true, ⟨(T.drop id).2.ps.set id.toNat place, (T.drop id).2.os.set place.toNat id, i64w ((T.drop id).2.c + 1)⟩)
  else (false, T)
structure Tx where
  g1 : Nat
  g2 : Nat
def tableX (x : Tx) (t : Nat) (T : Tb) : Assn :=
  pt t (.cells #[.slice (some ⟨x.g1, 0, none⟩) T.ps.length T.ps.length, .slice (some ⟨x.g2, 0, none⟩) T.os.length T.os.length, .int .i64 T.c] 116 (0, 0)) * (pt x.g1 (.cells (ints T.ps) 3 (0, 0)) * pt x.g2 (.cells (ints T.os) 3 (0, 0)))
def tableA (t : Nat) (T : Tb) : Assn := ex fun x => tableX x t T
theorem Sat.tabOpen {w : World} {t : Nat} {T : Tb} {F : Assn} (h : Sat w (tableA t T * F)) : ∃ x : Tx, Sat w (pt t (.cells #[.slice (some ⟨x.g1, 0, none⟩) T.ps.length T.ps.length, .slice (some ⟨x.g2, 0, none⟩) T.os.length T.os.length, .int .i64 T.c] 116 (0, 0)) * (pt x.g1 (.cells (ints T.ps) 3 (0, 0)) * (pt x.g2 (.cells (ints T.os) 3 (0, 0)) * F))) := by
  obtain ⟨x, h⟩ := Sat.ex_star_iff.1 h
  exact ⟨x, h.to (by unfold tableX; ac_rfl)⟩
theorem Sat.tabShut {w : World} {t : Nat} {T : Tb} {F : Assn} (x : Tx) (h : Sat w (pt t (.cells #[.slice (some ⟨x.g1, 0, none⟩) T.ps.length T.ps.length, .slice (some ⟨x.g2, 0, none⟩) T.os.length T.os.length, .int .i64 T.c] 116 (0, 0)) * (pt x.g1 (.cells (ints T.ps) 3 (0, 0)) * (pt x.g2 (.cells (ints T.os) 3 (0, 0)) * F)))) : Sat w (tableA t T * F) :=
  Sat.ex_star_iff.2 ⟨x, h.to (by unfold tableX; ac_rfl)⟩
end Go.SL
namespace Go.Proofs.YtlfooilcngjeiaaGreat
set_option linter.unusedVariables false
set_option linter.unusedSimpArgs false
open Go.RowKit Go.SL
theorem within_any (w : World) (a : Option Addr) (n c : Nat) (i : Int) : Calls Tryz.prog 49 #[.slice a n c, .int .i64 i] w (BoolIs (decide (0 ≤ i ∧ i < (n : Int))) w) := by
  by_cases h0 : 0 ≤ i
  · by_cases h1 : i < (n : Int)
    · rw [show decide (0 ≤ i ∧ i < (n : Int)) = true by simp [h0, h1]]
      go_enter Tryz.func49, Tryz.ntmps49
      go_wp2
      go_ret
      exact ⟨rfl, rfl⟩
    · rw [show decide (0 ≤ i ∧ i < (n : Int)) = false by simp [h1]]
      have hd : decide (i < (n : Int)) = false := by simpa using h1
      go_enter Tryz.func49, Tryz.ntmps49
      go_wp2
      go_ret
      exact ⟨rfl, rfl⟩
  · rw [show decide (0 ≤ i ∧ i < (n : Int)) = false by simp [h0]]
    go_enter Tryz.func49, Tryz.ntmps49
    go_wp2
    go_ret
    exact ⟨rfl, rfl⟩
def TellsT (o : Option Int) (w : World) (e : Ending) (w' : World) : Prop := e = .returned (toldV o) ∧ w = w'
set_option maxRecDepth 100000 in
theorem told_any (w : World) (g : Nat) (l : List Int) (i : Int) (F : Assn) (h : Sat w (pt g (.cells (ints l) 3 (0, 0)) * F)) :
    Calls Tryz.prog 64 #[.slice (some ⟨g, 0, none⟩) l.length l.length, .int .i64 i] w (TellsT (told l i) w) := by
  have hw := within_any w (some ⟨g, 0, none⟩) l.length l.length i
  by_cases hin : 0 ≤ i ∧ i < (l.length : Int)
  · rw [show decide (0 ≤ i ∧ i < (l.length : Int)) = true by simpa using hin] at hw
    obtain ⟨k, rfl⟩ := Int.eq_ofNat_of_zero_le hin.1
    have hkl' : (k : Int) < (l.length : Int) := hin.2
    have hkl : k < l.length := by omega
    have hc : w.cell? ⟨g, k, none⟩ = some (.int .i64 (l.getD k 0)) := (h.cell k).trans (get_ints_lt hkl)
    by_cases hv : l.getD k 0 = -1
    · have e : told l (k : Int) = none := by unfold told; rw [if_neg]; rintro ⟨_, _, h3⟩; exact h3 (by rw [Int.toNat_natCast]; exact hv)
      rw [e]; rw [hv] at hc
      clear e hin h hv
      go_enter Tryz.func64, Tryz.ntmps64
      go_wp2_with (go_at_call 49; (with_reducible refine hw.mono ?_); rintro e w1 ⟨rfl, rfl⟩)
      go_ret2
      exact ⟨rfl, rfl⟩
    · have e : told l (k : Int) = some (l.getD k 0) := by unfold told; rw [if_pos ⟨hin.1, hin.2, by rw [Int.toNat_natCast]; exact hv⟩, Int.toNat_natCast]
      have hvb : (l.getD k 0 == -1) = false := by simpa using hv
      rw [e]
      clear e hin h hv
      generalize l.getD k 0 = v at hc hvb
      go_enter Tryz.func64, Tryz.ntmps64
      go_wp2_with (go_at_call 49; (with_reducible refine hw.mono ?_); rintro e w1 ⟨rfl, rfl⟩)
      go_ret2
      exact ⟨rfl, rfl⟩
  · rw [show decide (0 ≤ i ∧ i < (l.length : Int)) = false by simpa using hin] at hw
    have e : told l i = none := by unfold told; rw [if_neg]; rintro ⟨h1, h2, _⟩; exact hin ⟨h1, h2⟩
    rw [e]
    clear e hin h
    go_enter Tryz.func64, Tryz.ntmps64
    go_wp2_with (go_at_call 49; (with_reducible refine hw.mono ?_); rintro e w1 ⟨rfl, rfl⟩)
    go_ret2
    exact ⟨rfl, rfl⟩
theorem at_any (w : World) (t : Nat) (T : Tb) (id : Int) (F : Assn) (h : Sat w (tableA t T * F)) :
    Calls Tryz.prog 40 #[.pointer (some ⟨t, 0, none⟩), .int .i64 id] w (TellsT (told T.ps id) w) := by
  obtain ⟨x, hx⟩ := h.tabOpen
  have ht := told_any w x.g1 T.ps id _ hx.front2
  have c0 : w.cell? ⟨t, 0, none⟩ = some (.slice (some ⟨x.g1, 0, none⟩) T.ps.length T.ps.length) := hx.cell 0
  generalize told T.ps id = o at ht ⊢
  clear h hx
  go_enter Tryz.func40, Tryz.ntmps40
  go_wp2_with (go_at_call 64; (with_reducible refine ht.mono ?_); rintro e w1 ⟨rfl, rfl⟩; unfold toldV)
  go_ret2
  exact ⟨rfl, rfl⟩
theorem owner_any (w : World) (t : Nat) (T : Tb) (id : Int) (F : Assn) (h : Sat w (tableA t T * F)) :
    Calls Tryz.prog 78 #[.pointer (some ⟨t, 0, none⟩), .int .i64 id] w (TellsT (told T.os id) w) := by
  obtain ⟨x, hx⟩ := h.tabOpen
  have ht := told_any w x.g2 T.os id _ hx.front3
  have c0 : w.cell? ⟨t, 1, none⟩ = some (.slice (some ⟨x.g2, 0, none⟩) T.os.length T.os.length) := hx.cell 1
  generalize told T.os id = o at ht ⊢
  clear h hx
  go_enter Tryz.func78, Tryz.ntmps78
  go_wp2_with (go_at_call 64; (with_reducible refine ht.mono ?_); rintro e w1 ⟨rfl, rfl⟩; unfold toldV)
  go_ret2
  exact ⟨rfl, rfl⟩
theorem told_some {l : List Int} {i p : Int} (h : told l i = some p) : ∃ k : Nat, i = (k : Int) ∧ k < l.length ∧ l.getD k 0 = p ∧ p ≠ -1 := by
  unfold told at h
  split at h
  · rename_i hc
    obtain ⟨h1, h2, h3⟩ := hc
    obtain ⟨k, rfl⟩ := Int.eq_ofNat_of_zero_le h1
    rw [Int.toNat_natCast] at h h3
    have h := Option.some.inj h
    exact ⟨k, rfl, by omega, h, by rw [← h]; exact h3⟩
  · cases h
theorem tb_place {T : Tb} (h : T.Ok) {i p : Int} (ht : told T.ps i = some p) : ∃ j : Nat, p = (j : Int) ∧ j < T.os.length := by
  obtain ⟨k, rfl, hk, hp, hn⟩ := told_some ht
  have hm : p ∈ T.ps := by rw [← hp, List.getD, List.getElem?_eq_getElem hk]; exact List.getElem_mem hk
  rcases h.ps p hm with e | ⟨e1, e2⟩
  · exact absurd e hn
  · obtain ⟨j, rfl⟩ := Int.eq_ofNat_of_zero_le e1
    exact ⟨j, rfl, by omega⟩
def TabQ (t : Nat) (b : Bool) (T : Tb) (F : Assn) (w : World) (e : Ending) (w' : World) : Prop := e = .returned (.bool b) ∧ Sat w' (tableA t T * F) ∧ Side w w'
set_option maxRecDepth 100000 in
set_option maxHeartbeats 1000000 in
theorem drop_any (w : World) (t : Nat) (T : Tb) (id : Int) (F : Assn) (h : Sat w (tableA t T * F)) (hT : T.Ok) :
    Calls Tryz.prog 50 #[.pointer (some ⟨t, 0, none⟩), .int .i64 id] w (TabQ t (T.drop id).1 (T.drop id).2 F w) := by
  have ha := at_any w t T id F h
  unfold Tb.drop
  match hm : told T.ps id with
  | none =>
    rw [hm] at ha
    clear hm
    go_enter Tryz.func50, Tryz.ntmps50
    go_wp2_with (go_at_call 40; (with_reducible refine ha.mono ?_); rintro e w1 ⟨rfl, rfl⟩; unfold toldV)
    go_ret
    exact ⟨rfl, h, Side.refl w⟩
  | some p =>
    rw [hm] at ha
    obtain ⟨k, rfl, hk, _, _⟩ := told_some hm
    obtain ⟨j, rfl, hj⟩ := tb_place hT hm
    obtain ⟨x, hx⟩ := h.tabOpen
    have hk' : (k : Int) < (T.ps.length : Int) := by omega
    have hj' : (j : Int) < (T.os.length : Int) := by omega
    have c0 : w.cell? ⟨t, 0, none⟩ = some (.slice (some ⟨x.g1, 0, none⟩) T.ps.length T.ps.length) := hx.cell 0
    have c1 : w.cell? ⟨t, 1, none⟩ = some (.slice (some ⟨x.g2, 0, none⟩) T.os.length T.os.length) := hx.cell 1
    have s1 : w.cell? ⟨x.g1, k, none⟩ = some (.int .i64 (T.ps.getD k 0)) := (hx.front2.cell k).trans (get_ints_lt hk)
    have f1 := hx.front2.frozen k
    have H2 := (hx.front2.setCell k (.int .i64 (-1)))
    have c0' := H2.front2.cell 0
    have c1' := H2.front2.cell 1
    have s2 : (w.setCell ⟨x.g1, k, none⟩ (.int .i64 (-1))).cell? ⟨x.g2, j, none⟩ = some (.int .i64 (T.os.getD j 0)) := (H2.front3.cell j).trans (get_ints_lt hj)
    have f2 := H2.front3.frozen j
    have H3 := H2.front3.setCell j (.int .i64 (-1))
    have c0'' := H3.front3.cell 0
    have c1'' := H3.front3.cell 1
    have c2'' : ((w.setCell ⟨x.g1, k, none⟩ (.int .i64 (-1))).setCell ⟨x.g2, j, none⟩ (.int .i64 (-1))).cell? ⟨t, 2, none⟩ = some (.int .i64 T.c) := H3.front3.cell 2
    have f2'' := H3.front3.frozen 2
    rw [set_ints] at H3 H2
    rw [set_ints] at H3
    have H4 := SL.hid (H3.front3.setCell 2 (.int .i64 (i64w (T.c - 1))))
    simp only [Int.toNat_natCast]
    generalize T.ps.getD k 0 = vk at s1
    generalize T.os.getD j 0 = vj at s2
    clear hm h hx H2 H3 hT
    go_enter Tryz.func50, Tryz.ntmps50
    go_wp2_with (go_at_call 40; (with_reducible refine ha.mono ?_); rintro e w1 ⟨rfl, rfl⟩; unfold toldV)
    go_region_held3 (fun w' => w'.cell? ⟨t, 0, none⟩ = some (.slice (some ⟨x.g1, 0, none⟩) T.ps.length T.ps.length) ∧ w'.cell? ⟨t, 1, none⟩ = some (.slice (some ⟨x.g2, 0, none⟩) T.os.length T.os.length)) (first | assumption | exact ⟨c0, c1⟩ | exact ⟨c0', c1'⟩ | exact ⟨c0'', c1''⟩) (fail)
    go_wp2
    go_ret
    refine ⟨rfl, Sat.tabShut x ?_, ((((Side.refl w).setCell _ _).setCell _ _).drew).setCell _ _⟩
    simp only [List.length_set]
    exact (H4.out.drew).to (by simp only [List.setIfInBounds_toArray, List.set_cons_zero, List.set_cons_succ]; ac_rfl)
theorem drop_lengths (T : Tb) (id : Int) : (T.drop id).2.ps.length = T.ps.length ∧ (T.drop id).2.os.length = T.os.length := by
  unfold Tb.drop
  split <;> simp
set_option maxRecDepth 100000 in
set_option maxHeartbeats 1000000 in
theorem put_any (w : World) (t : Nat) (T : Tb) (id place : Int) (F : Assn) (h : Sat w (tableA t T * F)) (hT : T.Ok) :
    Calls Tryz.prog 24 #[.pointer (some ⟨t, 0, none⟩), .int .i64 id, .int .i64 place] w (TabQ t (T.put id place).1 (T.put id place).2 F w) := by
  obtain ⟨x, hx⟩ := h.tabOpen
  have c0 : w.cell? ⟨t, 0, none⟩ = some (.slice (some ⟨x.g1, 0, none⟩) T.ps.length T.ps.length) := hx.cell 0
  have c1 : w.cell? ⟨t, 1, none⟩ = some (.slice (some ⟨x.g2, 0, none⟩) T.os.length T.os.length) := hx.cell 1
  have w1 := within_any w (some ⟨x.g1, 0, none⟩) T.ps.length T.ps.length id
  have w2 := within_any w (some ⟨x.g2, 0, none⟩) T.os.length T.os.length place
  by_cases h1 : 0 ≤ id ∧ id < (T.ps.length : Int)
  · rw [show decide (0 ≤ id ∧ id < (T.ps.length : Int)) = true by simpa using h1] at w1
    by_cases h2 : 0 ≤ place ∧ place < (T.os.length : Int)
    · rw [show decide (0 ≤ place ∧ place < (T.os.length : Int)) = true by simpa using h2] at w2
      obtain ⟨k, rfl⟩ := Int.eq_ofNat_of_zero_le h1.1
      obtain ⟨j, rfl⟩ := Int.eq_ofNat_of_zero_le h2.1
      have hk : k < T.ps.length := by omega
      have hj : j < T.os.length := by omega
      have hk' : (k : Int) < (T.ps.length : Int) := by omega
      have hj' : (j : Int) < (T.os.length : Int) := by omega
      have so : w.cell? ⟨x.g2, j, none⟩ = some (.int .i64 (T.os.getD j 0)) := (hx.front3.cell j).trans (get_ints_lt hj)
      by_cases hv : T.os.getD j 0 = -1 ∨ T.os.getD j 0 = (k : Int)
      · have e : T.put (k : Int) (j : Int) = (true, ⟨(T.drop (k : Int)).2.ps.set k (j : Int), (T.drop (k : Int)).2.os.set j (k : Int), i64w ((T.drop (k : Int)).2.c + 1)⟩) := by
          unfold Tb.put; rw [if_pos ⟨h1.1, h1.2, h2.1, h2.2, by simpa using hv⟩]; simp
        have hd := drop_any w t T k F h hT
        obtain ⟨l1, l2⟩ := drop_lengths T k
        rw [e]
        generalize hD : (T.drop (k : Int)).2 = D at hd l1 l2 ⊢
        generalize (T.drop (k : Int)).1 = db at hd
        have hvb : ((T.os.getD j 0 != -1) = false) ∨ ((T.os.getD j 0 != -1) = true ∧ (T.os.getD j 0 != (k : Int)) = false) := by
          rcases hv with hv | hv
          · left; rw [hv]; rfl
          · by_cases hq : T.os.getD j 0 = -1
            · left; rw [hq]; rfl
            · right; exact ⟨by simpa using hq, by rw [hv]; simp⟩
        clear e hv h1 h2 h hx hT hD
        generalize T.os.getD j 0 = v at so hvb
        have Hl1 := SL.hid l1; have Hl2 := SL.hid l2; clear l1 l2
        rcases hvb with hvb | ⟨hvb, hvb2⟩
        all_goals
          go_enter Tryz.func24, Tryz.ntmps24
          go_wp2_with (first
            | (go_at_call_of 49 (Value.int .i64 (k : Int)); (with_reducible refine w1.mono ?_); rintro e w1' ⟨rfl, rfl⟩)
            | (go_at_call_of 49 (Value.int .i64 (j : Int)); (with_reducible refine w2.mono ?_); rintro e w1' ⟨rfl, rfl⟩))
          (with_reducible refine hd.mono ?_)
          rintro e w3 ⟨rfl, h3, d3⟩
          obtain ⟨y, hy⟩ := h3.tabOpen
          rw [Hl1.out, Hl2.out] at hy
          have hk1 : k < D.ps.length := by rw [Hl1.out]; exact hk
          have hj1 : j < D.os.length := by rw [Hl2.out]; exact hj
          have c0 : w3.cell? ⟨t, 0, none⟩ = some (.slice (some ⟨y.g1, 0, none⟩) T.ps.length T.ps.length) := hy.cell 0
          have c1 : w3.cell? ⟨t, 1, none⟩ = some (.slice (some ⟨y.g2, 0, none⟩) T.os.length T.os.length) := hy.cell 1
          have s1 : w3.cell? ⟨y.g1, k, none⟩ = some (.int .i64 (D.ps.getD k 0)) := (hy.front2.cell k).trans (get_ints_lt hk1)
          have f1 := hy.front2.frozen k
          have H2 := (hy.front2.setCell k (.int .i64 (j : Int)))
          have c0' := H2.front2.cell 0
          have c1' := H2.front2.cell 1
          have s2 : (w3.setCell ⟨y.g1, k, none⟩ (.int .i64 (j : Int))).cell? ⟨y.g2, j, none⟩ = some (.int .i64 (D.os.getD j 0)) := (H2.front3.cell j).trans (get_ints_lt hj1)
          have f2 := H2.front3.frozen j
          have H3 := H2.front3.setCell j (.int .i64 (k : Int))
          have c0'' := H3.front3.cell 0
          have c1'' := H3.front3.cell 1
          have c2'' : ((w3.setCell ⟨y.g1, k, none⟩ (.int .i64 (j : Int))).setCell ⟨y.g2, j, none⟩ (.int .i64 (k : Int))).cell? ⟨t, 2, none⟩ = some (.int .i64 D.c) := H3.front3.cell 2
          have f2'' := H3.front3.frozen 2
          rw [set_ints] at H3 H2
          rw [set_ints] at H3
          have H4 := SL.hid (H3.front3.setCell 2 (.int .i64 (i64w (D.c + 1))))
          generalize D.ps.getD k 0 = vk at s1
          generalize D.os.getD j 0 = vj at s2
          clear hd w1 w2 so h3 hy H2 H3 hvb
          go_wp2
          go_region_held3 (fun w' => w'.cell? ⟨t, 0, none⟩ = some (.slice (some ⟨y.g1, 0, none⟩) T.ps.length T.ps.length) ∧ w'.cell? ⟨t, 1, none⟩ = some (.slice (some ⟨y.g2, 0, none⟩) T.os.length T.os.length)) (first | assumption | exact ⟨c0, c1⟩ | exact ⟨c0', c1'⟩ | exact ⟨c0'', c1''⟩) (fail)
          go_wp2
          go_ret
          refine ⟨rfl, Sat.tabShut y ?_, (((d3.setCell _ _).setCell _ _).drew).setCell _ _⟩
          simp only [List.length_set, Hl1.out, Hl2.out]
          exact (H4.out.drew).to (by simp only [List.setIfInBounds_toArray, List.set_cons_zero, List.set_cons_succ]; ac_rfl)
      · have e : T.put (k : Int) (j : Int) = (false, T) := by
          unfold Tb.put; rw [if_neg]; rintro ⟨_, _, _, _, h5⟩; exact hv (by simpa using h5)
        rw [e]
        have hvb : (T.os.getD j 0 != -1) = true := by simp only [bne_iff_ne, ne_eq]; exact fun q => hv (.inl q)
        have hvb2 : (T.os.getD j 0 != (k : Int)) = true := by simp only [bne_iff_ne, ne_eq]; exact fun q => hv (.inr q)
        have H := SL.hid h
        clear e hv h1 h2 h hx hT
        generalize T.os.getD j 0 = v at so hvb hvb2
        go_enter Tryz.func24, Tryz.ntmps24
        go_wp2_with (first
          | (go_at_call_of 49 (Value.int .i64 (k : Int)); (with_reducible refine w1.mono ?_); rintro e w1' ⟨rfl, rfl⟩)
          | (go_at_call_of 49 (Value.int .i64 (j : Int)); (with_reducible refine w2.mono ?_); rintro e w1' ⟨rfl, rfl⟩))
        go_ret
        exact ⟨rfl, H.out, Side.refl w⟩
    · rw [show decide (0 ≤ place ∧ place < (T.os.length : Int)) = false by simpa using h2] at w2
      have e : T.put id place = (false, T) := by
        unfold Tb.put; rw [if_neg]; rintro ⟨_, _, h3, h4, _⟩; exact h2 ⟨h3, h4⟩
      rw [e]
      have H := SL.hid h
      clear e h1 h2 h hx hT
      go_enter Tryz.func24, Tryz.ntmps24
      go_wp2_with fail
      refine w1.mono ?_
      rintro e w1' ⟨rfl, rfl⟩
      clear w1
      go_wp2_with fail
      refine w2.mono ?_
      rintro e w1' ⟨rfl, rfl⟩
      clear w2
      go_wp2
      go_ret
      exact ⟨rfl, H.out, Side.refl w⟩
  · rw [show decide (0 ≤ id ∧ id < (T.ps.length : Int)) = false by simpa using h1] at w1
    have e : T.put id place = (false, T) := by
      unfold Tb.put; rw [if_neg]; rintro ⟨h3, h4, _⟩; exact h1 ⟨h3, h4⟩
    rw [e]
    have H := SL.hid h
    clear e h1 h hx hT w2
    go_enter Tryz.func24, Tryz.ntmps24
    go_wp2_with (go_at_call 49; (with_reducible refine w1.mono ?_); rintro e w1' ⟨rfl, rfl⟩)
    go_ret
    exact ⟨rfl, H.out, Side.refl w⟩
end Go.Proofs.YtlfooilcngjeiaaGreat
namespace Go.Proofs.YtlfooilcngjeiaaGreat
set_option linter.unusedVariables false
set_option linter.unusedSimpArgs false
open Go.RowKit Go.SL
attribute [local go_sem] Oper.semAt_some
def EmptyQ (n : Nat) (w : World) (e : Ending) (w' : World) : Prop := ∃ g, e = .returned (.slice (some ⟨g, 0, none⟩) n n) ∧ Sat w' (pt g (.cells (ints (List.replicate n (-1))) 3 (0, 0)) * whole w) ∧ Side w w'
def EmptyRel (g : Nat) (n : Nat) (w : World) (u : Value) (wr : World) : Prop :=
  ∃ k : Nat, k ≤ n ∧ u = .int .i64 k ∧ Sat wr (pt g (.cells (ints (List.replicate k (-1) ++ List.replicate (n - k) 0)) 3 (0, 0)) * whole w) ∧ Side w wr
set_option maxRecDepth 100000 in
set_option maxHeartbeats 1000000 in
theorem empty_any (n : Nat) (w : World) (h2 : n ≤ 1048576) : Calls Tryz.prog 47 #[.int .i64 n] w (EmptyQ n w) := by
  have hn1 : (0 : Int) ≤ (n : Int) := by omega
  have hn2 : (n : Int) ≤ 1048576 := by omega
  have hmk := make_ints n h2 w
  have hA := ((Sat.whole w).alloc (.cells (ints (List.replicate n 0)) 3 (0, 0)))
  have hs := ((Side.refl w).alloc (.cells (ints (List.replicate n 0)) 3 (0, 0)))
  go_enter Tryz.func47, Tryz.ntmps47
  go_wp2
  generalize w.alloc (.cells (ints (List.replicate n 0)) 3 (0, 0)) = w1 at hA hs ⊢
  generalize w.heap.size = g at hA ⊢
  clear hmk
  go_loopw [11] (fun u wr => EmptyRel g n w u wr) (fun u _ => n - (intOf u).toNat)
  case atStart => exact ⟨0, Nat.zero_le _, rfl, hA.to (by simp only [List.replicate_zero, List.nil_append, Nat.sub_zero]), hs⟩
  case round =>
    obtain ⟨k, hk, rfl, hsat, hside⟩ := hrel
    clear hA hs
    have hl : (List.replicate k (-1) ++ List.replicate (n - k) (0 : Int)).length = n := by simp; omega
    by_cases hlt : k < n
    · have hlt' : (k : Int) < (n : Int) := by omega
      have hv : wr.cell? ⟨g, k, none⟩ = some (.int .i64 ((List.replicate k (-1) ++ List.replicate (n - k) (0 : Int)).getD k 0)) := (hsat.cell k).trans (get_ints_lt (by rw [hl]; exact hlt))
      have hf := hsat.frozen k
      generalize (List.replicate k (-1) ++ List.replicate (n - k) (0 : Int)).getD k 0 = q at hv
      have h4 := hsat.setCell k (.int .i64 (-1))
      rw [set_ints, fill_next n k (-1) hlt] at h4
      have H4 := SL.hid h4
      clear hsat h4 hl
      go_wp2
      go_roundw
      case rel => exact ⟨k + 1, by omega, by go_num, H4.out, hside.setCell _ _⟩
      case measure => simp [intOf]; omega
    · obtain rfl : k = n := by omega
      rw [Nat.sub_self, List.replicate_zero, List.append_nil] at hsat
      have H4 := SL.hid hsat
      clear hsat hl hlt
      go_wp2
      go_ret
      exact ⟨g, rfl, H4.out, hside⟩
def TabNewQ (b p : Nat) (w : World) (e : Ending) (w' : World) : Prop := ∃ t, e = .returned (.pointer (some ⟨t, 0, none⟩)) ∧ Sat w' (tableA t (Tb.fresh b p) * whole w) ∧ Side w w'
set_option maxRecDepth 100000 in
theorem tabNew_any (b p : Nat) (w : World) (hb : b ≤ 1048576) (hp : p ≤ 1048576) : Calls Tryz.prog 22 #[.int .i64 b, .int .i64 p] w (TabNewQ b p w) := by
  go_enter Tryz.func22, Tryz.ntmps22
  go_wp2_with fail
  refine (empty_any b w hb).mono ?_
  rintro e w1 ⟨g1, rfl, h1, d1⟩
  go_wp2_with fail
  refine (empty_any p w1 hp).mono ?_
  rintro e w2 ⟨g2, rfl, h2, d2⟩
  have h3 := (h2.under h1).alloc (.cells #[.slice (some ⟨g1, 0, none⟩) b b, .slice (some ⟨g2, 0, none⟩) p p, .int .i64 0] 116 (0, 0))
  go_wp2
  go_ret
  refine ⟨_, rfl, Sat.tabShut ⟨g1, g2⟩ ?_, (d1.trans d2).alloc _⟩
  exact h3.to (by simp only [Tb.fresh, List.length_replicate]; ac_rfl)
/-- Blocks that are anywhere, rising, each with its place. -/
def tbAll (T : Tb) : List (Int × Int) := (List.range T.ps.length).filterMap fun i : Nat => (told T.ps (i : Int)).map fun p => ((i : Int), p)
def allN (T : Tb) (k : Nat) : List (Int × Int) := (List.range k).filterMap fun i : Nat => (told T.ps (i : Int)).map fun p => ((i : Int), p)
theorem allN_succ (T : Tb) (k : Nat) : allN T (k + 1) = allN T k ++ (match told T.ps (k : Int) with | some p => [((k : Int), p)] | none => []) := by
  unfold allN
  rw [List.range_succ, List.filterMap_append]
  congr 1
  cases h : told T.ps (k : Int) <;> simp [List.filterMap_cons, h]
theorem allN_prefix (T : Tb) {k n : Nat} (h : k ≤ n) : allN T k <+: allN T n := by
  obtain ⟨m, rfl⟩ := Nat.le.dest h
  clear h
  induction m with
  | zero => exact List.prefix_refl _
  | succ m ih => rw [show k + (m + 1) = (k + m) + 1 by omega, allN_succ]; exact ih.trans (List.prefix_append _ _)
def pairT (x : Int × Int) (vs : Array Value) : Assn := fact (vs = #[.int .i64 x.1, .int .i64 x.2])
def AllTF (p : Option Addr) (w : World) (e : Ending) (w' : World) : Prop := e = .returned (.func (.func 63) #[] #[.pointer (some ⟨w.heap.size, 0, none⟩)]) ∧ w' = w.alloc (.cells #[.pointer p] 69 (0, 0))
theorem allT_any (w : World) (p : Option Addr) : Calls Tryz.prog 38 #[.pointer p] w (AllTF p w) := by
  go_enter Tryz.func38, Tryz.ntmps38
  go_wp2
  go_ret
  exact ⟨rfl, rfl⟩
def AllTIt (bx t : Nat) (T : Tb) : Assn := pt bx (.cells #[.pointer (some ⟨t, 0, none⟩)] 69 (0, 0)) * tableA t T
def AllTRel (A : List (Int × Int) → Assn) (T : Tb) (X : Assn) (w0 : World) (i : Value) (wr : World) : Prop :=
  ∃ k : Nat, k ≤ T.ps.length ∧ i = .int .i64 (k : Int) ∧ Side w0 wr ∧ Sat wr (A (allN T k) * X)
set_option maxRecDepth 100000 in
set_option maxHeartbeats 2000000 in
theorem allT_iter (n : Nat) (bx t : Nat) (T : Tb) (hT : T.ps.length ≤ 1048576) :
    Iterates Fence.wide n Tryz.prog 63 #[.pointer (some ⟨bx, 0, none⟩)] (AllTIt bx t T) pairT (fun ys => ys = tbAll T) (fun ys => ys <+: tbAll T) := by
  intro lp A Ax G w0 w hY hs h0
  have hB : Sat w (tableA t T * (pt bx (.cells #[.pointer (some ⟨t, 0, none⟩)] 69 (0, 0)) * (A [] * G))) := h0.to (by unfold AllTIt; ac_rfl)
  have hbx := hB.front2.cell 0
  obtain ⟨x, hx⟩ := hB.tabOpen
  have c0 : w.cell? ⟨t, 0, none⟩ = some (.slice (some ⟨x.g1, 0, none⟩) T.ps.length T.ps.length) := hx.cell 0
  have hl1 : (T.ps.length : Int) ≤ 1048576 := by omega
  have hpre : Hid (∀ k, k ≤ T.ps.length → allN T k <+: tbAll T) := fun k hk => allN_prefix T hk
  clear hB hx
  refine callsIn_of_wp Tryz.func63 rfl trivial ?_ rfl
  simp only [Tryz.ntmps63, List.size_toArray, List.length_cons, List.length_nil, Nat.reduceAdd, Nat.reduceSub, Array.replicate_succ, Array.replicate_zero, List.push_toArray, List.append_toArray, List.nil_append, List.cons_append]
  gi_wp2
  gi_loopw [11] (fun i wr => AllTRel A T (AllTIt bx t T * G) w0 i wr) (fun i _ => T.ps.length - (intOf i).toNat)
  case atStart => exact ⟨0, Nat.zero_le _, rfl, hs, h0⟩
  case round =>
    clear h0 hbx c0
    obtain ⟨k, hk, rfl, hside, hsat⟩ := hrel
    have hB : Sat wr (tableA t T * (pt bx (.cells #[.pointer (some ⟨t, 0, none⟩)] 69 (0, 0)) * (A (allN T k) * G))) := hsat.to (by unfold AllTIt; ac_rfl)
    have hbx := hB.front2.cell 0
    have ha := at_any wr t T (k : Int) _ hB
    by_cases hlt : k < T.ps.length
    · have hlt' : (k : Int) < (T.ps.length : Int) := by omega
      have hsn := allN_succ T k
      have hpk := hpre.out (k + 1) (by omega)
      clear hB
      match hm : told T.ps (k : Int) with
      | none =>
        rw [hm] at ha hsn
        simp only [List.append_nil] at hsn
        have Hsn := hid hsn
        clear hsn hm hpk
        gi_wp2_with fail
        refine callW ha ?_
        rintro e w1 ⟨rfl, rfl⟩
        unfold toldV
        clear ha
        gi_wp2
        refine ⟨fun f hf => (by cases hf), ?_⟩
        gi_wp2
        go_roundw
        case rel => exact ⟨k + 1, by omega, by go_num, hside, by rw [Hsn.out]; exact hsat⟩
        case measure => simp [intOf]; omega
      | some p =>
        rw [hm] at ha hsn
        simp only at hsn
        rw [hsn] at hpk
        have hT2 : Sat wr (A (allN T k) * (pairT ((k : Int), p) #[.int .i64 (k : Int), .int .i64 p] * (AllTIt bx t T * G))) :=
          (Sat.fact_iff.2 ⟨rfl, hsat⟩ : Sat wr (fact _ * _)).to (by unfold pairT; ac_rfl)
        obtain ⟨fn, tmps, assign, body, hy, hR⟩ := hY _ ((k : Int), p) #[.int .i64 (k : Int), .int .i64 p] _ wr hpk hside hT2
        have Hsn := hid hsn; have Hpk := hid hpk
        clear hsn hm hpk hT2 hsat
        gi_wp2_with fail
        refine callW ha ?_
        rintro e w1 ⟨rfl, rfl⟩
        unfold toldV
        clear ha
        gi_wp2
        refine ⟨fun h => (by cases h), hR.mono ?_⟩
        rintro e W' (⟨rfl, hs5, hsat5⟩ | ⟨rfl, hs5, hsat5⟩)
        · gi_wp2
          go_roundw
          case rel => exact ⟨k + 1, by omega, by go_num, hs5, by rw [Hsn.out]; exact hsat5⟩
          case measure => simp [intOf]; omega
        · gi_wp2
          refine bodyPost_ret (results_none rfl _ _ _) rfl ?_
          exact ⟨⟨_, rfl⟩, hs5, .inr ⟨_, Hpk.out, hsat5⟩⟩
    · obtain rfl : k = T.ps.length := by omega
      clear hB ha
      gi_wp2
      go_end0
      exact ⟨⟨_, rfl⟩, hside, .inl ⟨_, rfl, hsat⟩⟩
end Go.Proofs.YtlfooilcngjeiaaGreat

/- journal: batch. -/
import Derived.Test.YtlfooilcngjeiaaGreatJf
import Derived.BigQuiet
namespace Go.SL
set_option linter.unusedVariables false
set_option linter.unusedSimpArgs false
open Go.RowKit
/-- Writes: a number, the slice, the bytes that it has. -/
abbrev Wr := Int × Value × List UInt8
def Wr.nil : Wr := (0, .slice none 0 0, [])
def RdW (w : World) (v : Value) (Z : List Wr) : Prop :=
  (v = .slice none 0 0 ∧ Z = []) ∨ ∃ g o c, v = .slice (some ⟨g, o, none⟩) Z.length c ∧ Z.length ≤ c ∧ c ≤ maxLen ∧
    ∀ k, k < Z.length → w.cell? ⟨g, o + k * 2, none⟩ = some (.int .i64 (Z.getD k Wr.nil).1) ∧ w.cell? ⟨g, o + k * 2 + 1, none⟩ = some (Z.getD k Wr.nil).2.1
theorem RdW.under {w w' : World} {X : Assn} {v : Value} {Z : List Wr} (h : RdW w v Z) (hs : Sat w' (X * whole w)) : RdW w' v Z := by
  rcases h with h | ⟨g, o, c, h1, h2, h3, h4⟩
  · exact .inl h
  · exact .inr ⟨g, o, c, h1, h2, h3, fun k hk => ⟨hs.cellOld (h4 k hk).1, hs.cellOld (h4 k hk).2⟩⟩
def ownN (Z : List Wr) : Nat → KV
  | 0 => []
  | k + 1 => ownN Z k ++ [((Z.getD k Wr.nil).1, .int .i64 (k : Int))]
def okW (n : Int) (Z : List Wr) (k : Nat) : Prop :=
  0 ≤ (Z.getD k Wr.nil).1 ∧ (Z.getD k Wr.nil).1 < n ∧ (Z.getD k Wr.nil).2.2.length = 480 ∧ (Z.getD k Wr.nil).1 ∉ (Z.take k).map Prod.fst
structure mayW (n : Int) (Z : List Wr) : Prop where
  n0 : 1 ≤ Z.length
  n1 : Z.length ≤ 24
  ok : ∀ k, k < Z.length → okW n Z k
theorem ownN_keys (Z : List Wr) (k : Nat) (hk : k ≤ Z.length) : (ownN Z k).map Prod.fst = (Z.take k).map Prod.fst := by
  induction k with
  | zero => simp [ownN]
  | succ k ih =>
    have ht : Z.take (k + 1) = Z.take k ++ [Z.getD k Wr.nil] := by
      rw [List.take_add_one, List.getD, List.getElem?_eq_getElem (by omega)]; rfl
    rw [ht, ownN, List.map_append, List.map_append, ih (by omega)]; rfl
theorem ownN_kget {Z : List Wr} {k : Nat} (hk : k ≤ Z.length) (v : Int) : (kget (ownN Z k) v).isSome = decide (v ∈ (Z.take k).map Prod.fst) := by
  rw [Bool.eq_iff_iff, decide_eq_true_iff, ← ownN_keys Z k hk]
  cases h : kget (ownN Z k) v with
  | none =>
    have := look_none.1 h
    simp only [Option.isSome_none, Bool.false_eq_true, this]
  | some x =>
    have hm : v ∈ (ownN Z k).map Prod.fst := Classical.byContradiction fun q => by rw [look_none.2 q] at h; cases h
    simp only [Option.isSome_some, hm]
end Go.SL
namespace Go.Proofs.YtlfooilcngjeiaaGreat
set_option linter.unusedVariables false
set_option linter.unusedSimpArgs false
open Go.RowKit Go.SL
theorem side_drewN {a b : World} (h : Side a b) (n : Nat) : Side a (b.drewN n) := h.trans ⟨rfl, rfl, rfl, Nat.le_refl _⟩
def BatchNo (w : World) (e : Ending) (w' : World) : Prop := e = .returned (.tuple #[.map none, .bool false]) ∧ Sat w' (whole w) ∧ Side w w'
def BatchYes (Z : List Wr) (w : World) (e : Ending) (w' : World) : Prop := ∃ m, e = .returned (.tuple #[.map (some m), .bool true]) ∧ Sat w' (mp m (ownN Z Z.length) * whole w) ∧ Side w w'
def BatchQ (B : Bool) (Z : List Wr) (w : World) (e : Ending) (w' : World) : Prop := if B then BatchYes Z w e w' else BatchNo w e w'
def BatchRel (n : Int) (Z : List Wr) (len m : Nat) (w : World) (u : Value) (wr : World) : Prop :=
  ∃ k : Nat, k ≤ len ∧ u = .int .i64 (k : Int) ∧ (∀ i, i < k → okW n Z i) ∧ Sat wr (mp m (ownN Z k) * whole w) ∧ Side w wr
set_option maxRecDepth 100000 in
set_option maxHeartbeats 4000000 in
theorem jbatch_any (w : World) (j d : Nat) (J : Jr) (F : Assn) (h : Sat w (jrA j d J * F)) (v : Value) (Z : List Wr) (hv : RdW w v Z) (hs : ∀ z ∈ Z, ∃ a c, z.2.1 = .slice a z.2.2.length c) (hl : Z.length ≤ 1000000) (B : Bool) (hB : B = true ↔ mayW J.n Z) :
    Calls Tryz.prog 25 #[ptV j, v] w (BatchQ B Z w) := by
  obtain ⟨r, t, hx⟩ := h.jrOpen
  have c3 : w.cell? ⟨j, 3, none⟩ = some (.int .i64 J.n) := hx.cell 3
  clear h hx
  have HB := SL.hid hB
  have no : Hid (¬ mayW J.n Z → B = false) := fun h => Bool.eq_false_iff.2 fun hb => h (hB.1 hb)
  clear hB
  obtain ⟨n, hn⟩ : ∃ n, n = Z.length := ⟨_, rfl⟩
  obtain ⟨aa, ac, hav⟩ : ∃ aa ac, v = .slice aa n ac := by
    rcases hv with ⟨rfl, h⟩ | ⟨g, o, c, rfl, _⟩
    · rw [hn, h]; exact ⟨_, _, rfl⟩
    · rw [hn]; exact ⟨_, _, rfl⟩
  subst hav
  rw [← hn] at hl
  have Hn := SL.hid hn
  have Hv := SL.hid hv
  have Hs := SL.hid hs
  clear hn hv hs
  have hl' : (n : Int) ≤ 1000000 := by omega
  by_cases h9 : n < 1
  · have e := no.out fun h => by have := h.n0; have := Hn.out; omega
    subst e
    obtain rfl : n = 0 := by omega
    go_enter Tryz.func25, Tryz.ntmps25
    go_wp2
    go_ret2
    exact ⟨rfl, Sat.whole w, Side.refl w⟩
  have h9' : ¬ (n : Int) < 1 := by omega
  by_cases h10 : 24 < (n : Int)
  · have e := no.out fun h => by have := h.n1; have := Hn.out; omega
    subst e
    go_enter Tryz.func25, Tryz.ntmps25
    go_wp2
    go_ret2
    exact ⟨rfl, Sat.whole w, Side.refl w⟩
  have hmm := @run_makeMap_some Tryz.prog _ _ _ Tryz.underlying75
  have hm2 := ((Sat.whole w).alloc (.map #[] 0)).mpOf isMap_empty
  have hs2 := (Side.refl w).alloc (.map #[] 0)
  go_enter Tryz.func25, Tryz.ntmps25
  go_wp2
  generalize w.alloc (.map #[] 0) = w2 at hm2 hs2 ⊢
  generalize w.heap.size = m at hm2 ⊢
  clear hmm
  go_loopw [24] (fun u wr => BatchRel J.n Z n m w u wr) (fun u _ => n - (intOf u).toNat)
  case atStart => exact ⟨0, Nat.zero_le _, rfl, fun i hi => absurd hi (Nat.not_lt_zero i), hm2, hs2⟩
  case round =>
    clear hm2 hs2
    obtain ⟨k, hk, rfl, hok, hsat, hside⟩ := hrel
    by_cases hlt : k < n
    · have hlt' : (k : Int) < (n : Int) := by omega
      obtain ⟨g, o, rfl, hcell⟩ : ∃ g o, aa = some ⟨g, o, none⟩ ∧ (wr.cell? ⟨g, o + k * 2, none⟩ = some (.int .i64 (Z.getD k Wr.nil).1) ∧ wr.cell? ⟨g, o + k * 2 + 1, none⟩ = some (Z.getD k Wr.nil).2.1) := by
        have hn := Hn.out
        rcases Hv.out with ⟨h, h0⟩ | ⟨g, o, c, h, _, _, hc⟩
        · rw [h0] at hn; simp at hn; omega
        · injection h with e1 e2 e3
          exact ⟨g, o, e1, hsat.cellOld (hc k (by omega)).1, hsat.cellOld (hc k (by omega)).2⟩
      obtain ⟨da, dc, hda⟩ := Hs.out (Z.getD k Wr.nil) (by rw [List.getD, List.getElem?_eq_getElem (by have := Hn.out; omega)]; exact List.getElem_mem _)
      have k3 : wr.cell? ⟨j, 3, none⟩ = some (.int .i64 J.n) := hsat.cellOld c3
      have hkg := ownN_kget (Z := Z) (k := k) (by have := Hn.out; omega) (Z.getD k Wr.nil).1
      have htk : ownN Z (k + 1) = ownN Z k ++ [((Z.getD k Wr.nil).1, .int .i64 (k : Int))] := rfl
      have hokk : okW J.n Z k ↔ (0 ≤ (Z.getD k Wr.nil).1 ∧ (Z.getD k Wr.nil).1 < J.n ∧ (Z.getD k Wr.nil).2.2.length = 480 ∧ (Z.getD k Wr.nil).1 ∉ (Z.take k).map Prod.fst) := Iff.rfl
      have hbad : ¬ okW J.n Z k → ¬ mayW J.n Z := fun q h => q (h.ok k (by have := Hn.out; omega))
      have hnext : okW J.n Z k → ∀ i, i < k + 1 → okW J.n Z i := fun q i hi => by
        rcases Nat.lt_or_eq_of_le (Nat.lt_succ_iff.1 hi) with h | h
        · exact hok i h
        · rw [h]; exact q
      generalize Z.getD k Wr.nil = z at hcell htk hokk hda hkg
      obtain ⟨id, dv, db⟩ := z
      simp only at hcell htk hokk hda hkg
      subst hda
      obtain ⟨hc1, hc2⟩ := hcell
      have hW := hsat.alloc (.cells #[.int .i64 id, .slice da db.length dc] 41 (0, 0))
      have dW := hside.alloc (.cells #[.int .i64 id, .slice da db.length dc] 41 (0, 0))
      have a0 : (wr.alloc (.cells #[.int .i64 id, .slice da db.length dc] 41 (0, 0))).cell? ⟨wr.heap.size, 0, none⟩ = some (.int .i64 id) := hW.cell 0
      have a1 : (wr.alloc (.cells #[.int .i64 id, .slice da db.length dc] 41 (0, 0))).cell? ⟨wr.heap.size, 1, none⟩ = some (.slice da db.length dc) := hW.cell 1
      have a3 : (wr.alloc (.cells #[.int .i64 id, .slice da db.length dc] 41 (0, 0))).cell? ⟨j, 3, none⟩ = some (.int .i64 J.n) := cell_alloc _ _ _ _ k3
      have Htk := SL.hid htk; have Hokk := SL.hid hokk; have Hbad := SL.hid hbad; have Hnext := SL.hid hnext
      have hlk := 0
      clear htk hokk hbad hnext hsat
      by_cases hi0 : id < 0
      · have e := no.out (Hbad.out fun q => by have := Hokk.out.1 q; omega)
        subst e
        clear hlk hkg
        go_wp2_with fail
        generalize wr.alloc (.cells #[.int .i64 id, .slice da db.length dc] 41 (0, 0)) = wA at hW dW a0 a1 a3 ⊢
        go_quiet (fail)
        go_wp2
        go_ret2
        exact ⟨rfl, hW.right.right.drew, side_drewN dW _⟩
      by_cases hin : J.n ≤ id
      · have e := no.out (Hbad.out fun q => by have := Hokk.out.1 q; omega)
        subst e
        clear hlk hkg
        go_wp2_with fail
        generalize wr.alloc (.cells #[.int .i64 id, .slice da db.length dc] 41 (0, 0)) = wA at hW dW a0 a1 a3 ⊢
        go_quiet (fail)
        go_wp2
        go_ret2
        exact ⟨rfl, hW.right.right.drew, side_drewN dW _⟩
      by_cases hlen : db.length = 480
      · rw [hlen] at hc2 hW dW a0 a1 a3
        have Hok2 : Hid (id ∉ (Z.take k).map Prod.fst → okW J.n Z k) := fun htw => Hokk.out.2 ⟨by omega, by omega, hlen, htw⟩
        clear hlen
        have hlks := fun w' h' => Sat.lookup (P := Tryz.prog) Tryz.underlying75 Tryz.underlying3 (z := .int .i64 0) (by kernel_rfl) (w := w') (F := whole w) (b := m) (M := ownN Z k) h' id true
        clear hlk
        go_wp2_with fail
        generalize wr.alloc (.cells #[.int .i64 id, .slice da 480 dc] 41 (0, 0)) = wA at hW dW a0 a1 a3 ⊢
        go_quiet (fail)
        have hX : Sat (wA.drewN nq) _ := hW
        have dX := side_drewN dW nq
        have b0 : (wA.drewN nq).cell? ⟨wr.heap.size, 0, none⟩ = some (.int .i64 id) := a0
        generalize wA.drewN nq = wB at hX dX b0 ⊢
        have hY := hX.right
        have hlk := hlks wB hY
        clear hlks hW dW a0 a1 a3
        by_cases htw : id ∈ (Z.take k).map Prod.fst
        · have e := no.out (Hbad.out fun q => (Hokk.out.1 q).2.2.2 htw)
          subst e
          rw [hkg, decide_eq_true htw, if_pos True.intro] at hlk
          generalize (kget (ownN Z k) id).getD (.int .i64 0) = vv at hlk
          clear hkg htw
          go_wp2
          go_ret2
          exact ⟨rfl, hY.right, dX⟩
        · have hkn : kget (ownN Z k) id = none := by
            rw [decide_eq_false htw] at hkg
            cases h : kget (ownN Z k) id with
            | none => rfl
            | some x => rw [h] at hkg; cases hkg
          rw [hkg, decide_eq_false htw, if_pos True.intro, hkn, Option.getD_none] at hlk
          obtain ⟨w6, hup, h6, d6, ce⟩ := Sat.mapUpdate (P := Tryz.prog) Tryz.underlying75 Tryz.underlying3 hY id (.int .i64 (k : Int))
          have e6 : SL.upd (ownN Z k) id (.int .i64 (k : Int)) = ownN Z k ++ [(id, .int .i64 (k : Int))] := by unfold SL.upd; rw [hkn]; rfl
          rw [e6, ← Htk.out] at h6
          have D6 := dX.trans d6
          have H6 := SL.hid h6
          have Hx := SL.hid (Hnext.out (Hok2.out htw))
          clear hkg hkn ce e6 h6 htw
          go_wp2
          go_roundw
          case rel => exact ⟨k + 1, by omega, by go_num, Hx.out, H6.out, D6⟩
          case measure => simp [intOf]; omega
      · have hlenb : ((db.length : Int) != 480) = true := by simp; omega
        have e := no.out (Hbad.out fun q => by have := Hokk.out.1 q; omega)
        subst e
        clear hlk hkg
        go_wp2_with fail
        generalize wr.alloc (.cells #[.int .i64 id, .slice da db.length dc] 41 (0, 0)) = wA at hW dW a0 a1 a3 ⊢
        go_quiet (fail)
        go_wp2
        go_ret2
        exact ⟨rfl, hW.right.right.drew, side_drewN dW _⟩
    · obtain rfl : k = n := by omega
      have e := HB.out.2 ⟨by have := Hn.out; omega, by have := Hn.out; omega, by rw [← Hn.out]; exact hok⟩
      subst e
      rw [Hn.out] at hsat
      have H4 := SL.hid hsat
      clear hok hsat hlt
      go_wp2
      go_ret2
      exact ⟨m, rfl, H4.out, hside⟩
end Go.Proofs.YtlfooilcngjeiaaGreat

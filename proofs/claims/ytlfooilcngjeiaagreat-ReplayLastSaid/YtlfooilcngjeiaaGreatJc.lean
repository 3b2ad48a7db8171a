/- journal: Right. -/
import Derived.Test.YtlfooilcngjeiaaGreatJb
namespace Go.SL
set_option linter.unusedVariables false
set_option linter.unusedSimpArgs false
open Go.RowKit
structure Js where
  ep : Int
  st : Int
  sq : Int
  hd : Int
  us : Int
  at_ : List Int
def Js.v (s : Js) (a : Value) : Value := .agg #[.int .u32 s.ep, .int .u64 s.st, .int .u64 s.sq, .int .i64 s.hd, .int .i64 s.us, a]
def jAhead (P hd v : Int) : Int := if hd - v ≤ 0 then hd - v + P else hd - v
def Js.okAt (P : Int) (s : Js) (k : Nat) : Prop :=
  s.at_.getD k 0 = -1 ∨ (0 ≤ s.at_.getD k 0 ∧ s.at_.getD k 0 < P ∧ s.at_.getD k 0 ∉ s.at_.take k ∧ jAhead P s.hd (s.at_.getD k 0) ≤ s.us)
instance (P : Int) (s : Js) (k : Nat) : Decidable (s.okAt P k) := by unfold Js.okAt; infer_instance
structure Js.Right (P : Int) (s : Js) : Prop where
  ep : 1 ≤ s.ep
  sq : s.sq ≤ 281474976710655
  st0 : 1 ≤ s.st
  st1 : s.st ≤ s.sq + 1
  hd0 : 0 ≤ s.hd
  hd1 : s.hd < P
  us0 : 0 ≤ s.us
  us1 : s.us ≤ P
  n0 : 1 ≤ s.at_.length
  n1 : s.at_.length ≤ 3840
  ok : ∀ k, k < s.at_.length → s.okAt P k
def takenN (l : List Int) : Nat → KV
  | 0 => []
  | k + 1 => if l.getD k 0 = -1 then takenN l k else takenN l k ++ [(l.getD k 0, .int .i64 (k : Int))]
theorem takenN_mem (l : List Int) (k : Nat) (hk : k ≤ l.length) (v : Int) (hv : v ≠ -1) : v ∈ (takenN l k).map Prod.fst ↔ v ∈ l.take k := by
  induction k with
  | zero => simp [takenN]
  | succ k ih =>
    have ih := ih (by omega)
    have ht : l.take (k + 1) = l.take k ++ [l.getD k 0] := by
      rw [List.take_add_one, List.getD, List.getElem?_eq_getElem (by omega)]; rfl
    rw [ht, takenN]
    split
    · rename_i h; rw [ih, h]; simp [hv]
    · rw [List.map_append, List.mem_append, List.mem_append, ih]; simp
theorem takenN_kget {l : List Int} {k : Nat} (hk : k ≤ l.length) {v : Int} (hv : v ≠ -1) : (kget (takenN l k) v).isSome = decide (v ∈ l.take k) := by
  rw [Bool.eq_iff_iff, decide_eq_true_iff, ← takenN_mem l k hk v hv]
  cases h : kget (takenN l k) v with
  | none => simpa using look_none.1 h
  | some x =>
    have hm : v ∈ (takenN l k).map Prod.fst := Classical.byContradiction fun q => by rw [look_none.2 q] at h; cases h
    simp only [Option.isSome_some, hm]
end Go.SL
namespace Go.Proofs.YtlfooilcngjeiaaGreat
set_option linter.unusedVariables false
set_option linter.unusedSimpArgs false
open Go.RowKit Go.SL
def RightQ (B : Bool) (w : World) (e : Ending) (w' : World) : Prop := e = .returned (.bool B) ∧ Sat w' (whole w) ∧ Side w w'
def RightRel (P : Int) (s : Js) (n bx m : Nat) (o : Obj) (w : World) (u : Value) (wr : World) : Prop :=
  ∃ k : Nat, k ≤ n ∧ u = .int .i64 (k : Int) ∧ (∀ i, i < k → s.okAt P i) ∧ Sat wr (mp m (takenN s.at_ k) * (pt bx o * whole w)) ∧ Side w wr
set_option maxRecDepth 100000 in
set_option maxHeartbeats 4000000 in
theorem right_any' (P : Int) (s : Js) (a : Value) (w : World) (hP : P ≤ 9223372036854775807) (hP0 : -9223372036854775808 ≤ P) (hq : 0 ≤ s.sq) (hl : s.at_.length ≤ 9223372036854775807) (ha : RdI w a s.at_) (B : Bool) (hB : B = true ↔ s.Right P) :
    Calls Tryz.prog 20 #[.int .i64 P, s.v a] w (RightQ B w) := by
  have HB := SL.hid hB
  have no : Hid (¬ s.Right P → B = false) := fun h => by cases hb : B; · rfl
                                                         · exact absurd (hB.1 hb) h
  clear hB
  obtain ⟨n, hn⟩ : ∃ n, n = s.at_.length := ⟨_, rfl⟩
  obtain ⟨aa, ac, hav⟩ : ∃ aa ac, a = .slice aa n ac := by
    rcases ha with ⟨_, _, rfl, h⟩ | ⟨g, o, c, rfl, _⟩
    · rw [hn, h]; exact ⟨_, _, rfl⟩
    · rw [hn]; exact ⟨_, _, rfl⟩
  subst hav
  rw [← hn] at hl
  have Hn := SL.hid hn
  clear hn
  unfold Js.v
  have hbox := (Sat.whole w).alloc (.cells #[.int .u32 s.ep, .int .u64 s.st, .int .u64 s.sq, .int .i64 s.hd, .int .i64 s.us, .slice aa n ac] 35 (0, 0))
  have hsd := (Side.refl w).alloc (.cells #[.int .u32 s.ep, .int .u64 s.st, .int .u64 s.sq, .int .i64 s.hd, .int .i64 s.us, .slice aa n ac] 35 (0, 0))
  by_cases h1 : s.ep < 1
  · have e := no.out fun h => by have := h.ep; omega
    subst e
    go_enter Tryz.func20, Tryz.ntmps20
    go_wp2
    go_ret
    exact ⟨rfl, hbox.right, hsd⟩
  by_cases h2 : 281474976710655 < s.sq
  · have e := no.out fun h => by have := h.sq; omega
    subst e
    go_enter Tryz.func20, Tryz.ntmps20
    go_wp2
    go_ret
    exact ⟨rfl, hbox.right, hsd⟩
  by_cases h3 : s.st < 1
  · have e := no.out fun h => by have := h.st0; omega
    subst e
    go_enter Tryz.func20, Tryz.ntmps20
    go_wp2
    go_ret
    exact ⟨rfl, hbox.right, hsd⟩
  have hwr : IntKind.u64.wrap (s.sq + 1) = s.sq + 1 := by rw [IntKind.wrap_u64]; omega
  by_cases h4 : s.sq + 1 < s.st
  · have e := no.out fun h => by have := h.st1; omega
    subst e
    go_enter Tryz.func20, Tryz.ntmps20
    go_wp2
    go_ret
    exact ⟨rfl, hbox.right, hsd⟩
  by_cases h5 : s.hd < 0
  · have e := no.out fun h => by have := h.hd0; omega
    subst e
    go_enter Tryz.func20, Tryz.ntmps20
    go_wp2
    go_ret
    exact ⟨rfl, hbox.right, hsd⟩
  by_cases h6 : P ≤ s.hd
  · have e := no.out fun h => by have := h.hd1; omega
    subst e
    go_enter Tryz.func20, Tryz.ntmps20
    go_wp2
    go_ret
    exact ⟨rfl, hbox.right, hsd⟩
  by_cases h7 : s.us < 0
  · have e := no.out fun h => by have := h.us0; omega
    subst e
    go_enter Tryz.func20, Tryz.ntmps20
    go_wp2
    go_ret
    exact ⟨rfl, hbox.right, hsd⟩
  by_cases h8 : P < s.us
  · have e := no.out fun h => by have := h.us1; omega
    subst e
    go_enter Tryz.func20, Tryz.ntmps20
    go_wp2
    go_ret
    exact ⟨rfl, hbox.right, hsd⟩
  by_cases h9 : n < 1
  · have e := no.out fun h => by have := h.n0; have := Hn.out; omega
    subst e
    obtain rfl : n = 0 := by omega
    go_enter Tryz.func20, Tryz.ntmps20
    go_wp2
    go_ret
    exact ⟨rfl, hbox.right, hsd⟩
  have h9' : ¬ (n : Int) < 1 := by omega
  by_cases h10 : 3840 < (n : Int)
  · have e := no.out fun h => by have := h.n1; have := Hn.out; omega
    subst e
    go_enter Tryz.func20, Tryz.ntmps20
    go_wp2
    go_ret
    exact ⟨rfl, hbox.right, hsd⟩
  have hmm := @run_makeMap_some Tryz.prog _ _ _ Tryz.underlying75
  have hm2 := ((hbox.alloc (.map #[] 0)).mpOf isMap_empty)
  have hs2 := hsd.alloc (.map #[] 0)
  rw [World.size_alloc] at hm2
  have hP1 : 1 ≤ P := by omega
  go_enter Tryz.func20, Tryz.ntmps20
  go_wp2
  generalize ((w.alloc (.cells #[.int .u32 s.ep, .int .u64 s.st, .int .u64 s.sq, .int .i64 s.hd, .int .i64 s.us, .slice aa n ac] 35 (0, 0))).alloc (.map #[] 0)) = w2 at hm2 hs2 ⊢
  generalize hbx : w.heap.size = bx at hm2 ⊢
  clear hbox hsd hmm
  go_loopw [58] (fun u wr => RightRel P s n bx (bx + 1) (.cells #[.int .u32 s.ep, .int .u64 s.st, .int .u64 s.sq, .int .i64 s.hd, .int .i64 s.us, .slice aa n ac] 35 (0, 0)) w u wr) (fun u _ => n - (intOf u).toNat)
  case atStart => exact ⟨0, Nat.zero_le _, rfl, fun i hi => absurd hi (Nat.not_lt_zero i), hm2, hs2⟩
  case round =>
    clear hm2 hs2
    obtain ⟨k, hk, rfl, hok, hsat, hside⟩ := hrel
    by_cases hlt : k < n
    · have hlt' : (k : Int) < (n : Int) := by omega
      obtain ⟨g, o, rfl, hcell⟩ : ∃ g o, aa = some ⟨g, o, none⟩ ∧ wr.cell? ⟨g, o + k, none⟩ = some (.int .i64 (s.at_.getD k 0)) := by
        have hn := Hn.out
        rcases ha with ⟨_, _, h, h0⟩ | ⟨g, o, c, h, _, _, hc⟩
        · rw [h0] at hn; simp at hn; omega
        · injection h with e1 e2 e3
          exact ⟨g, o, e1, (hsat.to (by ac_rfl : _ = (mp (bx + 1) (takenN s.at_ k) * pt bx _) * whole w)).cellOld (hc k (by omega))⟩
      have h2s := hsat.front2
      have b3 : wr.cell? ⟨bx, 3, none⟩ = some (.int .i64 s.hd) := h2s.cell 3
      have b4 : wr.cell? ⟨bx, 4, none⟩ = some (.int .i64 s.us) := h2s.cell 4
      have hkg := fun v hv => takenN_kget (l := s.at_) (k := k) (by have := Hn.out; omega) (v := v) hv
      have htk : takenN s.at_ (k + 1) = if s.at_.getD k 0 = -1 then takenN s.at_ k else takenN s.at_ k ++ [(s.at_.getD k 0, .int .i64 (k : Int))] := rfl
      have hokk : s.okAt P k ↔ (s.at_.getD k 0 = -1 ∨ (0 ≤ s.at_.getD k 0 ∧ s.at_.getD k 0 < P ∧ s.at_.getD k 0 ∉ s.at_.take k ∧ jAhead P s.hd (s.at_.getD k 0) ≤ s.us)) := Iff.rfl
      have hbad : ¬ s.okAt P k → ¬ s.Right P := fun q h => q (h.ok k (by have := Hn.out; omega))
      have hnext : s.okAt P k → ∀ i, i < k + 1 → s.okAt P i := fun q i hi => by
        rcases Nat.lt_or_eq_of_le (Nat.lt_succ_iff.1 hi) with h | h
        · exact hok i h
        · rw [h]; exact q
      generalize s.at_.getD k 0 = v at hcell htk hokk
      have hlk := Sat.lookup (P := Tryz.prog) Tryz.underlying75 Tryz.underlying3 (z := .int .i64 0) (by kernel_rfl) hsat v true
      clear ha hok h2s
      by_cases hv : v = -1
      · have hnx := hnext (hokk.2 (.inl hv))
        rw [if_pos hv] at htk
        subst hv
        have Hnx := SL.hid hnx; have Htk := SL.hid htk
        clear hnx htk hlk hkg hokk hbad hnext
        go_wp2
        go_roundw
        case rel => exact ⟨k + 1, by omega, by go_num, Hnx.out, by rw [Htk.out]; exact hsat, hside⟩
        case measure => simp [intOf]; omega
      · have hvb : (v == -1) = false := by simpa using hv
        rw [if_neg hv] at htk
        have hkv := hkg v hv
        have Htk := SL.hid htk; have Hokk := SL.hid hokk; have Hbad := SL.hid hbad; have Hnext := SL.hid hnext
        clear htk hokk hbad hnext hkg
        have ho := hsat.right.right
        by_cases hv0 : v < 0
        · have e := no.out (Hbad.out fun q => by rcases Hokk.out.1 q with q | q <;> omega)
          subst e
          clear hlk hkv
          go_wp2
          go_ret
          exact ⟨rfl, ho, hside⟩
        · by_cases hvP : P ≤ v
          · have e := no.out (Hbad.out fun q => by rcases Hokk.out.1 q with q | q <;> omega)
            subst e
            clear hlk hkv
            go_wp2
            go_ret
            exact ⟨rfl, ho, hside⟩
          · by_cases htw : v ∈ s.at_.take k
            · have e := no.out (Hbad.out fun q => by
                rcases Hokk.out.1 q with q | q
                · exact hv q
                · exact q.2.2.1 htw)
              subst e
              rw [hkv, decide_eq_true htw, if_pos rfl] at hlk
              generalize (kget (takenN s.at_ k) v).getD (.int .i64 0) = vv at hlk
              clear hkv htw
              go_wp2
              go_ret
              exact ⟨rfl, ho, hside⟩
            · have hkn : kget (takenN s.at_ k) v = none := by
                rw [decide_eq_false htw] at hkv
                cases h : kget (takenN s.at_ k) v with
                | none => rfl
                | some x => rw [h] at hkv; cases hkv
              rw [hkv, decide_eq_false htw, if_pos rfl, hkn, Option.getD_none] at hlk
              obtain ⟨w6, hup, h6, d6, ce⟩ := Sat.mapUpdate (P := Tryz.prog) Tryz.underlying75 Tryz.underlying3 hsat v (.int .i64 (k : Int))
              have e6 : SL.upd (takenN s.at_ k) v (.int .i64 (k : Int)) = takenN s.at_ k ++ [(v, .int .i64 (k : Int))] := by unfold SL.upd; rw [hkn]; rfl
              rw [e6, ← Htk.out] at h6
              have c3 : w6.cell? ⟨bx, 3, none⟩ = some (.int .i64 s.hd) := (ce.1 _).trans b3
              have c4 : w6.cell? ⟨bx, 4, none⟩ = some (.int .i64 s.us) := (ce.1 _).trans b4
              have hw1 : IntKind.i64.wrap (s.hd - v) = s.hd - v := by rw [IntKind.wrap_i64]; omega
              have D6 := hside.trans d6
              have h7 := h6.right.right
              have H6 := SL.hid h6
              have Htw := SL.hid htw
              clear hkv hkn ce e6 h6 htw ho
              by_cases hah : s.hd - v ≤ 0
              · have hw2 : IntKind.i64.wrap (s.hd - v + P) = s.hd - v + P := by rw [IntKind.wrap_i64]; omega
                have ha : jAhead P s.hd v = s.hd - v + P := by unfold jAhead; rw [if_pos hah]
                by_cases hgt : s.us < s.hd - v + P
                · have e := no.out (Hbad.out fun q => by rcases Hokk.out.1 q with q | q <;> omega)
                  subst e
                  clear ha
                  go_wp2
                  go_ret
                  exact ⟨rfl, h7, D6⟩
                · have Hx := SL.hid (Hnext.out (Hokk.out.2 (.inr ⟨by omega, by omega, Htw.out, by omega⟩)))
                  clear ha
                  go_wp2
                  go_roundw
                  case rel => exact ⟨k + 1, by omega, by go_num, Hx.out, H6.out, D6⟩
                  case measure => simp [intOf]; omega
              · have ha : jAhead P s.hd v = s.hd - v := by unfold jAhead; rw [if_neg hah]
                by_cases hgt : s.us < s.hd - v
                · have e := no.out (Hbad.out fun q => by rcases Hokk.out.1 q with q | q <;> omega)
                  subst e
                  clear ha
                  go_wp2
                  go_ret
                  exact ⟨rfl, h7, D6⟩
                · have Hx := SL.hid (Hnext.out (Hokk.out.2 (.inr ⟨by omega, by omega, Htw.out, by omega⟩)))
                  clear ha
                  go_wp2
                  go_roundw
                  case rel => exact ⟨k + 1, by omega, by go_num, Hx.out, H6.out, D6⟩
                  case measure => simp [intOf]; omega
    · obtain rfl : k = n := by omega
      have e := HB.out.2 ⟨by omega, by omega, by omega, by omega, by omega, by omega, by omega, by omega, by have := Hn.out; omega, by have := Hn.out; omega, by rw [← Hn.out]; exact hok⟩
      subst e
      have h3 := hsat.right.right
      clear hok hsat ha hlt
      go_wp2
      go_ret
      exact ⟨rfl, h3, hside⟩
end Go.Proofs.YtlfooilcngjeiaaGreat

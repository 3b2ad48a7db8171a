/- Steps towards the statement StoreForms. -/
import Derived.Test.YtdafdidmbeecfaaGreatDoorStoreFormsP8
import Derived.Laws.Rows
import Derived.Laws.Tables
import Derived.Test.YtdafdidmbeecfaaGreatDoorStoreFormsP5
section
namespace Go.SL
set_option linter.unusedVariables false
set_option linter.unusedSimpArgs false
open Go.RowKit
structure Js where
  ep : Int
  st : Int
  sq : Int
  hd : Int
  us : Int
  at_ : List Int
def Js.v (s : Js) (a : Value) : Value := .agg #[.int .u32 s.ep, .int .u64 s.st, .int .u64 s.sq, .int .i64 s.hd, .int .i64 s.us, a]
def jAhead (P hd v : Int) : Int := if hd - v ≤ 0 then hd - v + P else hd - v
def Js.okAt (P : Int) (s : Js) (k : Nat) : Prop :=
  s.at_.getD k 0 = -1 ∨ (0 ≤ s.at_.getD k 0 ∧ s.at_.getD k 0 < P ∧ s.at_.getD k 0 ∉ s.at_.take k ∧ jAhead P s.hd (s.at_.getD k 0) ≤ s.us)
instance (P : Int) (s : Js) (k : Nat) : Decidable (s.okAt P k) := by unfold Js.okAt; infer_instance
structure Js.Right (P : Int) (s : Js) : Prop where
  ep : 1 ≤ s.ep
  sq : s.sq ≤ 281474976710655
  st0 : 1 ≤ s.st
  st1 : s.st ≤ s.sq + 1
  hd0 : 0 ≤ s.hd
  hd1 : s.hd < P
  us0 : 0 ≤ s.us
  us1 : s.us ≤ P
  n0 : 1 ≤ s.at_.length
  n1 : s.at_.length ≤ 3840
  ok : ∀ k, k < s.at_.length → s.okAt P k
def takenN (l : List Int) : Nat → KV
  | 0 => []
  | k + 1 => if l.getD k 0 = -1 then takenN l k else takenN l k ++ [(l.getD k 0, .int .i64 (k : Int))]
theorem takenN_mem (l : List Int) (k : Nat) (hk : k ≤ l.length) (v : Int) (hv : v ≠ -1) : v ∈ (takenN l k).map Prod.fst ↔ v ∈ l.take k := by
  induction k with
  | zero => simp [takenN]
  | succ k ih =>
    have ih := ih (by omega)
    have ht : l.take (k + 1) = l.take k ++ [l.getD k 0] := by
      rw [List.take_add_one, List.getD, List.getElem?_eq_getElem (by omega)]; rfl
    rw [ht, takenN]
    split
    · rename_i h; rw [ih, h]; simp [hv]
    · rw [List.map_append, List.mem_append, List.mem_append, ih]; simp
theorem takenN_kget {l : List Int} {k : Nat} (hk : k ≤ l.length) {v : Int} (hv : v ≠ -1) : (kget (takenN l k) v).isSome = decide (v ∈ l.take k) := by
  rw [Bool.eq_iff_iff, decide_eq_true_iff, ← takenN_mem l k hk v hv]
  cases h : kget (takenN l k) v with
  | none => simpa using look_none.1 h
  | some x =>
    have hm : v ∈ (takenN l k).map Prod.fst := Classical.byContradiction fun q => by rw [look_none.2 q] at h; cases h
    simp only [Option.isSome_some, hm]
end Go.SL
namespace Go.Proofs.YtdafdidmbeecfaaGreatDoor
set_option linter.unusedVariables false
set_option linter.unusedSimpArgs false
open Go.RowKit Go.SL
def RightQ (B : Bool) (w : World) (e : Ending) (w' : World) : Prop := e = .returned (.bool B) ∧ Sat w' (whole w) ∧ Side w w'
def RightRel (P : Int) (s : Js) (n bx m : Nat) (o : Obj) (w : World) (u : Value) (wr : World) : Prop :=
  ∃ k : Nat, k ≤ n ∧ u = .int .i64 (k : Int) ∧ (∀ i, i < k → s.okAt P i) ∧ Sat wr (mp m (takenN s.at_ k) * (pt bx o * whole w)) ∧ Side w wr
set_option maxRecDepth 100000 in
set_option maxHeartbeats 4000000 in
theorem right_any' (P : Int) (s : Js) (a : Value) (w : World) (hP : P ≤ 9223372036854775807) (hP0 : -9223372036854775808 ≤ P) (hq : 0 ≤ s.sq) (hl : s.at_.length ≤ 9223372036854775807) (ha : RdI w a s.at_) (B : Bool) (hB : B = true ↔ s.Right P) :
    Calls Tryz.prog 95 #[.int .i64 P, s.v a] w (RightQ B w) := by
  have HB := SL.hid hB
  have no : Hid (¬ s.Right P → B = false) := fun h => by cases hb : B; · rfl
                                                         · exact absurd (hB.1 hb) h
  clear hB
  obtain ⟨n, hn⟩ : ∃ n, n = s.at_.length := ⟨_, rfl⟩
  obtain ⟨aa, ac, hav⟩ : ∃ aa ac, a = .slice aa n ac := by
    rcases ha with ⟨_, _, rfl, h⟩ | ⟨g, o, c, rfl, _⟩
    · rw [hn, h]; exact ⟨_, _, rfl⟩
    · rw [hn]; exact ⟨_, _, rfl⟩
  subst hav
  rw [← hn] at hl
  have Hn := SL.hid hn
  clear hn
  unfold Js.v
  have hbox := (Sat.whole w).alloc (.cells #[.int .u32 s.ep, .int .u64 s.st, .int .u64 s.sq, .int .i64 s.hd, .int .i64 s.us, .slice aa n ac] 86 (0, 0))
  have hsd := (Side.refl w).alloc (.cells #[.int .u32 s.ep, .int .u64 s.st, .int .u64 s.sq, .int .i64 s.hd, .int .i64 s.us, .slice aa n ac] 86 (0, 0))
  by_cases h1 : s.ep < 1
  · have e := no.out fun h => by have := h.ep; omega
    subst e
    go_enter Tryz.func95, Tryz.ntmps95
    go_wp2
    go_ret
    exact ⟨rfl, hbox.right, hsd⟩
  by_cases h2 : 281474976710655 < s.sq
  · have e := no.out fun h => by have := h.sq; omega
    subst e
    go_enter Tryz.func95, Tryz.ntmps95
    go_wp2
    go_ret
    exact ⟨rfl, hbox.right, hsd⟩
  by_cases h3 : s.st < 1
  · have e := no.out fun h => by have := h.st0; omega
    subst e
    go_enter Tryz.func95, Tryz.ntmps95
    go_wp2
    go_ret
    exact ⟨rfl, hbox.right, hsd⟩
  have hwr : IntKind.u64.wrap (s.sq + 1) = s.sq + 1 := by rw [IntKind.wrap_u64]; omega
  by_cases h4 : s.sq + 1 < s.st
  · have e := no.out fun h => by have := h.st1; omega
    subst e
    go_enter Tryz.func95, Tryz.ntmps95
    go_wp2
    go_ret
    exact ⟨rfl, hbox.right, hsd⟩
  by_cases h5 : s.hd < 0
  · have e := no.out fun h => by have := h.hd0; omega
    subst e
    go_enter Tryz.func95, Tryz.ntmps95
    go_wp2
    go_ret
    exact ⟨rfl, hbox.right, hsd⟩
  by_cases h6 : P ≤ s.hd
  · have e := no.out fun h => by have := h.hd1; omega
    subst e
    go_enter Tryz.func95, Tryz.ntmps95
    go_wp2
    go_ret
    exact ⟨rfl, hbox.right, hsd⟩
  by_cases h7 : s.us < 0
  · have e := no.out fun h => by have := h.us0; omega
    subst e
    go_enter Tryz.func95, Tryz.ntmps95
    go_wp2
    go_ret
    exact ⟨rfl, hbox.right, hsd⟩
  by_cases h8 : P < s.us
  · have e := no.out fun h => by have := h.us1; omega
    subst e
    go_enter Tryz.func95, Tryz.ntmps95
    go_wp2
    go_ret
    exact ⟨rfl, hbox.right, hsd⟩
  by_cases h9 : n < 1
  · have e := no.out fun h => by have := h.n0; have := Hn.out; omega
    subst e
    obtain rfl : n = 0 := by omega
    go_enter Tryz.func95, Tryz.ntmps95
    go_wp2
    go_ret
    exact ⟨rfl, hbox.right, hsd⟩
  have h9' : ¬ (n : Int) < 1 := by omega
  by_cases h10 : 3840 < (n : Int)
  · have e := no.out fun h => by have := h.n1; have := Hn.out; omega
    subst e
    go_enter Tryz.func95, Tryz.ntmps95
    go_wp2
    go_ret
    exact ⟨rfl, hbox.right, hsd⟩
  have hmm := @run_makeMap_some Tryz.prog _ _ _ Tryz.underlying100
  have hm2 := ((hbox.alloc (.map #[] 0)).mpOf isMap_empty)
  have hs2 := hsd.alloc (.map #[] 0)
  rw [World.size_alloc] at hm2
  have hP1 : 1 ≤ P := by omega
  go_enter Tryz.func95, Tryz.ntmps95
  go_wp2
  generalize ((w.alloc (.cells #[.int .u32 s.ep, .int .u64 s.st, .int .u64 s.sq, .int .i64 s.hd, .int .i64 s.us, .slice aa n ac] 86 (0, 0))).alloc (.map #[] 0)) = w2 at hm2 hs2 ⊢
  generalize hbx : w.heap.size = bx at hm2 ⊢
  clear hbox hsd hmm
  go_loopw [58] (fun u wr => RightRel P s n bx (bx + 1) (.cells #[.int .u32 s.ep, .int .u64 s.st, .int .u64 s.sq, .int .i64 s.hd, .int .i64 s.us, .slice aa n ac] 86 (0, 0)) w u wr) (fun u _ => n - (intOf u).toNat)
  case atStart => exact ⟨0, Nat.zero_le _, rfl, fun i hi => absurd hi (Nat.not_lt_zero i), hm2, hs2⟩
  case round =>
    clear hm2 hs2
    obtain ⟨k, hk, rfl, hok, hsat, hside⟩ := hrel
    by_cases hlt : k < n
    · have hlt' : (k : Int) < (n : Int) := by omega
      obtain ⟨g, o, rfl, hcell⟩ : ∃ g o, aa = some ⟨g, o, none⟩ ∧ wr.cell? ⟨g, o + k, none⟩ = some (.int .i64 (s.at_.getD k 0)) := by
        have hn := Hn.out
        rcases ha with ⟨_, _, h, h0⟩ | ⟨g, o, c, h, _, _, hc⟩
        · rw [h0] at hn; simp at hn; omega
        · injection h with e1 e2 e3
          exact ⟨g, o, e1, (hsat.to (by ac_rfl : _ = (mp (bx + 1) (takenN s.at_ k) * pt bx _) * whole w)).cellOld (hc k (by omega))⟩
      have h2s := hsat.front2
      have b3 : wr.cell? ⟨bx, 3, none⟩ = some (.int .i64 s.hd) := h2s.cell 3
      have b4 : wr.cell? ⟨bx, 4, none⟩ = some (.int .i64 s.us) := h2s.cell 4
      have hkg := fun v hv => takenN_kget (l := s.at_) (k := k) (by have := Hn.out; omega) (v := v) hv
      have htk : takenN s.at_ (k + 1) = if s.at_.getD k 0 = -1 then takenN s.at_ k else takenN s.at_ k ++ [(s.at_.getD k 0, .int .i64 (k : Int))] := rfl
      have hokk : s.okAt P k ↔ (s.at_.getD k 0 = -1 ∨ (0 ≤ s.at_.getD k 0 ∧ s.at_.getD k 0 < P ∧ s.at_.getD k 0 ∉ s.at_.take k ∧ jAhead P s.hd (s.at_.getD k 0) ≤ s.us)) := Iff.rfl
      have hbad : ¬ s.okAt P k → ¬ s.Right P := fun q h => q (h.ok k (by have := Hn.out; omega))
      have hnext : s.okAt P k → ∀ i, i < k + 1 → s.okAt P i := fun q i hi => by
        rcases Nat.lt_or_eq_of_le (Nat.lt_succ_iff.1 hi) with h | h
        · exact hok i h
        · rw [h]; exact q
      generalize s.at_.getD k 0 = v at hcell htk hokk
      have hlk := Sat.lookup (P := Tryz.prog) Tryz.underlying100 Tryz.underlying3 (z := .int .i64 0) (by kernel_rfl) hsat v true
      clear ha hok h2s
      by_cases hv : v = -1
      · have hnx := hnext (hokk.2 (.inl hv))
        rw [if_pos hv] at htk
        subst hv
        have Hnx := SL.hid hnx; have Htk := SL.hid htk
        clear hnx htk hlk hkg hokk hbad hnext
        go_wp2
        go_roundw
        case rel => exact ⟨k + 1, by omega, by go_num, Hnx.out, by rw [Htk.out]; exact hsat, hside⟩
        case measure => simp [intOf]; omega
      · have hvb : (v == -1) = false := by simpa using hv
        rw [if_neg hv] at htk
        have hkv := hkg v hv
        have Htk := SL.hid htk; have Hokk := SL.hid hokk; have Hbad := SL.hid hbad; have Hnext := SL.hid hnext
        clear htk hokk hbad hnext hkg
        have ho := hsat.right.right
        by_cases hv0 : v < 0
        · have e := no.out (Hbad.out fun q => by rcases Hokk.out.1 q with q | q <;> omega)
          subst e
          clear hlk hkv
          go_wp2
          go_ret
          exact ⟨rfl, ho, hside⟩
        · by_cases hvP : P ≤ v
          · have e := no.out (Hbad.out fun q => by rcases Hokk.out.1 q with q | q <;> omega)
            subst e
            clear hlk hkv
            go_wp2
            go_ret
            exact ⟨rfl, ho, hside⟩
          · by_cases htw : v ∈ s.at_.take k
            · have e := no.out (Hbad.out fun q => by
                rcases Hokk.out.1 q with q | q
                · exact hv q
                · exact q.2.2.1 htw)
              subst e
              rw [hkv, decide_eq_true htw, if_pos rfl] at hlk
              generalize (kget (takenN s.at_ k) v).getD (.int .i64 0) = vv at hlk
              clear hkv htw
              go_wp2
              go_ret
              exact ⟨rfl, ho, hside⟩
            · have hkn : kget (takenN s.at_ k) v = none := by
                rw [decide_eq_false htw] at hkv
                cases h : kget (takenN s.at_ k) v with
                | none => rfl
                | some x => rw [h] at hkv; cases hkv
              rw [hkv, decide_eq_false htw, if_pos rfl, hkn, Option.getD_none] at hlk
              obtain ⟨w6, hup, h6, d6, ce⟩ := Sat.mapUpdate (P := Tryz.prog) Tryz.underlying100 Tryz.underlying3 hsat v (.int .i64 (k : Int))
              have e6 : SL.upd (takenN s.at_ k) v (.int .i64 (k : Int)) = takenN s.at_ k ++ [(v, .int .i64 (k : Int))] := by unfold SL.upd; rw [hkn]; rfl
              rw [e6, ← Htk.out] at h6
              have c3 : w6.cell? ⟨bx, 3, none⟩ = some (.int .i64 s.hd) := (ce.1 _).trans b3
              have c4 : w6.cell? ⟨bx, 4, none⟩ = some (.int .i64 s.us) := (ce.1 _).trans b4
              have hw1 : IntKind.i64.wrap (s.hd - v) = s.hd - v := by rw [IntKind.wrap_i64]; omega
              have D6 := hside.trans d6
              have h7 := h6.right.right
              have H6 := SL.hid h6
              have Htw := SL.hid htw
              clear hkv hkn ce e6 h6 htw ho
              by_cases hah : s.hd - v ≤ 0
              · have hw2 : IntKind.i64.wrap (s.hd - v + P) = s.hd - v + P := by rw [IntKind.wrap_i64]; omega
                have ha : jAhead P s.hd v = s.hd - v + P := by unfold jAhead; rw [if_pos hah]
                by_cases hgt : s.us < s.hd - v + P
                · have e := no.out (Hbad.out fun q => by rcases Hokk.out.1 q with q | q <;> omega)
                  subst e
                  clear ha
                  go_wp2
                  go_ret
                  exact ⟨rfl, h7, D6⟩
                · have Hx := SL.hid (Hnext.out (Hokk.out.2 (.inr ⟨by omega, by omega, Htw.out, by omega⟩)))
                  clear ha
                  go_wp2
                  go_roundw
                  case rel => exact ⟨k + 1, by omega, by go_num, Hx.out, H6.out, D6⟩
                  case measure => simp [intOf]; omega
              · have ha : jAhead P s.hd v = s.hd - v := by unfold jAhead; rw [if_neg hah]
                by_cases hgt : s.us < s.hd - v
                · have e := no.out (Hbad.out fun q => by rcases Hokk.out.1 q with q | q <;> omega)
                  subst e
                  clear ha
                  go_wp2
                  go_ret
                  exact ⟨rfl, h7, D6⟩
                · have Hx := SL.hid (Hnext.out (Hokk.out.2 (.inr ⟨by omega, by omega, Htw.out, by omega⟩)))
                  clear ha
                  go_wp2
                  go_roundw
                  case rel => exact ⟨k + 1, by omega, by go_num, Hx.out, H6.out, D6⟩
                  case measure => simp [intOf]; omega
    · obtain rfl : k = n := by omega
      have e := HB.out.2 ⟨by omega, by omega, by omega, by omega, by omega, by omega, by omega, by omega, by have := Hn.out; omega, by have := Hn.out; omega, by rw [← Hn.out]; exact hok⟩
      subst e
      have h3 := hsat.right.right
      clear hok hsat ha hlt
      go_wp2
      go_ret
      exact ⟨rfl, h3, hside⟩
end Go.Proofs.YtdafdidmbeecfaaGreatDoor
end
section
namespace Go.SL
set_option linter.unusedVariables false
set_option linter.unusedSimpArgs false
open Go.RowKit
theorem RdI.under {w w' : World} {X : Assn} {v : Value} {l : List Int} (h : RdI w v l) (hs : Sat w' (X * whole w)) : RdI w' v l := by
  rcases h with h | ⟨g, o, c, h1, h2, h3, h4⟩
  · exact .inl h
  · exact .inr ⟨g, o, c, h1, h2, h3, fun k hk => hs.cellOld (h4 k hk)⟩
theorem Tb.drop_ok {T : Tb} (h : T.Ok) (id : Int) : (T.drop id).2.Ok := by
  unfold Tb.drop
  split
  · refine ⟨by simpa using h.n, by simpa using h.m, fun v hv => ?_⟩
    simp only [List.length_set]
    rcases List.mem_or_eq_of_mem_set hv with hv | hv
    · exact h.ps v hv
    · exact .inl hv
  · exact h
theorem Tb.put_ok {T : Tb} (h : T.Ok) (id p : Int) : (T.put id p).2.Ok := by
  have hd := Tb.drop_ok h id
  have hl : (T.drop id).2.os.length = T.os.length := by unfold Tb.drop; split <;> simp
  unfold Tb.put
  split
  · rename_i hc
    refine ⟨by simpa using hd.n, by simpa using hd.m, fun v hv => ?_⟩
    simp only [List.length_set]
    rcases List.mem_or_eq_of_mem_set hv with hv | hv
    · exact hd.ps v hv
    · right; rw [hl, hv]; exact ⟨hc.2.2.1, hc.2.2.2.1⟩
  · exact h
theorem Tb.put_len (T : Tb) (id p : Int) : (T.put id p).2.ps.length = T.ps.length ∧ (T.put id p).2.os.length = T.os.length := by
  have h1 : (T.drop id).2.ps.length = T.ps.length := by unfold Tb.drop; split <;> simp
  have h2 : (T.drop id).2.os.length = T.os.length := by unfold Tb.drop; split <;> simp
  unfold Tb.put
  split
  · simp [h1, h2]
  · exact ⟨rfl, rfl⟩
def tbN (P : Nat) (l : List Int) : Nat → Tb
  | 0 => Tb.fresh l.length P
  | k + 1 => if 0 ≤ l.getD k 0 then ((tbN P l k).put (k : Int) (l.getD k 0)).2 else tbN P l k
theorem tbN_len (P : Nat) (l : List Int) (k : Nat) : (tbN P l k).ps.length = l.length ∧ (tbN P l k).os.length = P := by
  induction k with
  | zero => simp [tbN, Tb.fresh]
  | succ k ih =>
    rw [tbN]
    split
    · rw [(Tb.put_len _ _ _).1, (Tb.put_len _ _ _).2]; exact ih
    · exact ih
theorem tbN_ok (P : Nat) (l : List Int) (hP : P ≤ 1048576) (hl : l.length ≤ 1048576) (k : Nat) : (tbN P l k).Ok := by
  induction k with
  | zero => exact ⟨by simpa [tbN, Tb.fresh] using hl, by simpa [tbN, Tb.fresh] using hP, fun v hv => .inl (List.eq_of_mem_replicate hv)⟩
  | succ k ih =>
    rw [tbN]
    split
    · exact Tb.put_ok ih _ _
    · exact ih
def ringK (P k : Nat) : List Int := (List.range k).map (fun i : Nat => (i : Int) + 1) ++ List.replicate (P - k) 0
theorem ringK_len {P k : Nat} (h : k ≤ P) : (ringK P k).length = P := by simp [ringK]; omega
theorem ringK_next {P k : Nat} (h : k < P) : (ringK P k).set ((k : Int) % ((ringK P k).length : Int)).toNat ((k : Int) + 1) = ringK P (k + 1) := by
  rw [ringK_len (by omega), Int.emod_eq_of_lt (by omega) (by omega), Int.toNat_natCast]
  unfold ringK
  have e : P - k = (P - (k + 1)) + 1 := by omega
  rw [e, List.replicate_succ, List.set_append_right _ _ (by simp), List.range_succ]
  simp
theorem ringK_all (P : Nat) : ringK P P = ringL P := by simp [ringK, ringL]
def Jr.ofS (P : Nat) (s : Js) : Jr := ⟨P, tbN P s.at_ s.at_.length, s.at_.length, s.ep, s.st, s.sq, s.hd, s.us, 0, false⟩
theorem Jr.ofS_ok {P : Nat} {s : Js} (h : s.Right P) (h0 : 1 ≤ P) (h1 : P ≤ 20000) : (Jr.ofS P s).Ok := by
  have hl := tbN_len P s.at_ s.at_.length
  have := h.n1
  exact ⟨h0, h1, tbN_ok _ _ (by omega) (by omega) _, by rw [Jr.ofS]; simp only; rw [hl.1], hl.2, h.us0, h.us1, h.hd0, h.hd1, Int.le_refl _, by show (0 : Int) ≤ 48; decide⟩
end Go.SL
namespace Go.Proofs.YtdafdidmbeecfaaGreatDoor
set_option linter.unusedVariables false
set_option linter.unusedSimpArgs false
open Go.RowKit Go.SL
def JNewQ (d : Nat) (J : Jr) (w : World) (e : Ending) (w' : World) : Prop := ∃ j, e = .returned (.tuple #[ptV j, .int .i64 0]) ∧ Sat w' (jrA j d J * whole w) ∧ Side w w'
def NewX (P : Nat) (s : Js) (n d r t : Nat) : Array Value := #[ptV d, ptV r, ptV t, .int .i64 (n : Int), .int .u32 s.ep, .int .u64 s.st, .int .u64 s.sq, .int .i64 s.hd, .int .i64 s.us, .int .i64 0, .bool false]
def NewRel1 (P : Nat) (s : Js) (n d j r t bx : Nat) (o : Obj) (w : World) (u : Value) (wr : World) : Prop :=
  ∃ k : Nat, k ≤ P ∧ u = .int .i64 (k : Int) ∧ Sat wr (pt j (.cells (NewX P s n d r t) 98 (0, 0)) * (ringA r (ringK P k) * (tableA t (tbN P s.at_ 0) * (pt bx o * whole w)))) ∧ Side w wr
def NewRel2 (P : Nat) (s : Js) (n d j r t bx : Nat) (o : Obj) (w : World) (u : Value) (wr : World) : Prop :=
  ∃ k : Nat, k ≤ n ∧ u = .int .i64 (k : Int) ∧ Sat wr (pt j (.cells (NewX P s n d r t) 98 (0, 0)) * (ringA r (ringL P) * (tableA t (tbN P s.at_ k) * (pt bx o * whole w)))) ∧ Side w wr
set_option maxRecDepth 100000 in
set_option maxHeartbeats 4000000 in
theorem jnew_any (w : World) (S : Hp) (d : Nat) (D : Dev) (F : Assn) (hd : Sat w (devA S d D * F)) (P : Nat) (s : Js) (a : Value) (ha : RdI w a s.at_) (hP0 : 1 ≤ P) (hP : P ≤ 20000) (hPs : P + 1 ≤ D.sec.length) (hDn : D.sec.length ≤ 20000) (hq : 0 ≤ s.sq) (hr : s.Right P) :
    Calls Tryz.prog 72 #[ptV d, .int .i64 (P : Int), s.v a] w (JNewQ d (Jr.ofS P s) w) := by
  have hn1 := hr.n1
  have hn0 := hr.n0
  have Hr := SL.hid hr
  obtain ⟨n, hn⟩ : ∃ n, n = s.at_.length := ⟨_, rfl⟩
  have hav : ∃ aa ac, a = .slice aa n ac := by
    rcases ha with ⟨_, _, rfl, h⟩ | ⟨g, o, c, rfl, _⟩
    · rw [hn, h]; exact ⟨_, _, rfl⟩
    · rw [hn]; exact ⟨_, _, rfl⟩
  obtain ⟨aa, ac, rfl⟩ := hav
  rw [← hn] at hn1 hn0
  have Hn := SL.hid hn
  have hbox := (Sat.whole w).alloc (.cells #[.int .u32 s.ep, .int .u64 s.st, .int .u64 s.sq, .int .i64 s.hd, .int .i64 s.us, .slice aa n ac] 86 (0, 0))
  have hs1 := (Side.refl w).alloc (.cells #[.int .u32 s.ep, .int .u64 s.st, .int .u64 s.sq, .int .i64 s.hd, .int .i64 s.us, .slice aa n ac] 86 (0, 0))
  have hsec := sectors_any _ S d D _ (hbox.under hd).right
  have hP0' : (1 : Int) ≤ (P : Int) := by omega
  have hP' : (P : Int) ≤ 20000 := by omega
  have hPs' : (P : Int) ≤ (D.sec.length : Int) - 1 := by omega
  have hDn' : (D.sec.length : Int) ≤ 20000 := by omega
  have hwr : IntKind.i64.wrap ((D.sec.length : Int) - 1) = (D.sec.length : Int) - 1 := by rw [IntKind.wrap_i64]; omega
  have hright := right_any' (P : Int) s (.slice aa n ac) _ (by omega) (by omega) hq (by rw [← hn]; omega) (ha.under hbox) true ⟨fun _ => hr, fun _ => rfl⟩
  have Ha := SL.hid ha
  clear hn hr hd ha hq
  unfold Js.v at hright ⊢
  obtain ⟨bx, hbx⟩ : ∃ bx, bx = w.heap.size := ⟨_, rfl⟩
  go_enter Tryz.func72, Tryz.ntmps72
  go_wp2_with fail
  rw [← hbx] at hbox ⊢
  generalize w.alloc (.cells #[.int .u32 s.ep, .int .u64 s.st, .int .u64 s.sq, .int .i64 s.hd, .int .i64 s.us, .slice aa n ac] 86 (0, 0)) = w1 at hbox hs1 hsec hright ⊢
  have c0 : w1.cell? ⟨bx, 0, none⟩ = some (.int .u32 s.ep) := hbox.cell 0
  have c1 : w1.cell? ⟨bx, 1, none⟩ = some (.int .u64 s.st) := hbox.cell 1
  have c2 : w1.cell? ⟨bx, 2, none⟩ = some (.int .u64 s.sq) := hbox.cell 2
  have c3 : w1.cell? ⟨bx, 3, none⟩ = some (.int .i64 s.hd) := hbox.cell 3
  have c4 : w1.cell? ⟨bx, 4, none⟩ = some (.int .i64 s.us) := hbox.cell 4
  have c5 : w1.cell? ⟨bx, 5, none⟩ = some (.slice aa n ac) := hbox.cell 5
  clear hbx
  go_wp2_with fail
  refine hsec.mono ?_
  rintro e w1' ⟨rfl, rfl⟩
  clear hsec
  go_wp2_with fail
  refine hright.mono ?_
  rintro e w2 ⟨rfl, h2, d2⟩
  have H2 := h2.keepW hbox
  have D2 := hs1.trans d2
  have b0 : w2.cell? ⟨bx, 0, none⟩ = some (.int .u32 s.ep) := H2.cell 0
  have b1 : w2.cell? ⟨bx, 1, none⟩ = some (.int .u64 s.st) := H2.cell 1
  have b2 : w2.cell? ⟨bx, 2, none⟩ = some (.int .u64 s.sq) := H2.cell 2
  have b3 : w2.cell? ⟨bx, 3, none⟩ = some (.int .i64 s.hd) := H2.cell 3
  have b4 : w2.cell? ⟨bx, 4, none⟩ = some (.int .i64 s.us) := H2.cell 4
  have b5 : w2.cell? ⟨bx, 5, none⟩ = some (.slice aa n ac) := H2.cell 5
  clear hright h2 d2 hbox hs1 c0 c1 c2 c3 c4 c5 hwr
  have hring := ringNew_any P 0 w2.drew hP0 (by omega)
  have htab := fun w => tabNew_any n P w (by omega) (by omega)
  have R2 := SL.hid (Sat.drew H2)
  clear H2
  go_wp2_with fail
  go_region_held3 (fun w' => w'.cell? ⟨bx, 0, none⟩ = some (.int .u32 s.ep) ∧ w'.cell? ⟨bx, 1, none⟩ = some (.int .u64 s.st) ∧ w'.cell? ⟨bx, 2, none⟩ = some (.int .u64 s.sq) ∧ w'.cell? ⟨bx, 3, none⟩ = some (.int .i64 s.hd) ∧ w'.cell? ⟨bx, 4, none⟩ = some (.int .i64 s.us) ∧ w'.cell? ⟨bx, 5, none⟩ = some (.slice aa n ac)) (first | (with_reducible exact ⟨f0, f1, f2, f3, f4, f5⟩) | (with_reducible exact ⟨cell_alloc _ _ _ _ f0, cell_alloc _ _ _ _ f1, cell_alloc _ _ _ _ f2, cell_alloc _ _ _ _ f3, cell_alloc _ _ _ _ f4, cell_alloc _ _ _ _ f5⟩) | (with_reducible exact ⟨e0, e1, e2, e3, e4, e5⟩) | exact ⟨b0, b1, b2, b3, b4, b5⟩) (first
    | (go_at_call 68; (with_reducible refine hring.mono ?_); rintro e w3 ⟨r, rfl, h3, d3⟩; have H3 := h3.under R2.out; have e0 : w3.cell? ⟨bx, 0, none⟩ = some (.int .u32 s.ep) := H3.front2.cell 0; have e1 : w3.cell? ⟨bx, 1, none⟩ = some (.int .u64 s.st) := H3.front2.cell 1; have e2 : w3.cell? ⟨bx, 2, none⟩ = some (.int .u64 s.sq) := H3.front2.cell 2; have e3 : w3.cell? ⟨bx, 3, none⟩ = some (.int .i64 s.hd) := H3.front2.cell 3; have e4 : w3.cell? ⟨bx, 4, none⟩ = some (.int .i64 s.us) := H3.front2.cell 4; have e5 : w3.cell? ⟨bx, 5, none⟩ = some (.slice aa n ac) := H3.front2.cell 5)
    | (go_at_call 96; (with_reducible refine (htab _).mono ?_); rintro e w4 ⟨t, rfl, h4, d4⟩; have H4 := h4.under H3; have f0 : w4.cell? ⟨bx, 0, none⟩ = some (.int .u32 s.ep) := H4.front3.cell 0; have f1 : w4.cell? ⟨bx, 1, none⟩ = some (.int .u64 s.st) := H4.front3.cell 1; have f2 : w4.cell? ⟨bx, 2, none⟩ = some (.int .u64 s.sq) := H4.front3.cell 2; have f3 : w4.cell? ⟨bx, 3, none⟩ = some (.int .i64 s.hd) := H4.front3.cell 3; have f4 : w4.cell? ⟨bx, 4, none⟩ = some (.int .i64 s.us) := H4.front3.cell 4; have f5 : w4.cell? ⟨bx, 5, none⟩ = some (.slice aa n ac) := H4.front3.cell 5))
  have H5 := H4.alloc (.cells (NewX P s n d r t) 98 (0, 0))
  have D5 := ((D2.drew.trans d3).trans d4).alloc (.cells (NewX P s n d r t) 98 (0, 0))
  clear h3 h4 hring htab d3 d4 D2 R2 H3 H4 e0 e1 e2 e3 e4 e5 f0 f1 f2 f3 f4 f5 b0 b1 b2 b3 b4 b5
  have H6 : Sat (w4.alloc (.cells (NewX P s n d r t) 98 (0, 0))) (pt w4.heap.size (.cells (NewX P s n d r t) 98 (0, 0)) * (ringA r (ringK P 0) * (tableA t (tbN P s.at_ 0) * (pt bx (.cells #[.int .u32 s.ep, .int .u64 s.st, .int .u64 s.sq, .int .i64 s.hd, .int .i64 s.us, .slice aa n ac] 86 (0, 0)) * whole w)))) := by
    have e1 : tbN P s.at_ 0 = Tb.fresh n P := by rw [Hn.out]; rfl
    have e2 : ringK P 0 = List.replicate P 0 := rfl
    rw [e1, e2]
    exact H5.to (by ac_rfl)
  clear H5
  unfold NewX at D5 H6
  generalize hw5 : (w4.alloc (.cells #[ptV d, ptV r, ptV t, .int .i64 (n : Int), .int .u32 s.ep, .int .u64 s.st, .int .u64 s.sq, .int .i64 s.hd, .int .i64 s.us, .int .i64 0, .bool false] 98 (0, 0))) = w5 at D5 H6 ⊢
  generalize w4.heap.size = j at H6 ⊢
  clear hw5
  go_wp2
  go_loopw [55] (fun u wr => NewRel1 P s n d j r t bx (.cells #[.int .u32 s.ep, .int .u64 s.st, .int .u64 s.sq, .int .i64 s.hd, .int .i64 s.us, .slice aa n ac] 86 (0, 0)) w u wr) (fun u _ => P - (intOf u).toNat)
  case atStart => exact ⟨0, Nat.zero_le _, rfl, H6, D5⟩
  case round =>
    clear H6 D5
    obtain ⟨k, hk, rfl, hsat, hside⟩ := hrel
    by_cases hlt : k < P
    · have hlt' : (k : Int) < (P : Int) := by omega
      have j1 : wr.cell? ⟨j, 1, none⟩ = some (ptV r) := hsat.cell 1
      have hset := set_any wr r (ringK P k) (k : Int) ((k : Int) + 1) _ hsat.front2 (by rw [ringK_len hk]; omega) (by rw [ringK_len hk]; omega)
      rw [ringK_next hlt] at hset
      have hw1 : IntKind.i64.wrap ((k : Int) + 1) = (k : Int) + 1 := by rw [IntKind.wrap_i64]; omega
      clear hsat
      go_wp2_with fail
      refine hset.mono ?_
      rintro e w6 ⟨rfl, h6, d6⟩
      have H7 := SL.hid h6.front2
      clear hset h6
      go_wp2
      go_roundw
      case rel => exact ⟨k + 1, by omega, by go_num, H7.out, hside.trans d6⟩
      case measure => simp [intOf]; omega
    · obtain rfl : k = P := by omega
      rw [ringK_all] at hsat
      have h5 : wr.cell? ⟨bx, 5, none⟩ = some (.slice aa n ac) := hsat.front4.cell 5
      have H7 := SL.hid hsat
      clear hsat hlt
      go_wp2
      go_loopw [70] (fun u wr => NewRel2 k s n d j r t bx (.cells #[.int .u32 s.ep, .int .u64 s.st, .int .u64 s.sq, .int .i64 s.hd, .int .i64 s.us, .slice aa n ac] 86 (0, 0)) w u wr) (fun u _ => n - (intOf u).toNat)
      case atStart => exact ⟨0, Nat.zero_le _, rfl, H7.out, hside⟩
      case round =>
        clear H7 hside h5
        obtain ⟨i, hi, rfl, hsat, hside⟩ := hrel
        have j2 : wr.cell? ⟨j, 2, none⟩ = some (ptV t) := hsat.cell 2
        have htl := tbN_len k s.at_ i
        have htk := tbN_ok k s.at_ (by omega) (by have := Hn.out; omega) i
        by_cases hlt : i < n
        · have hlt' : (i : Int) < (n : Int) := by omega
          obtain ⟨g, o, rfl, hcell⟩ : ∃ g o, aa = some ⟨g, o, none⟩ ∧ wr.cell? ⟨g, o + i, none⟩ = some (.int .i64 (s.at_.getD i 0)) := by
            have hn := Hn.out
            rcases Ha.out with ⟨_, _, h, h0⟩ | ⟨g, o, c, h, _, _, hc⟩
            · rw [h0] at hn; simp at hn; omega
            · injection h with e1 e2 e3
              exact ⟨g, o, e1, (hsat.to (by ac_rfl : _ = (pt j _ * (ringA r (ringL k) * (tableA t (tbN k s.at_ i) * pt bx _))) * whole w)).cellOld (hc i (by omega))⟩
          have hst : tbN k s.at_ (i + 1) = if 0 ≤ s.at_.getD i 0 then ((tbN k s.at_ i).put (i : Int) (s.at_.getD i 0)).2 else tbN k s.at_ i := rfl
          generalize s.at_.getD i 0 = v at hcell hst
          by_cases hv : 0 ≤ v
          · rw [if_pos hv] at hst
            have hput := put_any wr t (tbN k s.at_ i) (i : Int) v _ hsat.front3 htk
            rw [← hst] at hput
            generalize ((tbN k s.at_ i).put (i : Int) v).1 = pb at hput
            clear hsat hst htl htk
            go_wp2_with fail
            refine hput.mono ?_
            rintro e w6 ⟨rfl, h6, d6⟩
            have H7 := SL.hid h6.front3
            clear hput h6
            go_wp2
            go_roundw
            case rel => exact ⟨i + 1, by omega, by go_num, H7.out.to (by ac_rfl), hside.trans d6⟩
            case measure => simp [intOf]; omega
          · rw [if_neg hv] at hst
            have H7 := SL.hid hsat
            have Hst := SL.hid hst
            clear hsat hst htl htk
            go_wp2
            go_roundw
            case rel => exact ⟨i + 1, by omega, by go_num, by rw [Hst.out]; exact H7.out, hside⟩
            case measure => simp [intOf]; omega
        · obtain rfl : i = n := by omega
          have H7 := SL.hid hsat
          clear hsat hlt htl htk
          go_wp2
          go_ret2
          refine ⟨j, rfl, Sat.jrShut (r := r) (t := t) ?_, hside⟩
          have e1 : (Jr.ofS k s).cells d r t = NewX k s i d r t := by unfold Jr.ofS Jr.cells NewX; rw [Hn.out]
          have e2 : (Jr.ofS k s).T = tbN k s.at_ i := by rw [Hn.out]; rfl
          rw [e1, e2]
          exact (Sat.drop4 H7.out).to (by unfold Jr.ofS; ac_rfl)
end Go.Proofs.YtdafdidmbeecfaaGreatDoor
namespace Go.Proofs.YtdafdidmbeecfaaGreatDoor
set_option linter.unusedVariables false
set_option linter.unusedSimpArgs false
open Go.RowKit Go.SL
def Jr.ats (J : Jr) : List Int := (List.range J.T.ps.length).map fun i : Nat => (told J.T.ps (i : Int)).getD (-1)
def atsN (T : Tb) (n : Nat) (ys : List (Int × Int)) : List Int := ys.foldl (fun l p => l.set p.1.toNat p.2) (List.replicate n (-1))
theorem atsN_len (T : Tb) (n : Nat) (ys : List (Int × Int)) : (atsN T n ys).length = n := by
  suffices ∀ (l : List Int), (ys.foldl (fun l p => l.set p.1.toNat p.2) l).length = l.length by
    unfold atsN; rw [this]; simp
  induction ys with
  | nil => intro l; rfl
  | cons y ys ih => intro l; rw [List.foldl_cons, ih, List.length_set]
theorem atsN_snoc (T : Tb) (n : Nat) (ys : List (Int × Int)) (x : Int × Int) : atsN T n (ys ++ [x]) = (atsN T n ys).set x.1.toNat x.2 := by
  unfold atsN; rw [List.foldl_append]; rfl
theorem allN_fst (T : Tb) (k : Nat) : ∀ p ∈ allN T k, ∃ i : Nat, p.1 = (i : Int) ∧ i < k ∧ told T.ps (i : Int) = some p.2 := by
  intro p hp
  obtain ⟨i, hi, h⟩ := List.mem_filterMap.1 hp
  cases ht : told T.ps (i : Int) with
  | none => rw [ht] at h; cases h
  | some q => rw [ht] at h; cases h; exact ⟨i, rfl, List.mem_range.1 hi, ht⟩
theorem ats_all (T : Tb) (k : Nat) (hk : k ≤ T.ps.length) (i : Nat) (hi : i < T.ps.length) :
    (atsN T T.ps.length (allN T k)).getD i 0 = if i < k then (told T.ps (i : Int)).getD (-1) else -1 := by
  induction k with
  | zero => simp [allN, atsN, List.getD, hi]
  | succ k ih =>
    have ih := ih (by omega)
    rw [allN_succ]
    match ht : told T.ps (k : Int) with
    | none =>
      simp only [List.append_nil]
      rw [ih]
      by_cases h : i < k
      · rw [if_pos h, if_pos (by omega)]
      · rw [if_neg h]
        by_cases h2 : i < k + 1
        · obtain rfl : i = k := by omega
          rw [if_pos h2, ht]; rfl
        · rw [if_neg h2]
    | some q =>
      simp only
      rw [atsN_snoc, Int.toNat_natCast, List.getD, List.getElem?_set]
      by_cases h : k = i
      · subst h
        rw [if_pos rfl, if_pos (by rw [atsN_len]; exact hi), if_pos (by omega), ht]; rfl
      · rw [if_neg h]
        have : (atsN T T.ps.length (allN T k))[i]?.getD 0 = _ := ih
        rw [this]
        by_cases h2 : i < k
        · rw [if_pos h2, if_pos (by omega)]
        · rw [if_neg h2, if_neg (by omega)]
theorem ats_eq (T : Tb) : atsN T T.ps.length (tbAll T) = (List.range T.ps.length).map fun i : Nat => (told T.ps (i : Int)).getD (-1) := by
  have e : tbAll T = allN T T.ps.length := rfl
  rw [e]
  apply List.ext_getElem
  · rw [atsN_len]; simp
  · intro i h1 h2
    rw [atsN_len] at h1
    have := ats_all T T.ps.length (Nat.le_refl _) i h1
    rw [if_pos h1, List.getD, List.getElem?_eq_getElem (by rw [atsN_len]; exact h1)] at this
    rw [List.getElem_map, List.getElem_range]
    exact this
end Go.Proofs.YtdafdidmbeecfaaGreatDoor
end
section
namespace Go.Proofs.YtdafdidmbeecfaaGreatDoor
set_option linter.unusedVariables false
set_option linter.unusedSimpArgs false
open Go.RowKit Go.SL
attribute [local go_sem] Oper.semAt_some
theorem info_state0 : (Tryz.prog.info? 86).map (·.size) = some 6 := by kernel_rfl
theorem info_state (cs : Array Value) (h : cs.size = 6) : (Tryz.prog.info? 86).map (·.size) = some cs.size := by rw [h]; exact info_state0
def setT (x : Int × Int) (t : Array Value) : Array Value := (((t.setIfInBounds 26 (.int .i64 x.1)).setIfInBounds 27 (.int .i64 x.2)).setIfInBounds 5 (.int .i64 x.1)).setIfInBounds 6 (.int .i64 x.2)
def Jr.js (J : Jr) : Js := ⟨J.ep, J.st, J.sq, J.hd, J.us, Jr.ats J⟩
def StateQ (j d : Nat) (J : Jr) (F : Assn) (w : World) (e : Ending) (w' : World) : Prop :=
  ∃ g, e = .returned ((Jr.js J).v (.slice (some ⟨g, 0, none⟩) J.T.ps.length J.T.ps.length)) ∧ Sat w' (pt g (.cells (ints (Jr.ats J)) 3 (0, 0)) * (jrA j d J * F)) ∧ Side w w'
def StZ : Obj := .cells #[.int .u32 0, .int .u64 0, .int .u64 0, .int .i64 0, .int .i64 0, .slice none 0 0] 86 (0, 0)
def StateRel (g cx rx n : Nat) (X : Assn) (w : World) (u : Value) (wr : World) : Prop :=
  ∃ k : Nat, k ≤ n ∧ u = .int .i64 (k : Int) ∧ Sat wr (pt g (.cells (ints (List.replicate k (-1) ++ List.replicate (n - k) 0)) 3 (0, 0)) * (pt cx (.cells #[.slice (some ⟨g, 0, none⟩) n n] 45 (0, 0)) * (pt rx StZ * X))) ∧ Side w wr
def StateA (g cx n : Nat) (T : Tb) (ys : List (Int × Int)) : Assn := pt cx (.cells #[.slice (some ⟨g, 0, none⟩) n n] 45 (0, 0)) * pt g (.cells (ints (atsN T n ys)) 3 (0, 0))
set_option maxRecDepth 100000 in
set_option maxHeartbeats 4000000 in
theorem state_any (w : World) (j d : Nat) (J : Jr) (F : Assn) (h : Sat w (jrA j d J * F)) (hJ : J.Ok) :
    Calls Tryz.prog 51 #[ptV j] w (StateQ j d J F w) := by
  obtain ⟨r, t, hx⟩ := h.jrOpen
  have hTn := hJ.T.n
  have hps := hJ.ps
  obtain ⟨n, hn⟩ : ∃ n, n = J.T.ps.length := ⟨_, rfl⟩
  have Hn := SL.hid hn
  rw [← hn] at hTn hps
  clear h hJ hn
  have c3 : w.cell? ⟨j, 3, none⟩ = some (.int .i64 (n : Int)) := by rw [hps]; exact hx.cell 3
  have Hps := SL.hid hps
  have hmk := fun w => make_ints n hTn w
  clear hps
  refine (callsIn_wide (n := 9)).1 ?_
  refine callsIn_of_wp_marks Tryz.func51 rfl trivial ?_ rfl
  simp only [Tryz.ntmps51, List.size_toArray, List.length_cons, List.length_nil, Nat.reduceAdd, Nat.reduceSub, Array.replicate_succ, Array.replicate_zero, List.push_toArray, List.append_toArray, List.nil_append, List.cons_append]
  have h1 := hx.alloc StZ
  have d1 := (Side.refl w).alloc StZ
  have c3' : (w.alloc StZ).cell? ⟨j, 3, none⟩ = some (.int .i64 (n : Int)) := cell_alloc _ _ _ _ c3
  have h3 := (h1.alloc (.cells (ints (List.replicate n 0)) 3 (0, 0))).alloc (.cells #[.slice (some ⟨w.heap.size + 1, 0, none⟩) n n] 45 (0, 0))
  have d3 := (d1.alloc (.cells (ints (List.replicate n 0)) 3 (0, 0))).alloc (.cells #[.slice (some ⟨w.heap.size + 1, 0, none⟩) n n] 45 (0, 0))
  simp only [World.size_alloc] at h3
  unfold StZ at h1 h3 d3 c3'
  gi_wp2_with fail
  generalize (((w.alloc (.cells #[.int .u32 0, .int .u64 0, .int .u64 0, .int .i64 0, .int .i64 0, .slice none 0 0] 86 (0, 0))).alloc (.cells (ints (List.replicate n 0)) 3 (0, 0))).alloc (.cells #[.slice (some ⟨w.heap.size + 1, 0, none⟩) n n] 45 (0, 0))) = w3 at h3 d3 ⊢
  clear hmk c3' h1 d1 c3 hx
  generalize w.heap.size + 1 + 1 = cx at h3 ⊢
  generalize w.heap.size + 1 = g at h3 ⊢
  generalize w.heap.size = rx at h3 ⊢
  obtain ⟨X, hX⟩ : ∃ X, X = pt j (.cells (J.cells d r t) 98 (0, 0)) * (ringA r (ringL J.P) * (tableA t J.T * F)) := ⟨_, rfl⟩
  rw [← hX] at h3
  have HX := SL.hid hX
  clear hX
  gi_loopw [14] (fun u wr => StateRel g cx rx n X w u wr) (fun u _ => n - (intOf u).toNat)
  case atStart => exact ⟨0, Nat.zero_le _, rfl, h3.to (by simp only [List.replicate_zero, List.nil_append, Nat.sub_zero]; unfold StZ; ac_rfl), d3⟩
  case round =>
    clear h3 d3
    obtain ⟨k, hk, rfl, hsat, hside⟩ := hrel
    have hl : (List.replicate k (-1) ++ List.replicate (n - k) (0 : Int)).length = n := by simp; omega
    have k0 : wr.cell? ⟨cx, 0, none⟩ = some (.slice (some ⟨g, 0, none⟩) n n) := hsat.front2.cell 0
    by_cases hlt : k < n
    · have hlt' : (k : Int) < (n : Int) := by omega
      have hv : wr.cell? ⟨g, k, none⟩ = some (.int .i64 ((List.replicate k (-1) ++ List.replicate (n - k) (0 : Int)).getD k 0)) := (hsat.cell k).trans (get_ints_lt (by rw [hl]; exact hlt))
      have hf := hsat.frozen k
      generalize (List.replicate k (-1) ++ List.replicate (n - k) (0 : Int)).getD k 0 = q at hv
      have h4 := hsat.setCell k (.int .i64 (-1))
      rw [set_ints, fill_next n k (-1) hlt] at h4
      have H4 := SL.hid h4
      clear hsat h4 hl
      gi_wp2
      go_roundw
      case rel => exact ⟨k + 1, by omega, by go_num, H4.out, hside.setCell _ _⟩
      case measure => simp [intOf]; omega
    · obtain rfl : k = n := by omega
      rw [Nat.sub_self, List.replicate_zero, List.append_nil, HX.out] at hsat
      have j2 : wr.cell? ⟨j, 2, none⟩ = some (ptV t) := hsat.front4.cell 2
      have H4 := SL.hid hsat
      clear hsat hl hlt k0
      gi_wp2_with fail
      refine callV (allT_any wr _) ?_
      rintro e w4 ⟨rfl, rfl⟩
      have h5 := H4.out.alloc (.cells #[.pointer (some ⟨t, 0, none⟩)] 96 (0, 0))
      have d5 := hside.alloc (.cells #[.pointer (some ⟨t, 0, none⟩)] 96 (0, 0))
      gi_wp2_with fail
      generalize wr.alloc (.cells #[.pointer (some ⟨t, 0, none⟩)] 96 (0, 0)) = w5 at h5 d5 ⊢
      generalize wr.heap.size = bx at h5 ⊢
      clear H4 hside j2
      have h6 : Sat w5 (StateA g cx k J.T [] * (AllTIt bx t J.T * (pt rx StZ * (pt j (.cells (J.cells d r t) 98 (0, 0)) * (ringA r (ringL J.P) * F))))) :=
        h5.to (by unfold StateA AllTIt atsN; simp only [List.foldl_nil]; ac_rfl)
      clear h5
      refine wpIn_range_t (w0 := w) rfl (by decide) (gf := 100) (lb := #[.pointer (some ⟨bx, 0, none⟩)]) rfl trivial (enters Tryz.func100 (by kernel_rfl) rfl)
        (allT_iter _ bx t J.T (by rw [← Hn.out]; exact hTn)) setT (StateA g cx k J.T) (fun pre x => StateA g cx k J.T pre) _ ?hps d5 h6 ?assign ?body ?done
      case hps =>
        intro x vs Fr W h
        unfold pairT at h
        obtain ⟨rfl, _⟩ := Sat.fact_iff.1 h
        rfl
      case assign =>
        intro l r pre x vs Fr W K _ hsd H hK
        have H1 : Sat W (pairT x vs * (StateA g cx k J.T pre * (pt l (.loop r) * Fr))) := H.front2
        unfold pairT at H1
        obtain ⟨rfl, H2⟩ := Sat.fact_iff.1 H1
        clear H H1
        gi_wp2
        exact hK _ hsd H2
      case body =>
        intro l r pre x Fr W hp hsd H
        have hm : x ∈ allN J.T J.T.ps.length := by
          obtain ⟨z, hz⟩ := hp
          have e : tbAll J.T = allN J.T J.T.ps.length := rfl
          rw [← e, ← hz]; simp
        obtain ⟨i, hi, hik, _⟩ := allN_fst _ _ _ hm
        rw [← Hn.out] at hik
        have hsn := atsN_snoc J.T k pre x
        have hlen := atsN_len J.T k pre
        obtain ⟨x1, x2⟩ := x
        simp only at hi hsn
        subst hi
        rw [Int.toNat_natCast] at hsn
        unfold StateA at H
        have H1 : Sat W (pt cx (.cells #[.slice (some ⟨g, 0, none⟩) k k] 45 (0, 0)) * (pt g (.cells (ints (atsN J.T k pre)) 3 (0, 0)) * (pt l (.loop r) * Fr))) := H.to (by ac_rfl)
        have k0 : W.cell? ⟨cx, 0, none⟩ = some (.slice (some ⟨g, 0, none⟩) k k) := H1.cell 0
        have kg : W.cell? ⟨g, i, none⟩ = some (.int .i64 ((atsN J.T k pre).getD i 0)) := (H1.front2.cell i).trans (get_ints_lt (by rw [hlen]; exact hik))
        have hf := H1.front2.frozen i
        have h7 := (H1.front2.setCell i (.int .i64 x2)).front2
        rw [set_ints, ← hsn] at h7
        have H7 := SL.hid h7
        have hik' : (i : Int) < (k : Int) := by omega
        generalize (atsN J.T k pre).getD i 0 = q at kg
        clear H H1 h7 hm hsn hlen hp
        simp only [setT, List.setIfInBounds_toArray, List.set_cons_succ, List.set_cons_zero]
        gi_wp2
        exact ⟨hsd.setCell _ _, (H7.out).to (by unfold StateA; ac_rfl)⟩
      case done =>
        intro D2 ys W hS hsd H
        subst hS
        have H1 : Sat W (pt rx (.cells #[.int .u32 0, .int .u64 0, .int .u64 0, .int .i64 0, .int .i64 0, .slice none 0 0] 86 (0, 0)) * (pt j (.cells (J.cells d r t) 98 (0, 0)) * (pt cx (.cells #[.slice (some ⟨g, 0, none⟩) k k] 45 (0, 0)) * (pt D2 (.deferred (some [])) * (pt g (.cells (ints (atsN J.T k (tbAll J.T))) 3 (0, 0)) * (tableA t J.T * (ringA r (ringL J.P) * F))))))) := by
          unfold StateA AllTIt StZ at H
          exact (H.to (by ac_rfl : _ = pt bx (.cells #[.pointer (some ⟨t, 0, none⟩)] 96 (0, 0)) * (pt rx (.cells #[.int .u32 0, .int .u64 0, .int .u64 0, .int .i64 0, .int .i64 0, .slice none 0 0] 86 (0, 0)) * (pt j (.cells (J.cells d r t) 98 (0, 0)) * (pt cx (.cells #[.slice (some ⟨g, 0, none⟩) k k] 45 (0, 0)) * (pt D2 (.deferred (some [])) * (pt g (.cells (ints (atsN J.T k (tbAll J.T))) 3 (0, 0)) * (tableA t J.T * (ringA r (ringL J.P) * F))))))))).right
        clear H h6 d5
        obtain ⟨B3, hB3⟩ : ∃ X, X = pt j (.cells (J.cells d r t) 98 (0, 0)) * (pt cx (.cells #[.slice (some ⟨g, 0, none⟩) k k] 45 (0, 0)) * (pt D2 (.deferred (some [])) * (pt g (.cells (ints (atsN J.T k (tbAll J.T))) 3 (0, 0)) * (tableA t J.T * (ringA r (ringL J.P) * F))))) := ⟨_, rfl⟩
        rw [← hB3] at H1
        have zz0 : W.cell? ⟨rx, 0, none⟩ = some (.int .u32 0) := H1.cell 0
        have zz1 : W.cell? ⟨rx, 1, none⟩ = some (.int .u64 0) := H1.cell 1
        have zz2 : W.cell? ⟨rx, 2, none⟩ = some (.int .u64 0) := H1.cell 2
        have zz3 : W.cell? ⟨rx, 3, none⟩ = some (.int .i64 0) := H1.cell 3
        have zz4 : W.cell? ⟨rx, 4, none⟩ = some (.int .i64 0) := H1.cell 4
        have zz5 : W.cell? ⟨rx, 5, none⟩ = some (.slice none 0 0) := H1.cell 5
        have fz0 : W.frozen? ⟨rx, 0, none⟩ = false := H1.frozen 0
        have fz1 : W.frozen? ⟨rx, 1, none⟩ = false := H1.frozen 1
        have fz2 : W.frozen? ⟨rx, 2, none⟩ = false := H1.frozen 2
        have fz3 : W.frozen? ⟨rx, 3, none⟩ = false := H1.frozen 3
        have fz4 : W.frozen? ⟨rx, 4, none⟩ = false := H1.frozen 4
        have fz5 : W.frozen? ⟨rx, 5, none⟩ = false := H1.frozen 5
        have K9 : Sat ((((((W.setCell ⟨rx, 0, none⟩ (.int .u32 J.ep)).setCell ⟨rx, 1, none⟩ (.int .u64 J.st)).setCell ⟨rx, 2, none⟩ (.int .u64 J.sq)).setCell ⟨rx, 3, none⟩ (.int .i64 J.hd)).setCell ⟨rx, 4, none⟩ (.int .i64 J.us)).setCell ⟨rx, 5, none⟩ (.slice (some ⟨g, 0, none⟩) k k)) (pt rx (.cells #[.int .u32 J.ep, .int .u64 J.st, .int .u64 J.sq, .int .i64 J.hd, .int .i64 J.us, .slice (some ⟨g, 0, none⟩) k k] 86 (0, 0)) * B3) := ((((((H1.setCell 0 (.int .u32 J.ep)).setCell 1 (.int .u64 J.st)).setCell 2 (.int .u64 J.sq)).setCell 3 (.int .i64 J.hd)).setCell 4 (.int .i64 J.us)).setCell 5 (.slice (some ⟨g, 0, none⟩) k k))
        have S9 := K9.right
        have S8 := H1.right
        have S8d := S8.drew
        have S9d := S9.drew
        have gb : ∀ o w', Sat w' B3 → w'.cell? ⟨j, o, none⟩ = (J.cells d r t)[o]? := fun o w' h => (hB3 ▸ h).cell o
        have gb4 : ∀ w', Sat w' B3 → w'.cell? ⟨j, 4, none⟩ = some (.int .u32 J.ep) := gb 4
        have gb5 : ∀ w', Sat w' B3 → w'.cell? ⟨j, 5, none⟩ = some (.int .u64 J.st) := gb 5
        have gb6 : ∀ w', Sat w' B3 → w'.cell? ⟨j, 6, none⟩ = some (.int .u64 J.sq) := gb 6
        have gb7 : ∀ w', Sat w' B3 → w'.cell? ⟨j, 7, none⟩ = some (.int .i64 J.hd) := gb 7
        have gb8 : ∀ w', Sat w' B3 → w'.cell? ⟨j, 8, none⟩ = some (.int .i64 J.us) := gb 8
        have gb9 : ∀ w', Sat w' B3 → w'.cell? ⟨cx, 0, none⟩ = some (.slice (some ⟨g, 0, none⟩) k k) := fun w' h => (hB3 ▸ h).front2.cell 0
        have HB3 := SL.hid hB3
        have HK9 := SL.hid K9
        clear H1 K9 gb hB3
        gi_wp2
        refine wpIn_wide.2 ?_
        go_region_held3 (fun w' => Sat w' B3) (first | (with_reducible exact S8) | (with_reducible exact S9) | (with_reducible exact S9d) | (with_reducible exact S8d)) (fail)
        have K10 : Sat (((((((W.setCell ⟨rx, 0, none⟩ (.int .u32 J.ep)).setCell ⟨rx, 1, none⟩ (.int .u64 J.st)).setCell ⟨rx, 2, none⟩ (.int .u64 J.sq)).setCell ⟨rx, 3, none⟩ (.int .i64 J.hd)).setCell ⟨rx, 4, none⟩ (.int .i64 J.us)).setCell ⟨rx, 5, none⟩ (.slice (some ⟨g, 0, none⟩) k k)).drew) _ := HK9.out.drew
        have D10 : Side w (((((((W.setCell ⟨rx, 0, none⟩ (.int .u32 J.ep)).setCell ⟨rx, 1, none⟩ (.int .u64 J.st)).setCell ⟨rx, 2, none⟩ (.int .u64 J.sq)).setCell ⟨rx, 3, none⟩ (.int .i64 J.hd)).setCell ⟨rx, 4, none⟩ (.int .i64 J.us)).setCell ⟨rx, 5, none⟩ (.slice (some ⟨g, 0, none⟩) k k)).drew) := ((((((hsd.setCell _ _).setCell _ _).setCell _ _).setCell _ _).setCell _ _).setCell _ _).drew
        rw [HB3.out] at K10
        generalize ((((((W.setCell ⟨rx, 0, none⟩ (.int .u32 J.ep)).setCell ⟨rx, 1, none⟩ (.int .u64 J.st)).setCell ⟨rx, 2, none⟩ (.int .u64 J.sq)).setCell ⟨rx, 3, none⟩ (.int .i64 J.hd)).setCell ⟨rx, 4, none⟩ (.int .i64 J.us)).setCell ⟨rx, 5, none⟩ (.slice (some ⟨g, 0, none⟩) k k)).drew = W9 at K10 D10 ⊢
        clear HK9 S9 S8 S8d S9d gb4 gb5 gb6 gb7 gb8 gb9 zz0 zz1 zz2 zz3 zz4 zz5 fz0 fz1 fz2 fz3 fz4 fz5
        have hK : W9.heap[D2]? = some (.deferred (some [])) := K10.front4.heap
        have K11 := (K10.front4.putObj (.deferred none)).right
        have D11 := D10.putObj D2 (.deferred none)
        gi_wp2
        refine ⟨by simp, .inl ⟨_, _, rfl, run_takeDeferred hK, ?_⟩⟩
        refine ⟨_, results_cell_row rfl _ _ rx 86 _ (0, 0) _ rfl K11.heap Tryz.underlying86 rfl (info_state _ rfl), g, ?_, ?_, D11⟩
        · rw [← Hn.out]; rfl
        · have e : atsN J.T k (tbAll J.T) = Jr.ats J := by rw [Hn.out]; exact ats_eq J.T
          rw [e] at K11
          have K12 : Sat _ (pt cx (.cells #[.slice (some ⟨g, 0, none⟩) k k] 45 (0, 0)) * (pt j (.cells (J.cells d r t) 98 (0, 0)) * (ringA r (ringL J.P) * (tableA t J.T * (pt g (.cells (ints (Jr.ats J)) 3 (0, 0)) * F))))) := K11.right.to (by ac_rfl)
          exact (Sat.jrShut K12.right).to (by ac_rfl)
end Go.Proofs.YtdafdidmbeecfaaGreatDoor
end
section
namespace Go.Proofs.YtdafdidmbeecfaaGreatDoor.Su
set_option linter.unusedVariables false
set_option linter.unusedSimpArgs false
open Go.RowKit Go.SL Go.Proofs.YtdafdidmbeecfaaGreatDoor Go.Proofs.YtdafdidmbeecfaaGreatDoor.Ba Go.Proofs.YtdafdidmbeecfaaGreatDoor.Fs
def stoA (s j d : Nat) (n P : Nat) (J : Jr) : Assn := pt s (.cells #[ptV j, .int .i64 (n : Int), .int .i64 (P : Int)] 42 (0, 0)) * jrA j d J
def OpenQ (d n P : Nat) (J : Jr) (w : World) (e : Ending) (w' : World) : Prop := ∃ s j, e = .returned (ptV s) ∧ Sat w' (stoA s j d n P J * whole w) ∧ Side w w'
set_option maxRecDepth 100000 in
set_option maxHeartbeats 4000000 in
theorem open_any (w : World) (S : Hp) (d : Nat) (D : Dev) (F : Assn) (hd : Sat w (devA S d D * F)) (n P : Nat) (s : Js) (a : Value) (ha : RdI w a s.at_) (hP0 : 1 ≤ P) (hP : P ≤ 20000) (hPs : P + 1 ≤ D.sec.length) (hDn : D.sec.length ≤ 20000) (hq : 0 ≤ s.sq) (hr : s.Right P) (hn : n ≤ 3840) :
    Calls Tryz.prog 45 #[ptV d, geV n P, s.v a] w (OpenQ d n P (Jr.ofS P s) w) := by
  obtain ⟨aa, an, ac, hav⟩ : ∃ aa an ac, a = .slice aa an ac := by
    rcases ha with ⟨_, _, rfl, h⟩ | ⟨g, o, c, rfl, _⟩
    · exact ⟨_, _, _, rfl⟩
    · exact ⟨_, _, _, rfl⟩
  have h1 := ((Sat.whole w).alloc (.cells #[.int .i64 (n : Int), .int .i64 (P : Int)] 35 (0, 0))).alloc (.cells #[.int .u32 s.ep, .int .u64 s.st, .int .u64 s.sq, .int .i64 s.hd, .int .i64 s.us, a] 86 (0, 0))
  have d1 := ((Side.refl w).alloc (.cells #[.int .i64 (n : Int), .int .i64 (P : Int)] 35 (0, 0))).alloc (.cells #[.int .u32 s.ep, .int .u64 s.st, .int .u64 s.sq, .int .i64 s.hd, .int .i64 s.us, a] 86 (0, 0))
  rw [World.size_alloc] at h1
  have hnew := fun (w1 : World) (X : Assn) (h : Sat w1 (X * whole w)) => jnew_any w1 S d D _ ((h.under hd).right) P s a (ha.under h) hP0 hP hPs hDn hq hr
  have hyes := fun w => must_yes w
  have Hn := SL.hid hnew
  clear hd ha hP0 hP hPs hDn hq hr hnew
  subst hav
  unfold geV Js.v at *
  go_enter Tryz.func45, Tryz.ntmps45
  go_wp2_with fail
  generalize ((w.alloc (.cells #[.int .i64 (n : Int), .int .i64 (P : Int)] 35 (0, 0))).alloc (.cells #[.int .u32 s.ep, .int .u64 s.st, .int .u64 s.sq, .int .i64 s.hd, .int .i64 s.us, .slice aa an ac] 86 (0, 0))) = w1 at h1 d1 ⊢
  generalize w.heap.size + 1 = qb at h1 ⊢
  generalize w.heap.size = gb at h1 ⊢
  have h1' : Sat w1 ((pt qb (.cells #[.int .u32 s.ep, .int .u64 s.st, .int .u64 s.sq, .int .i64 s.hd, .int .i64 s.us, .slice aa an ac] 86 (0, 0)) * pt gb (.cells #[.int .i64 (n : Int), .int .i64 (P : Int)] 35 (0, 0))) * whole w) := h1.to (by ac_rfl)
  have hnw := Hn.out w1 _ h1'
  have c0 : w1.cell? ⟨qb, 0, none⟩ = some (.int .u32 s.ep) := h1.cell 0
  have c1 : w1.cell? ⟨qb, 1, none⟩ = some (.int .u64 s.st) := h1.cell 1
  have c2 : w1.cell? ⟨qb, 2, none⟩ = some (.int .u64 s.sq) := h1.cell 2
  have c3 : w1.cell? ⟨qb, 3, none⟩ = some (.int .i64 s.hd) := h1.cell 3
  have c4 : w1.cell? ⟨qb, 4, none⟩ = some (.int .i64 s.us) := h1.cell 4
  have c5 : w1.cell? ⟨qb, 5, none⟩ = some (.slice aa an ac) := h1.cell 5
  have b0 : w1.cell? ⟨gb, 0, none⟩ = some (.int .i64 (n : Int)) := h1.front2.cell 0
  have b1 : w1.cell? ⟨gb, 1, none⟩ = some (.int .i64 (P : Int)) := h1.front2.cell 1
  have H1 := SL.hid h1'
  clear h1 h1' Hn
  go_wp2_with fail
  (with_reducible refine hnw.mono ?_)
  rintro e w2 ⟨j, rfl, h2, d2⟩
  have H2 := h2.under H1.out
  have D2 := d1.trans d2
  have hx : Sat w2 (pt gb (.cells #[.int .i64 (n : Int), .int .i64 (P : Int)] 35 (0, 0)) * (pt qb (.cells #[.int .u32 s.ep, .int .u64 s.st, .int .u64 s.sq, .int .i64 s.hd, .int .i64 s.us, .slice aa an ac] 86 (0, 0)) * (jrA j d (Jr.ofS P s) * whole w))) := H2.to (by ac_rfl)
  have g0 : w2.cell? ⟨gb, 0, none⟩ = some (.int .i64 (n : Int)) := hx.cell 0
  have g1 : w2.cell? ⟨gb, 1, none⟩ = some (.int .i64 (P : Int)) := hx.cell 1
  have hy := hyes w2
  have HH := SL.hid H2; have HD := SL.hid D2
  clear hnw h2 d2 d1 hx H1 H2 D2 hyes c0 c1 c2 c3 c4 c5 b0 b1
  go_wp2_with fail
  (with_reducible refine hy.mono ?_)
  rintro e w3 ⟨rfl, rfl⟩
  have h3 := (HH.out).alloc (.cells #[ptV j, .int .i64 (n : Int), .int .i64 (P : Int)] 42 (0, 0))
  have d3 := HD.out.alloc (.cells #[ptV j, .int .i64 (n : Int), .int .i64 (P : Int)] 42 (0, 0))
  have H3 := SL.hid h3; have D3 := SL.hid d3
  clear hy h3 d3 HH HD
  go_wp2_with fail
  go_ret
  refine ⟨_, j, rfl, ?_, D3.out⟩
  unfold stoA
  exact (H3.out.to (by ac_rfl : _ = (pt qb (.cells #[.int .u32 s.ep, .int .u64 s.st, .int .u64 s.sq, .int .i64 s.hd, .int .i64 s.us, .slice aa an ac] 86 (0, 0)) * pt gb (.cells #[.int .i64 (n : Int), .int .i64 (P : Int)] 35 (0, 0))) * ((pt w2.heap.size (.cells #[ptV j, .int .i64 (n : Int), .int .i64 (P : Int)] 42 (0, 0)) * jrA j d (Jr.ofS P s)) * whole w))).right
end Go.Proofs.YtdafdidmbeecfaaGreatDoor.Su
end
section
namespace Go.Proofs.YtdafdidmbeecfaaGreatDoor.Su
set_option linter.unusedVariables false
set_option linter.unusedSimpArgs false
open Go.RowKit Go.SL Go.Proofs.YtdafdidmbeecfaaGreatDoor Go.Proofs.YtdafdidmbeecfaaGreatDoor.Ba Go.Proofs.YtdafdidmbeecfaaGreatDoor.Fs
set_option maxRecDepth 100000 in
theorem reason_any (w : World) (c : Int) : Calls Tryz.prog 39 #[.iface 25 (.int .i64 c)] w fun e w' => e = .returned (.int .i64 c) ∧ w = w' := by
  have hta : ∀ (v : Value) (w : World), (Instr.typeAssert (.iface 25 v) 20 25 true).run Tryz.prog w = .ok (.tuple #[v, .bool true]) w := fun v w => by kernel_rfl
  go_enter Tryz.func39, Tryz.ntmps39
  go_wp2
  go_ret
  exact ⟨rfl, rfl⟩
def SFlushQ (S : Hp) (s j d n P : Nat) (R : Int × Jr × Dev) (F : Assn) (w : World) (e : Ending) (w' : World) : Prop :=
  e = .returned (.int .i64 R.1) ∧ Sat w' (stoA s j d n P R.2.1 * (devA S d R.2.2 * F)) ∧ Side w w'
set_option maxRecDepth 100000 in
theorem sync_any (w : World) (S : Hp) (s j d n P : Nat) (J : Jr) (D : Dev) (F : Assn) (h : Sat w (stoA s j d n P J * (devA S d D * F))) (hD : D.Ok) :
    Calls Tryz.prog 27 #[ptV s] w (SFlushQ S s j d n P (J.flush D) F w) := by
  unfold stoA SFlushQ stoA at *
  have c0 : w.cell? ⟨s, 0, none⟩ = some (ptV j) := (h.to (SL.star_assoc _ _ _)).cell 0
  have hf := jflush_any w S j d J D _ (h.to (by ac_rfl : _ = jrA j d J * (devA S d D * (pt s (.cells #[ptV j, .int .i64 (n : Int), .int .i64 (P : Int)] 42 (0, 0)) * F)))) hD
  clear h
  go_enter Tryz.func27, Tryz.ntmps27
  go_wp2_with fail
  (with_reducible refine hf.mono ?_)
  rintro e w2 ⟨rfl, h2, d2⟩
  have H2 := SL.hid h2; have D2 := SL.hid d2
  clear hf h2 d2
  go_wp2_with fail
  go_ret
  exact ⟨rfl, H2.out.to (by ac_rfl), D2.out⟩
def SeqQ (s j d n P : Nat) (J : Jr) (F : Assn) (w : World) (e : Ending) (w' : World) : Prop :=
  e = .returned (.int .u64 J.sq) ∧ Sat w' (stoA s j d n P J * F) ∧ Side w w'
set_option maxRecDepth 100000 in
theorem seq_any (w : World) (s j d n P : Nat) (J : Jr) (F : Assn) (h : Sat w (stoA s j d n P J * F)) (hJ : J.Ok) :
    Calls Tryz.prog 16 #[ptV s] w (SeqQ s j d n P J F w) := by
  unfold stoA SeqQ stoA at *
  have c0 : w.cell? ⟨s, 0, none⟩ = some (ptV j) := (h.to (SL.star_assoc _ _ _)).cell 0
  have hf := state_any w j d J _ (h.to (by ac_rfl : _ = jrA j d J * (pt s (.cells #[ptV j, .int .i64 (n : Int), .int .i64 (P : Int)] 42 (0, 0)) * F))) hJ
  unfold StateQ Js.v at hf
  have hsq : (Jr.js J).sq = J.sq := rfl
  rw [hsq] at hf
  have hfd : ∀ (a b c d e f : Value) (w : World), (Instr.field 86 (.agg #[a, b, c, d, e, f]) 2).run Tryz.prog w = .ok c w := fun a b c d e f w => by kernel_rfl
  clear h hsq
  go_enter Tryz.func16, Tryz.ntmps16
  go_wp2_with fail
  (with_reducible refine hf.mono ?_)
  rintro e w2 ⟨g, rfl, h2, d2⟩
  have H2 := SL.hid h2; have D2 := SL.hid d2
  clear hf h2 d2
  go_wp2_with fail
  go_ret
  exact ⟨rfl, (H2.out.right).to (by ac_rfl), D2.out⟩
def GeomQ (n P : Nat) (w : World) (e : Ending) (w' : World) : Prop := e = .returned (geV n P) ∧ Sat w' (whole w) ∧ Side w w'
set_option maxRecDepth 100000 in
theorem geom_any (w : World) (s j d n P : Nat) (J : Jr) (F : Assn) (h : Sat w (stoA s j d n P J * F)) :
    Calls Tryz.prog 15 #[ptV s] w (GeomQ n P w) := by
  unfold stoA at *
  have hx := h.to (SL.star_assoc _ _ _)
  have c1 : w.cell? ⟨s, 1, none⟩ = some (.int .i64 (n : Int)) := hx.cell 1
  have c2 : w.cell? ⟨s, 2, none⟩ = some (.int .i64 (P : Int)) := hx.cell 2
  have hlt : s < w.heap.size := hx.lt
  have h1 := (Sat.whole w).alloc (.cells #[.int .i64 (n : Int), .int .i64 (P : Int)] 35 (0, 0))
  have d1 := (Side.refl w).alloc (.cells #[.int .i64 (n : Int), .int .i64 (P : Int)] 35 (0, 0))
  clear h hx
  go_enter Tryz.func15, Tryz.ntmps15
  go_wp2_with fail
  refine bodyPost_ret (results_cell_row rfl _ _ _ 35 _ (0, 0) _ rfl h1.heap Tryz.underlying35 rfl (info_geo _ rfl)) rfl ⟨rfl, h1.right, d1⟩
set_option maxRecDepth 100000 in
set_option maxHeartbeats 1000000 in
theorem mntD_ret (w : World) (pa pe : Addr) :
    CallsD Tryz.prog 38 #[.pointer (some pa), .pointer (some pe)] .returning w fun e u w' => e = .returned (.tuple #[]) ∧ u = .returning ∧ w = w' := by
  refine callsD_of_wpS Tryz.func38 rfl fun c₀ cs hu => ?_
  apply wpS_seq
  apply wpS_region
  simp only [Tryz.ntmps38, List.size_toArray, List.length_cons, List.length_nil, Nat.reduceAdd, Nat.reduceSub, Array.replicate_succ,
     Array.replicate_zero, List.push_toArray, List.append_toArray, List.nil_append, List.cons_append]
  simp [wpOpsS, go_sem, recoverD, hu, Exit.thenS]
  refine wpS_of_wp ?_
  go_wp2
  cases c₀
  simp_all [bodyPostS, results, Tryz.results38]
set_option maxRecDepth 100000 in
set_option maxHeartbeats 1000000 in
theorem mntD_pan (w : World) (ab eb : Nat) (c z : Int) (p : Value) (older : List PanicEntry) (h0 : w.cell? ⟨ab, 0, none⟩ = some p) (he : w.cell? ⟨eb, 0, none⟩ = some (.int .i64 z))
    (f0 : w.frozen? ⟨ab, 0, none⟩ = false) (fe : w.frozen? ⟨eb, 0, none⟩ = false) (hne : ab ≠ eb) :
    CallsD Tryz.prog 38 #[.pointer (some ⟨ab, 0, none⟩), .pointer (some ⟨eb, 0, none⟩)] (.panicking ({ v := .iface 25 (.int .i64 c), recovered := false } :: older)) w fun e u w' =>
      e = .returned (.tuple #[]) ∧ u = .panicking ({ v := .iface 25 (.int .i64 c), recovered := true } :: older) ∧ w' = (w.setCell ⟨ab, 0, none⟩ (.pointer none)).setCell ⟨eb, 0, none⟩ (.int .i64 c) := by
  have hr := reason_any w c
  refine callsD_of_wpS Tryz.func38 rfl fun c₀ cs hu => ?_
  apply wpS_seq
  apply wpS_region
  simp only [Tryz.ntmps38, List.size_toArray, List.length_cons, List.length_nil, Nat.reduceAdd, Nat.reduceSub, Array.replicate_succ,
     Array.replicate_zero, List.push_toArray, List.append_toArray, List.nil_append, List.cons_append]
  simp [wpOpsS, go_sem, recoverD, hu, Exit.thenS]
  refine wpS_of_wp ?_
  go_wp2_with fail
  (with_reducible refine hr.mono ?_)
  rintro e w2 ⟨rfl, rfl⟩
  go_wp2
  exact ⟨rfl, _, rfl, _, results_none rfl _ _ _, rfl, rfl, rfl⟩
theorem mnt_results {w : World} {tmps : Array Value} {a b : Nat} {x e : Value} (h2 : tmps[2]? = some (ptV a)) (h3 : tmps[3]? = some (ptV b)) (ha : w.cell? ⟨a, 0, none⟩ = some x) (hb : w.cell? ⟨b, 0, none⟩ = some e) :
    (results Tryz.f12 tmps).run Tryz.prog w = .ok (.tuple #[x, e]) w := by
  simp [results, Tryz.results12, go_sem, h2, h3, ha, hb]
theorem doorM_pan {w : World} {tmps : Array Value} {ab eb : Nat} {z c : Int} {p : Value} {X : Assn} {R : Ending → World → Prop} (h2 : tmps[2]? = some (ptV ab)) (h3 : tmps[3]? = some (ptV eb))
    (h : Sat w (pt ab (.cells #[p] 29 (0, 0)) * (pt eb (.cells #[.int .i64 z] 25 (0, 0)) * X))) (hR : ∀ w', Sat w' X → Side w w' → R (.returned (.tuple #[.pointer none, .int .i64 c])) w') :
    bodyPostD Tryz.prog Tryz.f12 R (Exit.panic (erP c)) { tmps := tmps, defers := [{ target := .fn (.func 38) #[.pointer (some ⟨ab, 0, none⟩), .pointer (some ⟨eb, 0, none⟩)], args := #[] }] } w := by
  have hne : ab ≠ eb := Sat.ne h
  refine leaves_cons (f := 38) (args := #[.pointer (some ⟨ab, 0, none⟩), .pointer (some ⟨eb, 0, none⟩)]) (by simp) (by simp [go_sem]) ?_
  refine (mntD_pan w ab eb c z p [] (h.cell 0) (h.front2.cell 0) (h.frozen 0) (h.front2.frozen 0) hne).mono ?_
  rintro e u w7 ⟨rfl, rfl, rfl⟩
  have h11 := ((h.setCell 0 (.pointer none)).front2.setCell 0 (.int .i64 c))
  exact ⟨_, mnt_results h2 h3 (h11.front2.cell 0) (h11.cell 0), hR _ h11.right.right (((Side.refl w).setCell _ _).setCell _ _)⟩
theorem doorM_ret {w : World} {tmps : Array Value} {ab eb : Nat} {x z : Value} {R : Ending → World → Prop} (h2 : tmps[2]? = some (ptV ab)) (h3 : tmps[3]? = some (ptV eb))
    (ha : w.cell? ⟨ab, 0, none⟩ = some x) (hb : w.cell? ⟨eb, 0, none⟩ = some z) (hR : R (.returned (.tuple #[x, z])) w) :
    bodyPostD Tryz.prog Tryz.f12 R Exit.ret { tmps := tmps, defers := [{ target := .fn (.func 38) #[.pointer (some ⟨ab, 0, none⟩), .pointer (some ⟨eb, 0, none⟩)], args := #[] }] } w := by
  refine leaves_cons (f := 38) (args := #[.pointer (some ⟨ab, 0, none⟩), .pointer (some ⟨eb, 0, none⟩)]) (by simp) (by simp [go_sem]) ?_
  refine (mntD_ret w ⟨ab, 0, none⟩ ⟨eb, 0, none⟩).mono ?_
  rintro e u w7 ⟨rfl, rfl, rfl⟩
  exact ⟨_, mnt_results h2 h3 ha hb, hR⟩
end Go.Proofs.YtdafdidmbeecfaaGreatDoor.Su
end

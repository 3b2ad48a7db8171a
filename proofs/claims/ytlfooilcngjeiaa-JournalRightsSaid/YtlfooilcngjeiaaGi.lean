/- JournalRights: the document's Right, same: what they tell. -/
import Derived.Test.YtlfooilcngjeiaaGd
import Derived.Deep.DeepCutAuto
import Derived.BigQuiet
import Derived.Deep.QuietTactic
import Derived.Deep.CutBlock
import Derived.Deep.CutRange
namespace Go.SL
set_option linter.unusedVariables false
set_option linter.unusedSimpArgs false
open Go.RowKit
theorem tmod_turn (a P : Int) (h : 1 ≤ P) : (if a.tmod P < 0 then a.tmod P + P else a.tmod P) = a % P ∧ -P < a.tmod P ∧ a.tmod P < P := by
  have h1 := Int.emod_nonneg a (show P ≠ 0 by omega)
  have h2 := Int.emod_lt_of_pos a (show 0 < P by omega)
  rw [Int.tmod_eq_emod]
  have : (P.natAbs : Int) = P := by omega
  split <;> split <;> omega
/-- Places that are in use, k of them. -/
def markd (P hd : Int) (k : Nat) (q : Nat) : Prop := ∃ t : Nat, 1 ≤ t ∧ t ≤ k ∧ (q : Int) = (hd - (t : Int)) % P
theorem markd_ahead {P hd us : Int} (h0 : 0 ≤ hd) (h1 : hd < P) (u0 : 0 ≤ us) (u1 : us ≤ P) {q : Nat} (hq : (q : Int) < P) : markd P hd us.toNat q ↔ jAhead P hd (q : Int) ≤ us := by
  constructor
  · rintro ⟨t, t1, t2, e⟩
    have hm : (hd - (t : Int)) % P = hd - t ∨ (hd - (t : Int)) % P = hd - t + P := by
      by_cases hn : 0 ≤ hd - (t : Int)
      · exact .inl (Int.emod_eq_of_lt hn (by omega))
      · right
        rw [← Int.add_emod_right]
        exact Int.emod_eq_of_lt (by omega) (by omega)
    unfold jAhead
    split <;> omega
  · intro h
    refine ⟨(jAhead P hd (q : Int)).toNat, ?_, ?_, ?_⟩
    · unfold jAhead; split <;> omega
    · unfold jAhead at h ⊢; split at h <;> rename_i h2 <;> simp only [h2, if_true, if_false] <;> omega
    · unfold jAhead
      by_cases h2 : hd - (q : Int) ≤ 0
      · rw [if_pos h2]
        have : hd - ((hd - (q : Int) + P).toNat : Int) = (q : Int) - P := by omega
        rw [this, Int.sub_emod_right, Int.emod_eq_of_lt (by omega) hq]
      · rw [if_neg h2]
        have : hd - ((hd - (q : Int)).toNat : Int) = (q : Int) := by omega
        rw [this, Int.emod_eq_of_lt (by omega) hq]
end Go.SL
namespace Go.Proofs.Ytlfooilcngjeiaa
set_option linter.unusedVariables false
set_option linter.unusedSimpArgs false
open Go.RowKit Go.SL
set_option maxRecDepth 100000 in
set_option maxHeartbeats 2000000 in
theorem refPlace_any (w : World) (b : Nat) (P a : Int) (hc : w.cell? ⟨b, 0, none⟩ = some (.int .i64 P)) (h1 : 1 ≤ P) (h2 : P ≤ 1000) (a0 : -1000000 ≤ a) (a1 : a ≤ 1000000) :
    Calls Try.prog 37 #[.pointer (some ⟨b, 0, none⟩), .int .i64 a] w (IntIs (a % P) w) := by
  obtain ⟨hm, hr0, hr1⟩ := tmod_turn a P h1
  have hP0 : ¬ P = 0 := by omega
  obtain ⟨r, hr⟩ : ∃ r, a.tmod P = r := ⟨_, rfl⟩
  rw [hr] at hm hr0 hr1
  by_cases hn : r < 0
  · rw [if_pos hn] at hm
    have Hm := SL.hid hm
    clear hm
    go_enter Try.func37, Try.ntmps37
    go_wp2
    go_ret
    exact (show IntIs (a % P) w (.returned (.int .i64 (r + P))) w from ⟨by rw [Hm.out], rfl⟩)
  · rw [if_neg hn] at hm
    have Hm := SL.hid hm
    clear hm
    go_enter Try.func37, Try.ntmps37
    go_wp2
    go_ret
    exact (show IntIs (a % P) w (.returned (.int .i64 r)) w from ⟨by rw [Hm.out], rfl⟩)
end Go.Proofs.Ytlfooilcngjeiaa
namespace Go.Proofs.Ytlfooilcngjeiaa
set_option linter.unusedVariables false
set_option linter.unusedSimpArgs false
open Go.RowKit Go.SL
def refV (s : Js) (a : Value) : Value := .agg #[.int .i64 0, .int .u64 s.sq, .int .i64 s.hd, .int .i64 s.us, a, .int .i64 0]
def RM1 (P hd : Int) (m p tb : Nat) (X : Assn) (w : World) (u : Value) (wr : World) : Prop :=
  ∃ (k : Nat) (bs : List Bool), k ≤ m ∧ u = .int .i64 ((k : Int) + 1) ∧ bs.length = p ∧ (∀ q, q < p → (bs.getD q false = true ↔ markd P hd k q)) ∧ Sat wr (pt tb (.cells (bls bs) 4 (0, 0)) * X) ∧ Side w wr
def RM1Out (P hd : Int) (m p tb : Nat) (X : Assn) (w wr : World) : Prop :=
  ∃ (bs : List Bool), bs.length = p ∧ (∀ q, q < p → (bs.getD q false = true ↔ markd P hd m q)) ∧ Sat wr (pt tb (.cells (bls bs) 4 (0, 0)) * X) ∧ Side w wr
def RM2 (P : Int) (s : Js) (m p tb n : Nat) (X : Assn) (w : World) (u : Value) (wr : World) : Prop :=
  ∃ (i : Nat) (bs : List Bool), i ≤ n ∧ u = .int .i64 (i : Int) ∧ bs.length = p ∧ (∀ q : Nat, q < p → (bs.getD q false = true ↔ (markd P s.hd m q ∧ (q : Int) ∉ s.at_.take i))) ∧ (∀ k, k < i → s.okAt P k) ∧ Sat wr (pt tb (.cells (bls bs) 4 (0, 0)) * X) ∧ Side w wr
theorem markd_succ {P hd : Int} {k q : Nat} : markd P hd (k + 1) q ↔ (markd P hd k q ∨ (q : Int) = (hd - ((k : Int) + 1)) % P) := by
  constructor
  · rintro ⟨t, t1, t2, e⟩
    rcases Nat.lt_or_eq_of_le t2 with h | h
    · exact .inl ⟨t, t1, by omega, e⟩
    · right; rw [e, h]; rfl
  · rintro (⟨t, t1, t2, e⟩ | e)
    · exact ⟨t, t1, by omega, e⟩
    · exact ⟨k + 1, by omega, Nat.le_refl _, by rw [e]; rfl⟩
set_option maxRecDepth 100000 in
set_option maxHeartbeats 8000000 in
theorem refRight_any (P : Int) (s : Js) (a : Value) (w : World) (hP : P ≤ 300) (hPm : -9223372036854775808 ≤ P) (hq : 0 ≤ s.sq) (hl : s.at_.length ≤ 9223372036854775807) (ha : RdI w a s.at_) (B : Bool) (hB : B = true ↔ (1 ≤ P ∧ s.Right P)) :
    Calls Try.prog 11 #[.int .i64 P, .int .u32 s.ep, .int .u64 s.st, refV s a] w (RightQ B w) := by
  have HB := SL.hid hB
  have no : Hid (¬ (1 ≤ P ∧ s.Right P) → B = false) := fun h => by
    cases hb : B with
    | false => rfl
    | true => exact absurd (hB.1 hb) h
  clear hB
  obtain ⟨n, hn⟩ : ∃ n, n = s.at_.length := ⟨_, rfl⟩
  obtain ⟨aa, ac, hav⟩ : ∃ aa ac, a = .slice aa n ac := by
    rcases ha with ⟨_, _, rfl, h⟩ | ⟨g, o, c, rfl, _⟩
    · rw [hn, h]; exact ⟨_, _, rfl⟩
    · rw [hn]; exact ⟨_, _, rfl⟩
  subst hav
  rw [← hn] at hl
  have Hn := SL.hid hn
  have Ha := SL.hid ha
  clear hn ha
  obtain ⟨ep, st, sq, hd, us, at_⟩ := s
  unfold refV
  dsimp only at *
  have hbox := (Sat.whole w).alloc (.cells #[.int .i64 P, .int .u64 sq, .int .i64 hd, .int .i64 us, .slice aa n ac, .int .i64 0] 30 (0, 0))
  have hsd := (Side.refl w).alloc (.cells #[.int .i64 P, .int .u64 sq, .int .i64 hd, .int .i64 us, .slice aa n ac, .int .i64 0] 30 (0, 0))
  have Hbox := SL.hid hbox; have Hsd := SL.hid hsd
  clear hbox hsd
  have hl' : (n : Int) ≤ 9223372036854775807 := by omega
  by_cases h1 : P < 1
  · have e := no.out (fun h => by have := h.1; omega)
    subst e
    go_enter Try.func11, Try.ntmps11
    go_wp2
    go_ret
    exact ⟨rfl, Hbox.out.right, Hsd.out⟩
  by_cases h2 : ep < 1
  · have e := no.out (fun h => by have := h.2.ep; dsimp only at this; omega)
    subst e
    go_enter Try.func11, Try.ntmps11
    go_wp2
    go_ret
    exact ⟨rfl, Hbox.out.right, Hsd.out⟩
  by_cases h3 : 281474976710655 < sq
  · have e := no.out (fun h => by have := h.2.sq; dsimp only at this; omega)
    subst e
    go_enter Try.func11, Try.ntmps11
    go_wp2
    go_ret
    exact ⟨rfl, Hbox.out.right, Hsd.out⟩
  by_cases h4 : st < 1
  · have e := no.out (fun h => by have := h.2.st0; dsimp only at this; omega)
    subst e
    go_enter Try.func11, Try.ntmps11
    go_wp2
    go_ret
    exact ⟨rfl, Hbox.out.right, Hsd.out⟩
  have hwr : IntKind.u64.wrap (sq + 1) = sq + 1 := by rw [IntKind.wrap_u64]; omega
  by_cases h5 : sq + 1 < st
  · have e := no.out (fun h => by have := h.2.st1; dsimp only at this; omega)
    subst e
    go_enter Try.func11, Try.ntmps11
    go_wp2
    go_ret
    exact ⟨rfl, Hbox.out.right, Hsd.out⟩
  by_cases h6 : hd < 0
  · have e := no.out (fun h => by have := h.2.hd0; dsimp only at this; omega)
    subst e
    go_enter Try.func11, Try.ntmps11
    go_wp2
    go_ret
    exact ⟨rfl, Hbox.out.right, Hsd.out⟩
  by_cases h7 : P ≤ hd
  · have e := no.out (fun h => by have := h.2.hd1; dsimp only at this; omega)
    subst e
    go_enter Try.func11, Try.ntmps11
    go_wp2
    go_ret
    exact ⟨rfl, Hbox.out.right, Hsd.out⟩
  by_cases h8 : us < 0
  · have e := no.out (fun h => by have := h.2.us0; dsimp only at this; omega)
    subst e
    go_enter Try.func11, Try.ntmps11
    go_wp2
    go_ret
    exact ⟨rfl, Hbox.out.right, Hsd.out⟩
  by_cases h9 : P < us
  · have e := no.out (fun h => by have := h.2.us1; dsimp only at this; omega)
    subst e
    go_enter Try.func11, Try.ntmps11
    go_wp2
    go_ret
    exact ⟨rfl, Hbox.out.right, Hsd.out⟩
  by_cases h10 : (n : Int) < 1
  · have e := no.out (fun h => by have := h.2.n0; have := Hn.out; dsimp only at *; omega)
    subst e
    go_enter Try.func11, Try.ntmps11
    go_wp2
    go_ret
    exact ⟨rfl, Hbox.out.right, Hsd.out⟩
  by_cases h11 : 3840 < (n : Int)
  · have e := no.out (fun h => by have := h.2.n1; have := Hn.out; dsimp only at *; omega)
    subst e
    go_enter Try.func11, Try.ntmps11
    go_wp2
    go_ret
    exact ⟨rfl, Hbox.out.right, Hsd.out⟩
  obtain ⟨p, hp⟩ := Int.eq_ofNat_of_zero_le (show 0 ≤ P by omega)
  obtain ⟨m, hm⟩ := Int.eq_ofNat_of_zero_le (show 0 ≤ us by omega)
  subst hp; subst hm
  have hmk : ∀ w, (Instr.makeSlice 60 (.int .i64 (p : Int)) (.int .i64 (p : Int))).run Try.prog w = .ok (.slice (some ⟨w.heap.size, 0, none⟩) p p) (w.alloc (.cells (bls (List.replicate p false)) 4 (0, 0))) := make_bls p (by omega)
  obtain ⟨B0, hB0⟩ : ∃ l, l = List.replicate p false := ⟨_, rfl⟩
  rw [← hB0] at hmk
  have HB0 := SL.hid hB0
  clear hB0
  go_enter Try.func11, Try.ntmps11
  go_upto_block 0 with (fail)
  have H1 := Hbox.out.alloc (.cells (bls B0) 4 (0, 0))
  have D1 := Hsd.out.alloc (.cells (bls B0) 4 (0, 0))
  rw [World.size_alloc] at H1
  generalize w.alloc (.cells #[.int .i64 (p : Int), .int .u64 sq, .int .i64 hd, .int .i64 (m : Int), .slice aa n ac, .int .i64 0] 30 (0, 0)) = w1 at H1 D1 Hbox Hsd ⊢
  generalize w1.alloc (.cells (bls B0) 4 (0, 0)) = w2 at H1 D1 ⊢
  generalize w.heap.size + 1 = tb at H1 ⊢
  generalize w.heap.size = rb at *
  obtain ⟨OS, hOS⟩ : ∃ o, o = Obj.cells #[.int .i64 (p : Int), .int .u64 sq, .int .i64 hd, .int .i64 (m : Int), .slice aa n ac, .int .i64 0] 30 (0, 0) := ⟨_, rfl⟩
  obtain ⟨X, hX⟩ : ∃ X, X = pt rb OS * whole w := ⟨_, rfl⟩
  rw [← hOS, ← hX] at H1
  have HOS := SL.hid hOS; have HX := SL.hid hX
  have hcells : ∀ Q w', Sat w' (Q * X) → w'.cell? ⟨rb, 0, none⟩ = some (.int .i64 (p : Int)) ∧ w'.cell? ⟨rb, 2, none⟩ = some (.int .i64 hd) ∧ w'.cell? ⟨rb, 3, none⟩ = some (.int .i64 (m : Int)) ∧ w'.cell? ⟨rb, 4, none⟩ = some (.slice aa n ac) := fun Q w' h => by
    have h' : Sat w' (pt rb OS * (Q * whole w)) := h.to (by rw [hX]; ac_rfl)
    rw [hOS] at h'
    exact ⟨h'.cell 0, h'.cell 2, h'.cell 3, h'.cell 4⟩
  have Hcells := SL.hid hcells
  have HD1 := SL.hid D1; have HH1 := SL.hid H1
  clear hOS hX hcells H1 D1 Hbox Hsd hmk
  have hp1 : 1 ≤ (p : Int) := by omega
  have hp3 : (p : Int) ≤ 300 := hP
  have hd0 : 0 ≤ hd := by omega
  have hdp : hd < (p : Int) := by omega
  have hmp : (m : Int) ≤ (p : Int) := by omega
  go_cut [] from 73 to 85 (fun wx => RM1Out (p : Int) hd m p tb X w wx)
  case first =>
    go_wp2_with fail
    go_loopw [10] (fun u wr => RM1 (p : Int) hd m p tb X w u wr) (fun u _ => m + 1 - (intOf u).toNat)
    case atStart => exact ⟨0, B0, Nat.zero_le _, rfl, by rw [HB0.out]; simp, fun q hq => by
      rw [HB0.out]
      constructor
      · intro h; simp [List.getD, List.getElem?_replicate, hq] at h
      · rintro ⟨t, t1, t2, _⟩; omega, HH1.out, HD1.out⟩
    case round =>
      clear HH1 HD1
      obtain ⟨k, bs, hk, rfl, hbl, hbs, hsat, hside⟩ := hrel
      obtain ⟨c0, c2, c3, c4⟩ := Hcells.out _ wr hsat
      by_cases hlt : k < m
      · have hlt' : (k : Int) + 1 ≤ (m : Int) := by omega
        have hpl := refPlace_any wr rb (p : Int) (hd - ((k : Int) + 1)) c0 hp1 (by omega) (by omega) (by omega)
        have e0 : 0 ≤ (hd - ((k : Int) + 1)) % (p : Int) := Int.emod_nonneg _ (by omega)
        have e1 : (hd - ((k : Int) + 1)) % (p : Int) < (p : Int) := Int.emod_lt_of_pos _ (by omega)
        obtain ⟨x, hx⟩ := Int.eq_ofNat_of_zero_le e0
        rw [hx] at hpl e1
        have hxp : x < p := by omega
        have cx : wr.cell? ⟨tb, x, none⟩ = some (.bool (bs.getD x false)) := (hsat.cell x).trans (get_bls (by omega))
        have fx := hsat.frozen x
        have hset := hsat.setCell x (.bool true)
        rw [set_bls] at hset
        generalize bs.getD x false = ux at cx
        have Hbs := SL.hid hbs; have Hset := SL.hid hset; have Hside := SL.hid hside; have Hx := SL.hid hx; have Hbl := SL.hid hbl
        clear hsat hset hbs hside e0 hx hbl
        go_wp2_with fail
        (with_reducible refine hpl.mono ?_)
        rintro e w3 ⟨rfl, rfl⟩
        go_wp2
        go_roundw
        case rel =>
          refine ⟨k + 1, bs.set x true, by omega, by go_num, by rw [List.length_set]; exact Hbl.out, fun q hq => ?_, Hset.out, Hside.out.setCell _ _⟩
          rw [markd_succ, Hx.out]
          by_cases hqx : q = x
          · subst hqx
            have : (bs.set q true).getD q false = true := by simp [List.getD, Hbl.out, hq]
            rw [this]; exact ⟨fun _ => .inr rfl, fun _ => rfl⟩
          · have : (bs.set x true).getD q false = bs.getD q false := by simp [List.getD, List.getElem?_set_ne (Ne.symm hqx)]
            rw [this, Hbs.out q hq]
            constructor
            · intro h; exact .inl h
            · rintro (h | h)
              · exact h
              · exact absurd (by omega : q = x) hqx
        case measure => simp [intOf]; omega
      · obtain rfl : k = m := by omega
        have fin : RM1Out (p : Int) hd k p tb X w wr := ⟨bs, hbl, hbs, hsat, hside⟩
        have Hfin := SL.hid fin
        clear fin hsat hbs hside
        go_wp2_with fail
        go_meet
        exact Hfin.out
  case rest =>
    clear HH1 HD1
    obtain ⟨bs0, hbl0, hbs0, hsat0, hside0⟩ := hcut
    go_wp2_with fail
    go_loopw [11] (fun u wr => RM2 (p : Int) ⟨ep, st, sq, hd, (m : Int), at_⟩ m p tb n X w u wr) (fun u _ => n - (intOf u).toNat)
    case atStart => exact ⟨0, bs0, Nat.zero_le _, rfl, hbl0, fun q hq => by rw [hbs0 q hq]; simp, fun k hk => absurd hk (Nat.not_lt_zero _), hsat0, hside0⟩
    case round =>
      clear hsat0 hside0 hbs0 hbl0
      obtain ⟨i, bs, hi, rfl, hbl, hbs, hok, hsat, hside⟩ := hrel
      dsimp only at hbs
      obtain ⟨c0, c2, c3, c4⟩ := Hcells.out _ wr hsat
      have hi3 : (i : Int) ≤ 3840 := by omega
      by_cases hlt : i < n
      · have hlt' : (i : Int) < (n : Int) := by omega
        obtain ⟨g, o, rfl, cv⟩ : ∃ g o, aa = some ⟨g, o, none⟩ ∧ wr.cell? ⟨g, o + i, none⟩ = some (.int .i64 (at_.getD i 0)) := by
          have hn := Hn.out
          rcases Ha.out with ⟨_, _, h, h0⟩ | ⟨g, o, c, h, _, _, hc⟩
          · rw [h0] at hn; simp at hn; omega
          · injection h with e1 e2 e3
            exact ⟨g, o, e1, (hsat.to (by rw [HX.out]; ac_rfl : _ = (pt tb (.cells (bls bs) 4 (0, 0)) * pt rb OS) * whole w)).cellOld (hc i (by omega))⟩
        have hac : (n : Int) ≤ (ac : Int) ∧ (ac : Int) ≤ 9223372036854775807 := by
          have hn := Hn.out
          rcases Ha.out with ⟨_, _, h, h0⟩ | ⟨g, o, c, h, h2, h3, hc⟩
          · rw [h0] at hn; simp at hn; omega
          · injection h with e1 e2 e3
            unfold maxLen at h3
            omega
        obtain ⟨hac1, hac2⟩ := hac
        have htk : at_.take (i + 1) = at_.take i ++ [at_.getD i 0] := by
          have hn := Hn.out
          rw [List.take_add_one, List.getD, List.getElem?_eq_getElem (by omega)]; rfl
        obtain ⟨v, hv⟩ : ∃ v, v = at_.getD i 0 := ⟨_, rfl⟩
        rw [← hv] at cv htk
        have Hv := SL.hid hv; have Htk := SL.hid htk; have Hbs := SL.hid hbs; have Hok := SL.hid hok; have Hsat := SL.hid hsat; have Hside := SL.hid hside; have Hbl := SL.hid hbl
        clear hv htk hbs hok hside hbl
        have hfail : ¬ Js.okAt (p : Int) ⟨ep, st, sq, hd, (m : Int), at_⟩ i → RightQ B w (.returned (.bool false)) wr := fun h => by
          have e := no.out fun h' => h (h'.2.ok i (by have := Hn.out; dsimp only; omega))
          subst e
          have := Hsat.out
          rw [HX.out] at this
          exact ⟨rfl, this.right.right, Hside.out⟩
        have Hfail := SL.hid hfail
        clear hfail
        by_cases hm1 : v = -1
        · subst hm1
          clear hsat
          go_wp2
          go_roundw
          case rel =>
            refine ⟨i + 1, bs, by omega, by go_num, Hbl.out, fun q hq => ?_, fun k hk => ?_, Hsat.out, Hside.out⟩
            · dsimp only
              rw [Hbs.out q hq, Htk.out, List.mem_append]
              have : ¬ ((q : Int) = -1) := by omega
              simp [this]
            · rcases Nat.lt_or_eq_of_le (Nat.lt_succ_iff.1 hk) with h | h
              · exact Hok.out k h
              · rw [h]; exact .inl Hv.out.symm
          case measure => simp [intOf]; omega
        · have hm1' : decide (v = -1) = false := by simpa using hm1
          by_cases hr : 0 ≤ v ∧ v < (p : Int)
          · obtain ⟨v0, v1⟩ := hr
            obtain ⟨x, rfl⟩ := Int.eq_ofNat_of_zero_le v0
            have hxp : x < p := by omega
            have cx : wr.cell? ⟨tb, x, none⟩ = some (.bool (bs.getD x false)) := (hsat.cell x).trans (get_bls (by have := Hbl.out; omega))
            have fx := hsat.frozen x
            have hset := hsat.setCell x (.bool false)
            rw [set_bls] at hset
            have Hset := SL.hid hset
            have hbx := Hbs.out x hxp
            have hah := markd_ahead (us := (m : Int)) hd0 hdp (by omega) hmp (q := x) v1
            rw [Int.toNat_natCast] at hah
            clear hsat hset
            by_cases hb : bs.getD x false = true
            · rw [hb] at cx
              obtain ⟨k1, k2⟩ := hbx.1 hb
              have Hk1 := SL.hid (hah.1 k1); have Hk2 := SL.hid k2
              clear hbx hah hb k1 k2
              go_wp2
              go_roundw
              case rel =>
                refine ⟨i + 1, bs.set x false, by omega, by go_num, by rw [List.length_set]; exact Hbl.out, fun q hq => ?_, fun k hk => ?_, Hset.out, Hside.out.setCell _ _⟩
                · dsimp only
                  rw [Htk.out, List.mem_append]
                  by_cases hqx : q = x
                  · subst hqx
                    have : (bs.set q false).getD q false = false := by simp [List.getD, Hbl.out, hq]
                    rw [this]
                    simp
                  · have : (bs.set x false).getD q false = bs.getD q false := by simp [List.getD, List.getElem?_set_ne (Ne.symm hqx)]
                    rw [this, Hbs.out q hq]
                    have hne : ¬ ((q : Int) = (x : Int)) := by omega
                    rw [List.mem_singleton]
                    exact ⟨fun hh => ⟨hh.1, fun hk => hk.elim hh.2 hne⟩, fun hh => ⟨hh.1, fun hk => hh.2 (.inl hk)⟩⟩
                · rcases Nat.lt_or_eq_of_le (Nat.lt_succ_iff.1 hk) with h | h
                  · exact Hok.out k h
                  · rw [h]
                    refine .inr ?_
                    dsimp only
                    rw [← Hv.out]
                    exact ⟨v0, v1, Hk2.out, Hk1.out⟩
              case measure => simp [intOf]; omega
            · have hbf : bs.getD x false = false := by simpa using hb
              rw [hbf] at cx
              have hfin := Hfail.out (by
                rintro (h | h)
                · dsimp only at h; rw [← Hv.out] at h; omega
                · dsimp only at h
                  rw [← Hv.out] at h
                  exact hb (hbx.2 ⟨hah.2 h.2.2.2, h.2.2.1⟩))
              have Hfin := SL.hid hfin
              clear hbx hah hb hbf hfin
              go_wp2
              go_ret
              exact Hfin.out
          · have hfin := Hfail.out (by
              rintro (h | h)
              · dsimp only at h; rw [← Hv.out] at h; exact hm1 h
              · dsimp only at h
                rw [← Hv.out] at h
                exact hr ⟨h.1, h.2.1⟩)
            have Hfin := SL.hid hfin
            clear hfin hsat
            by_cases v0 : 0 ≤ v
            · have v1 : ¬ v < (p : Int) := fun h => hr ⟨v0, h⟩
              clear hr
              go_wp2
              go_ret
              exact Hfin.out
            · clear hr
              go_wp2
              go_ret
              exact Hfin.out
      · obtain rfl : i = n := by omega
        have hBt : B = true := HB.out.2 ⟨hp1, ⟨by dsimp only; omega, by dsimp only; omega, by dsimp only; omega, by dsimp only; omega, hd0, hdp, by dsimp only; omega, hmp, by have := Hn.out; dsimp only; omega, by have := Hn.out; dsimp only; omega, fun k hk => hok k (by have := Hn.out; dsimp only at hk; omega)⟩⟩
        subst hBt
        have hfin : Sat wr (whole w) := by rw [HX.out] at hsat; exact hsat.right.right
        have Hfin := SL.hid hfin; have Hside := SL.hid hside
        clear hsat hside hbs hok hfin
        go_wp2
        go_ret
        exact ⟨rfl, Hfin.out, Hside.out⟩
end Go.Proofs.Ytlfooilcngjeiaa
namespace Go.Proofs.Ytlfooilcngjeiaa
set_option linter.unusedVariables false
set_option linter.unusedSimpArgs false
open Go.RowKit Go.SL
/-- The table of a state that may be tells that state again. -/
structure TbR (P : Nat) (l : List Int) (k : Nat) : Prop where
  con : (tbN P l k).Con
  ps : ∀ x : Nat, told (tbN P l k).ps (x : Int) = if x < k ∧ 0 ≤ l.getD x 0 then some (l.getD x 0) else none
  os : ∀ q x, told (tbN P l k).os q = some x → ∃ y : Nat, x = (y : Int) ∧ y < k ∧ l.getD y 0 = q
theorem tbR {P : Nat} {s : Js} (h : s.Right (P : Int)) : ∀ k, k ≤ s.at_.length → TbR P s.at_ k := by
  intro k
  induction k with
  | zero =>
    intro _
    refine ⟨Tb.fresh_con _ _, fun x => ?_, fun q x hx => ?_⟩
    · show told (Tb.fresh s.at_.length P).ps _ = _
      rw [(Tb.fresh_told _ _ _).1, if_neg (by omega)]
    · replace hx : told (Tb.fresh s.at_.length P).os q = some x := hx
      rw [(Tb.fresh_told s.at_.length P q).2] at hx; cases hx
  | succ k ih =>
    intro hk
    obtain ⟨c1, c2, c3⟩ := ih (by omega)
    have hlen := tbN_len P s.at_ k
    have hokk := h.ok k (by omega)
    by_cases hp : 0 ≤ s.at_.getD k 0
    · rcases hokk with hm | ⟨p0, p1, hnm, _⟩
      · omega
      generalize hpe : s.at_.getD k 0 = p at *
      have e : tbN P s.at_ (k + 1) = ((tbN P s.at_ k).put (k : Int) p).2 := by rw [tbN, hpe, if_pos hp]
      have hfree : told (tbN P s.at_ k).os p = none := by
        cases hf : told (tbN P s.at_ k).os p with
        | none => rfl
        | some x =>
          obtain ⟨y, rfl, hy, hy2⟩ := c3 p x hf
          exfalso
          apply hnm
          rw [List.mem_take_iff_getElem]
          refine ⟨y, by omega, ?_⟩
          rw [List.getD, List.getElem?_eq_getElem (by omega)] at hy2
          exact hy2
      have i1 : (k : Int) < ((tbN P s.at_ k).ps.length : Int) := by rw [hlen.1]; omega
      have q1 : p < ((tbN P s.at_ k).os.length : Int) := by rw [hlen.2]; exact p1
      have hps := Tb.put_ps c1 (by omega : (0 : Int) ≤ (k : Int)) i1 p0 q1 hfree
      have hoq := Tb.put_os c1 (by omega : (0 : Int) ≤ (k : Int)) i1 p0 q1 hfree
      have hkn : told (tbN P s.at_ k).ps (k : Int) = none := by rw [c2, if_neg (by omega)]
      refine ⟨by rw [e]; exact Tb.put_con c1 (by omega) i1 p0 q1 hfree, fun x => ?_, fun q x hq => ?_⟩
      · rw [e, hps, c2]
        by_cases hx : x = k
        · subst hx
          rw [if_pos rfl, hpe, if_pos ⟨by omega, p0⟩]
        · rw [if_neg (by omega)]
          by_cases hxk : x < k ∧ 0 ≤ s.at_.getD x 0
          · rw [if_pos hxk, if_pos ⟨by omega, hxk.2⟩]
          · rw [if_neg hxk, if_neg (fun hh => hxk ⟨by omega, hh.2⟩)]
      · rw [e, hoq, hkn] at hq
        by_cases hqp : q = p
        · subst hqp
          rw [if_pos rfl] at hq
          injection hq with hq
          exact ⟨k, hq.symm, by omega, hpe⟩
        · rw [if_neg hqp, if_neg (by simp)] at hq
          obtain ⟨y, y1, y2, y3⟩ := c3 q x hq
          exact ⟨y, y1, by omega, y3⟩
    · have e : tbN P s.at_ (k + 1) = tbN P s.at_ k := by rw [tbN, if_neg hp]
      refine ⟨by rw [e]; exact c1, fun x => ?_, fun q x hq => ?_⟩
      · rw [e, c2]
        by_cases hxk : x < k ∧ 0 ≤ s.at_.getD x 0
        · rw [if_pos hxk, if_pos ⟨by omega, hxk.2⟩]
        · rw [if_neg hxk, if_neg (fun hh => hxk ⟨by
            by_cases hx : x = k
            · subst hx; exact absurd hh.2 hp
            · omega, hh.2⟩)]
      · rw [e] at hq
        obtain ⟨y, y1, y2, y3⟩ := c3 q x hq
        exact ⟨y, y1, by omega, y3⟩
theorem ofS_ats {P : Nat} {s : Js} (h : s.Right (P : Int)) : Jr.ats (Jr.ofS P s) = s.at_ ∧ (Jr.ofS P s).T.ps.length = s.at_.length := by
  have ht := tbR h s.at_.length (Nat.le_refl _)
  have hl : (Jr.ofS P s).T.ps.length = s.at_.length := (tbN_len P s.at_ s.at_.length).1
  refine ⟨?_, hl⟩
  apply List.ext_getElem
  · rw [ats_length, hl]
  · intro i h1 h2
    have e := ats_get (Jr.ofS P s) (k := i) (by rw [hl]; exact h2)
    have e2 : told (Jr.ofS P s).T.ps (i : Int) = _ := ht.ps i
    rw [e2, List.getD, List.getElem?_eq_getElem h1, Option.getD_some] at e
    rw [e]
    have ho := h.ok i h2
    have hg : s.at_.getD i 0 = s.at_[i] := by rw [List.getD, List.getElem?_eq_getElem h2]; rfl
    unfold Js.okAt at ho
    rw [hg] at ho
    rw [hg]
    by_cases h0 : 0 ≤ s.at_[i]
    · rw [if_pos ⟨h2, h0⟩]; rfl
    · rw [if_neg (fun hh => h0 hh.2)]
      rcases ho with ho | ho
      · rw [ho]; rfl
      · omega
theorem rdI_at {w : World} {v : Value} {l : List Int} (h : RdI w v l) (h1 : 1 ≤ l.length) : ∃ g o c, v = .slice (some ⟨g, o, none⟩) l.length c ∧ (l.length : Int) ≤ (c : Int) ∧ (c : Int) ≤ 9223372036854775807 ∧ ∀ k, k < l.length → w.cell? ⟨g, o + k, none⟩ = some (.int .i64 (l.getD k 0)) := by
  rcases h with ⟨_, _, _, h0⟩ | ⟨g, o, c, e, h2, h3, h4⟩
  · rw [h0] at h1; simp at h1
  · unfold maxLen at h3; exact ⟨g, o, c, e, by omega, by omega, h4⟩
def SameRel (n bx : Nat) (o : Obj) (w : World) (u : Value) (wr : World) : Prop := ∃ k : Nat, k ≤ n ∧ u = .int .i64 (k : Int) ∧ Sat wr (pt bx o * whole w) ∧ Side w wr
set_option maxRecDepth 100000 in
set_option maxHeartbeats 4000000 in
theorem same_any (w : World) (s : Js) (v v2 : Value) (b : Nat) (hv : RdI w v s.at_) (hv2 : RdI w v2 s.at_) (h1 : 1 ≤ s.at_.length) (c1 : w.cell? ⟨b, 1, none⟩ = some (.int .u64 s.sq)) (c2 : w.cell? ⟨b, 2, none⟩ = some (.int .i64 s.hd)) (c3 : w.cell? ⟨b, 3, none⟩ = some (.int .i64 s.us)) (c4 : w.cell? ⟨b, 4, none⟩ = some v2) :
    Calls Try.prog 16 #[s.v v, .pointer (some ⟨b, 0, none⟩)] w (RightQ true w) := by
  obtain ⟨g, o, c, rfl, k1, k2, hc⟩ := rdI_at hv h1
  obtain ⟨g2, o2, c', rfl, k3, k4, hc2⟩ := rdI_at hv2 h1
  obtain ⟨n, hn⟩ : ∃ n, n = s.at_.length := ⟨_, rfl⟩
  rw [← hn] at k1 k3 hc hc2 c4 h1 ⊢
  unfold Js.v
  have H1 := (Sat.whole w).alloc (.cells #[.int .u32 s.ep, .int .u64 s.st, .int .u64 s.sq, .int .i64 s.hd, .int .i64 s.us, .slice (some ⟨g, o, none⟩) n c] 26 (0, 0))
  have D1 := (Side.refl w).alloc (.cells #[.int .u32 s.ep, .int .u64 s.st, .int .u64 s.sq, .int .i64 s.hd, .int .i64 s.us, .slice (some ⟨g, o, none⟩) n c] 26 (0, 0))
  have Hn := SL.hid hn
  clear hn hv hv2
  go_enter Try.func16, Try.ntmps16
  go_wp2_with fail
  generalize w.alloc (.cells #[.int .u32 s.ep, .int .u64 s.st, .int .u64 s.sq, .int .i64 s.hd, .int .i64 s.us, .slice (some ⟨g, o, none⟩) n c] 26 (0, 0)) = w1 at H1 D1 ⊢
  generalize w.heap.size = bx at H1 ⊢
  obtain ⟨O, hO⟩ : ∃ ob, ob = Obj.cells #[.int .u32 s.ep, .int .u64 s.st, .int .u64 s.sq, .int .i64 s.hd, .int .i64 s.us, .slice (some ⟨g, o, none⟩) n c] 26 (0, 0) := ⟨_, rfl⟩
  rw [← hO] at H1
  have hall : ∀ w', Sat w' (pt bx O * whole w) → (w'.cell? ⟨bx, 2, none⟩ = some (.int .u64 s.sq) ∧ w'.cell? ⟨bx, 3, none⟩ = some (.int .i64 s.hd) ∧ w'.cell? ⟨bx, 4, none⟩ = some (.int .i64 s.us) ∧ w'.cell? ⟨bx, 5, none⟩ = some (.slice (some ⟨g, o, none⟩) n c)) ∧
      (w'.cell? ⟨b, 1, none⟩ = some (.int .u64 s.sq) ∧ w'.cell? ⟨b, 2, none⟩ = some (.int .i64 s.hd) ∧ w'.cell? ⟨b, 3, none⟩ = some (.int .i64 s.us) ∧ w'.cell? ⟨b, 4, none⟩ = some (.slice (some ⟨g2, o2, none⟩) n c')) ∧
      ∀ k, k < n → w'.cell? ⟨g, o + k, none⟩ = some (.int .i64 (s.at_.getD k 0)) ∧ w'.cell? ⟨g2, o2 + k, none⟩ = some (.int .i64 (s.at_.getD k 0)) := fun w' h => by
    have h' := h
    rw [hO] at h'
    exact ⟨⟨h'.cell 2, h'.cell 3, h'.cell 4, h'.cell 5⟩, ⟨h.cellOld c1, h.cellOld c2, h.cellOld c3, h.cellOld c4⟩, fun k hk => ⟨h.cellOld (hc k hk), h.cellOld (hc2 k hk)⟩⟩
  obtain ⟨⟨x2, x3, x4, x5⟩, ⟨y1, y2, y3, y4⟩, _⟩ := hall w1 H1
  have Hall := SL.hid hall; have HH1 := SL.hid H1; have HD1 := SL.hid D1
  clear hall H1 D1 c1 c2 c3 c4 hc hc2 hO
  go_wp2_with fail
  go_quiet (fail)
  have H2 := sat_drewN HH1.out nq
  have D2 := side_drewN HD1.out nq
  generalize w1.drewN nq = w2 at H2 D2 ⊢
  clear x2 x3 x4 x5 y1 y2 y3 y4 HH1 HD1
  go_wp2_with fail
  go_loopw [5] (fun u wr => SameRel n bx O w u wr) (fun u _ => n - (intOf u).toNat)
  case atStart => exact ⟨0, Nat.zero_le _, rfl, H2, D2⟩
  case round =>
    clear H2 D2
    obtain ⟨k, hk, rfl, hsat, hside⟩ := hrel
    obtain ⟨⟨x2, x3, x4, x5⟩, ⟨y1, y2, y3, y4⟩, hkk⟩ := Hall.out wr hsat
    have Hs := SL.hid hsat; have Hd := SL.hid hside
    by_cases hlt : k < n
    · have hlt' : (k : Int) < (n : Int) := by omega
      obtain ⟨z1, z2⟩ := hkk k hlt
      generalize s.at_.getD k 0 = q at z1 z2
      clear hkk hsat hside x2 x3 x4 y1 y2 y3
      go_wp2_with fail
      go_quiet (fail)
      go_wp2
      go_roundw
      case rel => exact ⟨k + 1, by omega, by go_num, sat_drewN Hs.out nq, side_drewN Hd.out nq⟩
      case measure => simp [intOf]; omega
    · obtain rfl : k = n := by omega
      clear hkk hsat hside x2 x3 x4 y1 y2 y3
      go_wp2
      go_ret
      exact ⟨rfl, Hs.out.right, Hd.out⟩
end Go.Proofs.Ytlfooilcngjeiaa

/- JournalRights: the walk. -/
import Derived.Test.YtlfooilcngjeiaaHe
import Derived.Test.YtlfooilcngjeiaaGi
import Derived.Deep.DeepCutAuto
import Derived.BigQuiet
import Derived.Deep.QuietTactic
import Derived.Deep.CutBlock
import Derived.Deep.CutRange
namespace Go.Proofs.Ytlfooilcngjeiaa
set_option linter.unusedVariables false
set_option linter.unusedSimpArgs false
open Go.RowKit Go.SL
set_option maxRecDepth 100000 in
set_option maxHeartbeats 8000000 in
theorem rights_any (n0 ep st sq hd us : Int) (a : Option Addr) (len cap : Nat) (zs : List Int) (w : World) (hz : IsInts w a len cap zs) (wn : -9223372036854775808 ≤ n0) (wq : 0 ≤ sq) (wu0 : -9223372036854775808 ≤ us) (wu1 : us ≤ 9223372036854775807) :
    Calls Try.prog 3 #[.int .i64 n0, .agg #[.int .u32 ep, .int .u64 st, .int .u64 sq, .int .i64 hd, .int .i64 us, .slice a len cap]] w (ShownQ w) := by
  have hlen := hz.len_le
  obtain ⟨P, hP⟩ : ∃ P, P = if n0 < 300 then n0 else 300 := ⟨_, rfl⟩
  obtain ⟨m, hm⟩ : ∃ m, m = if len < 50 then len else 50 := ⟨_, rfl⟩
  have h1 := (Sat.whole w).alloc (.cells #[.int .u32 ep, .int .u64 st, .int .u64 sq, .int .i64 hd, .int .i64 us, .slice a len cap] 26 (0, 0))
  have d1 := (Side.refl w).alloc (.cells #[.int .u32 ep, .int .u64 st, .int .u64 sq, .int .i64 hd, .int .i64 us, .slice a len cap] 26 (0, 0))
  have HP := SL.hid hP; have Hm := SL.hid hm; have Hz := SL.hid hz
  clear hP hm hz
  go_enter Try.func3, Try.ntmps3
  go_wp2_with fail
  generalize w.alloc (.cells #[.int .u32 ep, .int .u64 st, .int .u64 sq, .int .i64 hd, .int .i64 us, .slice a len cap] 26 (0, 0)) = w1 at h1 d1 ⊢
  generalize w.heap.size = sb at h1 ⊢
  refine (shown_any w1).mono ?_
  rintro e w2 ⟨rfl, h2, d2⟩
  have H2 := (h2.addEmp.to (star_comm _ _)).under h1
  rw [emp_star] at H2
  have D2 := d1.trans d2
  have c5 : w2.cell? ⟨sb, 5, none⟩ = some (.slice a len cap) := H2.cell 5
  have f5 := H2.frozen 5
  clear h2 h1 d1 d2
  have hmc : m ≤ len ∧ m ≤ 50 ∧ (m : Int) ≤ (cap : Int) := by
    have e1 := Hm.out; have e2 := Hz.out.le; split at e1 <;> omega
  have hlc : (len : Int) ≤ (cap : Int) ∧ (cap : Int) ≤ 9223372036854775807 := by have := Hz.out.le; omega
  obtain ⟨hm1, hm2, hm3⟩ := hmc
  obtain ⟨hlc1, hlc2⟩ := hlc
  go_upto_region 2 with (fail)
  go_cut [0] from 13 to 14 (fun u0 wx => u0 = .int .i64 P ∧ wx = w2)
  case first =>
    by_cases hn : 300 < n0
    · have e : P = 300 := by have := HP.out; split at this <;> omega
      subst e
      go_wp2_with fail
      go_meet
      exact ⟨rfl, rfl⟩
    · have e : n0 = P := by have := HP.out; split at this <;> omega
      have hn' : ¬ 300 < n0 := hn
      go_wp2_with fail
      go_meet
      exact ⟨rfl, rfl⟩
  case rest =>
    obtain ⟨rfl, rfl⟩ := hcut
    go_upto_region 3 with (fail)
    have h3 := H2.setCell 5 (.slice a m cap)
    have d3 := D2.setCell ⟨sb, 5, none⟩ (.slice a m cap)
    simp only [List.setIfInBounds_toArray, List.set_cons_succ, List.set_cons_zero] at h3
    have H3 := SL.hid h3; have D3 := SL.hid d3
    clear h3 d3 H2 D2
    go_cut [] from 15 to 22 (fun wx => Sat wx (pt sb (.cells #[.int .u32 ep, .int .u64 st, .int .u64 sq, .int .i64 hd, .int .i64 us, .slice a m cap] 26 (0, 0)) * whole w) ∧ Side w wx)
    case first =>
      by_cases hn : 50 < len
      · have e : m = 50 := by have := Hm.out; split at this <;> omega
        subst e
        have hn' : (50 : Int) < (len : Int) := by omega
        go_wp2_with fail
        go_meet
        exact ⟨H3.out, D3.out⟩
      · have e : m = len := by have := Hm.out; split at this <;> omega
        subst e
        have hn' : ¬ (50 : Int) < (m : Int) := by omega
        go_wp2_with fail
        go_meet
        exact ⟨H3.out, D3.out⟩
    case rest =>
      clear H3 D3 c5 f5
      obtain ⟨hsat, hside⟩ := hcut
      have hz := Hz.out.le
      obtain ⟨l, hl⟩ : ∃ l, l = zs.take m := ⟨_, rfl⟩
      have hll : l.length = m := by rw [hl, List.length_take]; omega
      obtain ⟨s, hs⟩ : ∃ s : Js, s = ⟨ep, st, sq, hd, us, l⟩ := ⟨_, rfl⟩
      have hRd : ∀ Q w', Sat w' (Q * whole w) → RdI w' (.slice a m cap) l := fun Q w' h => by
        by_cases h0 : m = 0
        · have : l = [] := List.eq_nil_of_length_eq_zero (by omega)
          rw [h0]; exact .inl ⟨_, _, rfl, this⟩
        · have := (Hz.out.keep fun _ _ => h.cellOld).rdI (m := m) hm1 (by omega)
          rw [← hl, hll] at this
          exact this
      have hP300 : P ≤ 300 := by have := HP.out; split at this <;> omega
      have hPm : -9223372036854775808 ≤ P := by have := HP.out; split at this <;> omega
      have hdec : ∃ B : Bool, (B = true ↔ (1 ≤ P ∧ s.Right P)) := by
        by_cases h : 1 ≤ P ∧ s.Right P
        · exact ⟨true, fun _ => h, fun _ => rfl⟩
        · exact ⟨false, fun h' => (by cases h'), fun h' => absurd h' h⟩
      obtain ⟨B, hB⟩ := hdec
      have hrr : ∀ Q w', Sat w' (Q * whole w) → Calls Try.prog 11 #[.int .i64 P, .int .u32 ep, .int .u64 st, .agg #[.int .i64 0, .int .u64 sq, .int .i64 hd, .int .i64 us, .slice a m cap, .int .i64 0]] w' (RightQ B w') := fun Q w' h => by
        have := refRight_any P s (.slice a m cap) w' hP300 hPm (by rw [hs]; exact wq) (by rw [hs]; dsimp only; omega) (by rw [hs]; exact hRd Q w' h) B hB
        rw [hs] at this
        exact this
      have hjr : ∀ Q w', Sat w' (Q * whole w) → Calls Try.prog 12 #[.int .i64 P, .agg #[.int .u32 ep, .int .u64 st, .int .u64 sq, .int .i64 hd, .int .i64 us, .slice a m cap]] w' (RightQ B w') := fun Q w' h => by
        have := right_any' P s (.slice a m cap) w' (by omega) hPm (by rw [hs]; exact wq) (by rw [hs]; dsimp only; omega) (by rw [hs]; exact hRd Q w' h) B (by
          rw [hB]
          exact ⟨fun h => h.2, fun h => ⟨by have := h.hd0; have := h.hd1; omega, h⟩⟩)
        rw [hs] at this
        exact this
      obtain ⟨OS, hOS⟩ : ∃ o, o = Obj.cells #[.int .u32 ep, .int .u64 st, .int .u64 sq, .int .i64 hd, .int .i64 us, .slice a m cap] 26 (0, 0) := ⟨_, rfl⟩
      have hcl : ∀ Q w', Sat w' (pt sb OS * Q) → w'.cell? ⟨sb, 0, none⟩ = some (.int .u32 ep) ∧ w'.cell? ⟨sb, 1, none⟩ = some (.int .u64 st) ∧ w'.cell? ⟨sb, 2, none⟩ = some (.int .u64 sq) ∧ w'.cell? ⟨sb, 3, none⟩ = some (.int .i64 hd) ∧ w'.cell? ⟨sb, 4, none⟩ = some (.int .i64 us) ∧ w'.cell? ⟨sb, 5, none⟩ = some (.slice a m cap) := fun Q w' h => by
        rw [hOS] at h
        exact ⟨h.cell 0, h.cell 1, h.cell 2, h.cell 3, h.cell 4, h.cell 5⟩
      rw [← hOS] at hsat
      have HRd := SL.hid hRd; have Hrr := SL.hid hrr; have Hjr := SL.hid hjr; have HB := SL.hid hB; have Hs := SL.hid hs; have Hll := SL.hid hll; have Hcl := SL.hid hcl; have HOS := SL.hid hOS
      have Hsat := SL.hid hsat; have Hside := SL.hid hside
      obtain ⟨z0, z1, z2, z3, z4, z5⟩ := hcl _ _ hsat
      have hr1 := hrr _ _ hsat
      clear hRd hrr hjr hB hs hll hcl hOS hl hz hsat hside
      go_wp2_with fail
      (with_reducible refine hr1.mono ?_)
      rintro e w3 ⟨rfl, h3, d3⟩
      have H3 := h3.keepW Hsat.out
      have D3 := Hside.out.trans d3
      obtain ⟨y0, y1, y2, y3, y4, y5⟩ := Hcl.out _ _ H3
      have hr2 := Hjr.out _ _ H3
      have H3h := SL.hid H3; have D3h := SL.hid D3
      clear hr1 h3 d3 H3 D3 z0 z1 z2 z3 z4 z5 Hsat Hside
      go_wp2_with fail
      (with_reducible refine hr2.mono ?_)
      rintro e w4 ⟨rfl, h4, d4⟩
      have H4 := h4.keepW H3h.out
      have D4 := D3h.out.trans d4
      have hBB : (B != B) = false := by cases B <;> rfl
      clear hr2 h4 d4 y0 y1 y2 y3 y4 y5 H3h D3h
      go_wp2_with fail
      refine (new_any 301 (by decide) (by decide) w4).mono ?_
      rintro e w5 ⟨d, rfl, h5, d5⟩
      have H5 : Sat w5 (pt sb OS * (devA NoB d (Dev.fresh 301) * whole w)) := ((h5 NoB).under H4).to (by ac_rfl)
      have D5 := D4.trans d5
      clear h5 d5 H4 D4
      have h5w : Sat w5 ((pt sb OS * devA NoB d (Dev.fresh 301)) * whole w) := H5.to (by ac_rfl)
      have hRd5 := HRd.out _ _ h5w
      obtain ⟨z0, z1, z2, z3, z4, z5⟩ := Hcl.out _ _ H5
      cases hBv : B with
      | false =>
        have hno : ¬ (1 ≤ P ∧ s.Right P) := fun h => by have := HB.out.2 h; rw [hBv] at this; cases this
        have hnew : Calls Try.prog 14 #[ptV d, .int .i64 P, .agg #[.int .u32 ep, .int .u64 st, .int .u64 sq, .int .i64 hd, .int .i64 us, .slice a m cap]] w5 (JNewNo w5) := by
          have := jnew_no w5 NoB d (Dev.fresh 301) _ H5.front2 P s (.slice a m cap) (by rw [Hs.out]; exact hRd5) hPm (by rw [devLen]; omega) (by rw [devLen]; decide) (by rw [Hs.out]; dsimp only; have := Hll.out; omega) (by rw [Hs.out]; exact wq) hno
          rw [Hs.out] at this
          exact this
        have HH5 := SL.hid H5; have HD5 := SL.hid D5
        subst hBv
        clear H5 D5 h5w hRd5 hno
        go_wp2_with fail
        (with_reducible refine hnew.mono ?_)
        rintro e w6 ⟨rfl, h6, d6⟩
        have H6 := SL.hid (h6.keepW HH5.out).right.right
        have D6 := SL.hid (HD5.out.trans d6)
        clear hnew h6 d6
        go_wp2
        go_ret
        exact ⟨rfl, H6.out, D6.out⟩
      | true =>
        obtain ⟨hP1, hR⟩ := HB.out.1 hBv
        have hs := Hs.out
        obtain ⟨p, hp⟩ := Int.eq_ofNat_of_zero_le (show 0 ≤ P by omega)
        subst hp
        have hOk := Jr.ofS_ok hR (by omega) (by omega : p ≤ 20000)
        have hat := ofS_ats hR
        have hn1 := hR.n0
        have hu0 := hR.us0
        have hu1 := hR.us1
        rw [hs] at hat hn1 hu0 hu1
        dsimp only at hat hn1 hu0 hu1
        have hnew : Calls Try.prog 14 #[ptV d, .int .i64 (p : Int), .agg #[.int .u32 ep, .int .u64 st, .int .u64 sq, .int .i64 hd, .int .i64 us, .slice a m cap]] w5 (JNewQ d (Jr.ofS p s) w5) := by
          have := jnew_any w5 NoB d (Dev.fresh 301) _ H5.front2 p s (.slice a m cap) (by rw [hs]; exact hRd5) (by omega) (by omega) (by rw [devLen]; omega) (by rw [devLen]; decide) (by rw [hs]; exact wq) hR
          rw [hs] at this ⊢
          exact this
        have HH5 := SL.hid H5; have HD5 := SL.hid D5
        subst hBv
        have HOk := SL.hid hOk; have Hat := SL.hid hat; have HR := SL.hid hR
        clear H5 D5 h5w hRd5 hs hOk hat hR
        go_wp2_with fail
        (with_reducible refine hnew.mono ?_)
        rintro e w6 ⟨j, rfl, h6, d6⟩
        have H6 : Sat w6 (jrA j d (Jr.ofS p s) * (pt sb OS * whole w)) := ((h6.under HH5.out).to (by ac_rfl : _ = devA NoB d (Dev.fresh 301) * (jrA j d (Jr.ofS p s) * (pt sb OS * whole w)))).right
        have D6 := HD5.out.trans d6
        have hst := state_any w6 j d (Jr.ofS p s) _ H6 HOk.out
        have e11 : ∀ ag, (Jr.js (Jr.ofS p s)).v (.slice (some ⟨ag, 0, none⟩) (Jr.ofS p s).T.ps.length (Jr.ofS p s).T.ps.length) = .agg #[.int .u32 ep, .int .u64 st, .int .u64 sq, .int .i64 hd, .int .i64 us, .slice (some ⟨ag, 0, none⟩) m m] := fun ag => by
          rw [Hs.out, Hat.out.2, Hll.out]; rfl
        have HE11 := SL.hid e11
        clear hnew h6 d6 H6 e11 z0 z1 z2 z3 z4 z5
        go_wp2_with fail
        (with_reducible refine hst.mono ?_)
        rintro e w7 ⟨ag, rfl, h7, d7⟩
        rw [HE11.out]
        have H7 := h7.alloc (.cells #[.int .u32 ep, .int .u64 st, .int .u64 sq, .int .i64 hd, .int .i64 us, .slice (some ⟨ag, 0, none⟩) m m] 26 (0, 0))
        have D7 := (D6.trans d7).alloc (.cells #[.int .u32 ep, .int .u64 st, .int .u64 sq, .int .i64 hd, .int .i64 us, .slice (some ⟨ag, 0, none⟩) m m] 26 (0, 0))
        clear hst h7 d7 D6
        go_upto_region 16 with (fail)
        generalize w7.alloc (.cells #[.int .u32 ep, .int .u64 st, .int .u64 sq, .int .i64 hd, .int .i64 us, .slice (some ⟨ag, 0, none⟩) m m] 26 (0, 0)) = w8 at H7 D7 ⊢
        generalize w7.heap.size = sb2 at H7 ⊢
        obtain ⟨OT, hOT⟩ : ∃ o, o = Obj.cells #[.int .u32 ep, .int .u64 st, .int .u64 sq, .int .i64 hd, .int .i64 us, .slice (some ⟨ag, 0, none⟩) m m] 26 (0, 0) := ⟨_, rfl⟩
        rw [← hOT, Hs.out] at H7
        rw [(Hat.out.1)] at H7
        obtain ⟨BIG, hBIG⟩ : ∃ X, X = pt sb2 OT * (pt ag (.cells (ints l) 3 (0, 0)) * (jrA j d (Jr.ofS p ⟨ep, st, sq, hd, us, l⟩) * (pt sb OS * whole w))) := ⟨_, rfl⟩
        have H8 : Sat w8 BIG := by rw [hBIG]; exact H7
        have hc2 : ∀ w', Sat w' BIG → w'.cell? ⟨sb2, 0, none⟩ = some (.int .u32 ep) ∧ w'.cell? ⟨sb2, 1, none⟩ = some (.int .u64 st) ∧ w'.cell? ⟨sb2, 2, none⟩ = some (.int .u64 sq) ∧ w'.cell? ⟨sb2, 3, none⟩ = some (.int .i64 hd) ∧ w'.cell? ⟨sb2, 4, none⟩ = some (.int .i64 us) ∧ w'.cell? ⟨sb2, 5, none⟩ = some (.slice (some ⟨ag, 0, none⟩) m m) := fun w' h => by
          rw [hBIG, hOT] at h
          exact ⟨h.cell 0, h.cell 1, h.cell 2, h.cell 3, h.cell 4, h.cell 5⟩
        have hc1 : ∀ w', Sat w' BIG → w'.cell? ⟨sb, 0, none⟩ = some (.int .u32 ep) ∧ w'.cell? ⟨sb, 1, none⟩ = some (.int .u64 st) ∧ w'.cell? ⟨sb, 2, none⟩ = some (.int .u64 sq) ∧ w'.cell? ⟨sb, 3, none⟩ = some (.int .i64 hd) ∧ w'.cell? ⟨sb, 4, none⟩ = some (.int .i64 us) ∧ w'.cell? ⟨sb, 5, none⟩ = some (.slice a m cap) := fun w' h => Hcl.out _ w' (by rw [hBIG] at h; exact h.front4)
        have x0 := fun w' h => (hc2 w' h).1
        have x1 := fun w' h => (hc2 w' h).2.1
        have x2 := fun w' h => (hc2 w' h).2.2.1
        have x3 := fun w' h => (hc2 w' h).2.2.2.1
        have x4 := fun w' h => (hc2 w' h).2.2.2.2.1
        have x5 := fun w' h => (hc2 w' h).2.2.2.2.2
        have y0 := fun w' h => (hc1 w' h).1
        have y1 := fun w' h => (hc1 w' h).2.1
        have y2 := fun w' h => (hc1 w' h).2.2.1
        have y3 := fun w' h => (hc1 w' h).2.2.2.1
        have y4 := fun w' h => (hc1 w' h).2.2.2.2.1
        have y5 := fun w' h => (hc1 w' h).2.2.2.2.2
        have HAl : Sat (w8.alloc (.cells #[.int .i64 0, .int .u64 sq, .int .i64 hd, .int .i64 us, .slice a m cap, .int .i64 0] 30 (0, 0))).drew BIG := (H8.alloc _).right
        have HAl2 := HAl
        have hA := (H8.alloc (.cells #[.int .i64 0, .int .u64 sq, .int .i64 hd, .int .i64 us, .slice a m cap, .int .i64 0] 30 (0, 0))).drew
        have hsame : Calls Try.prog 16 #[.agg #[.int .u32 ep, .int .u64 st, .int .u64 sq, .int .i64 hd, .int .i64 us, .slice (some ⟨ag, 0, none⟩) m m], .pointer (some ⟨w8.heap.size, 0, none⟩)] (w8.alloc (.cells #[.int .i64 0, .int .u64 sq, .int .i64 hd, .int .i64 us, .slice a m cap, .int .i64 0] 30 (0, 0))).drew (RightQ true (w8.alloc (.cells #[.int .i64 0, .int .u64 sq, .int .i64 hd, .int .i64 us, .slice a m cap, .int .i64 0] 30 (0, 0))).drew) := by
          have hB2 := HAl
          rw [hBIG] at hB2
          have hll := Hll.out
          exact same_any _ ⟨ep, st, sq, hd, us, l⟩ (.slice (some ⟨ag, 0, none⟩) m m) (.slice a m cap) w8.heap.size (.inr ⟨ag, 0, m, by rw [← hll], by dsimp only; omega, by unfold maxLen; omega, fun k hk => by rw [Nat.zero_add]; exact (hB2.front2.cell k).trans (get_ints_lt hk)⟩) (HRd.out _ _ (hB2.to (by ac_rfl : _ = (pt sb2 OT * (pt ag (.cells (ints l) 3 (0, 0)) * (jrA j d (Jr.ofS p ⟨ep, st, sq, hd, us, l⟩) * pt sb OS))) * whole w))) hn1 (hA.cell 1) (hA.cell 2) (hA.cell 3) (hA.cell 4)
        have Hroom : Hid (∀ w', Sat w' BIG → Calls Try.prog 17 #[ptV j] w' (Tells (.int .i64 ((p : Int) - us)) w')) := fun w' h => by
          rw [hBIG] at h
          have hok := HOk.out
          rw [Hs.out] at hok
          have := room_any w' j d _ _ h.front3 hok
          rw [show ((Jr.ofS p ⟨ep, st, sq, hd, us, l⟩).P : Int) - (Jr.ofS p ⟨ep, st, sq, hd, us, l⟩).us - (Jr.ofS p ⟨ep, st, sq, hd, us, l⟩).fr = (p : Int) - us from (by show (p : Int) - us - 0 = _; omega)] at this
          exact this
        have hEnd : ∀ w', Sat w' BIG → Sat w' (whole w) := fun w' h => by
          rw [hBIG] at h; exact h.right.right.right.right
        have HEnd := SL.hid hEnd
        have HD7 := SL.hid D7
        clear hc1 hc2 H7 D7 hA hOT hBIG hEnd
        have hp3 : (p : Int) ≤ 300 := hP300
        have hwr : IntKind.i64.wrap ((p : Int) - us) = (p : Int) - us := by rw [IntKind.wrap_i64]; omega
        refine wp_region_held_drew (S := (fun w' => Sat w' BIG)) (by kernel_rfl) ?_ (fun hHeld => ?_)
        · first | exact H8.drew | exact HAl | exact HBS | exact HBR | assumption
        refine wpAnyH_take (i := 0) (v := ?_) rfl (by kernel_rfl) (by kernel_rfl) (by kernel_rfl) (fun _ _ _ h => h) (Or.inl ⟨by kernel_rfl, ?_⟩) (by assumption) ?_
        rotate_left
        · intro w hSw; (try dsimp only at hSw); go_simp; try with_reducible rfl
        try simp only [List.getElem_toArray, List.getElem_cons_succ, List.getElem_cons_zero, Act.put, List.setIfInBounds_toArray, List.set_cons_zero, List.set_cons_succ]
        refine wpAnyH_take (i := 1) (v := ?_) rfl (by kernel_rfl) (by kernel_rfl) (by kernel_rfl) (fun _ _ _ h => h) (Or.inl ⟨by kernel_rfl, ?_⟩) (by assumption) ?_
        rotate_left
        · intro w hSw; (try dsimp only at hSw); go_simp; try with_reducible rfl
        try simp only [List.getElem_toArray, List.getElem_cons_succ, List.getElem_cons_zero, Act.put, List.setIfInBounds_toArray, List.set_cons_zero, List.set_cons_succ]
        refine wpAnyH_take (i := 2) (v := ?_) rfl (by kernel_rfl) (by kernel_rfl) (by kernel_rfl) (fun _ _ _ h => h) (Or.inl ⟨by kernel_rfl, ?_⟩) (by assumption) ?_
        rotate_left
        · intro w hSw; (try dsimp only at hSw); go_simp; try with_reducible rfl
        try simp only [List.getElem_toArray, List.getElem_cons_succ, List.getElem_cons_zero, Act.put, List.setIfInBounds_toArray, List.set_cons_zero, List.set_cons_succ]
        refine wpAnyH_take (i := 3) (v := ?_) rfl (by kernel_rfl) (by kernel_rfl) (by kernel_rfl) (fun _ _ _ h => h) (Or.inl ⟨by kernel_rfl, ?_⟩) (by assumption) ?_
        rotate_left
        · intro w hSw; (try dsimp only at hSw); go_simp; try with_reducible rfl
        try simp only [List.getElem_toArray, List.getElem_cons_succ, List.getElem_cons_zero, Act.put, List.setIfInBounds_toArray, List.set_cons_zero, List.set_cons_succ]
        refine wpAnyH_take (i := 4) (v := ?_) rfl (by kernel_rfl) (by kernel_rfl) (by kernel_rfl) (fun _ _ _ h => h) (Or.inl ⟨by kernel_rfl, ?_⟩) (by assumption) ?_
        rotate_left
        · intro w hSw; (try dsimp only at hSw); go_simp; try with_reducible rfl
        try simp only [List.getElem_toArray, List.getElem_cons_succ, List.getElem_cons_zero, Act.put, List.setIfInBounds_toArray, List.set_cons_zero, List.set_cons_succ]
        refine wpAnyH_take (i := 5) (v := ?_) rfl (by kernel_rfl) (by kernel_rfl) (by kernel_rfl) (fun _ _ _ h => h) (Or.inl ⟨by kernel_rfl, ?_⟩) (by assumption) ?_
        rotate_left
        · intro w hSw; (try dsimp only at hSw); go_simp; try with_reducible rfl
        try simp only [List.getElem_toArray, List.getElem_cons_succ, List.getElem_cons_zero, Act.put, List.setIfInBounds_toArray, List.set_cons_zero, List.set_cons_succ]
        refine wpAnyH_take (i := 6) (v := ?_) rfl (by kernel_rfl) (by kernel_rfl) (by kernel_rfl) (fun _ _ _ h => h) (Or.inl ⟨by kernel_rfl, ?_⟩) (by assumption) ?_
        rotate_left
        · intro w hSw; (try dsimp only at hSw); go_simp; try with_reducible rfl
        try simp only [List.getElem_toArray, List.getElem_cons_succ, List.getElem_cons_zero, Act.put, List.setIfInBounds_toArray, List.set_cons_zero, List.set_cons_succ]
        refine wpAnyH_take (i := 7) (v := ?_) rfl (by kernel_rfl) (by kernel_rfl) (by kernel_rfl) (fun _ _ _ h => h) (Or.inl ⟨by kernel_rfl, ?_⟩) (by assumption) ?_
        rotate_left
        · intro w hSw; (try dsimp only at hSw); go_simp; try with_reducible rfl
        try simp only [List.getElem_toArray, List.getElem_cons_succ, List.getElem_cons_zero, Act.put, List.setIfInBounds_toArray, List.set_cons_zero, List.set_cons_succ]
        refine wpAnyH_take (i := 8) (v := ?_) rfl (by kernel_rfl) (by kernel_rfl) (by kernel_rfl) (fun _ _ _ h => h) (Or.inl ⟨by kernel_rfl, ?_⟩) (by assumption) ?_
        rotate_left
        · intro w hSw; (try dsimp only at hSw); go_simp; try with_reducible rfl
        try simp only [List.getElem_toArray, List.getElem_cons_succ, List.getElem_cons_zero, Act.put, List.setIfInBounds_toArray, List.set_cons_zero, List.set_cons_succ]
        refine wpAnyH_take (i := 9) (v := ?_) rfl (by kernel_rfl) (by kernel_rfl) (by kernel_rfl) (fun _ _ _ h => h) (Or.inl ⟨by kernel_rfl, ?_⟩) (by assumption) ?_
        rotate_left
        · intro w hSw; (try dsimp only at hSw); go_simp; try with_reducible rfl
        try simp only [List.getElem_toArray, List.getElem_cons_succ, List.getElem_cons_zero, Act.put, List.setIfInBounds_toArray, List.set_cons_zero, List.set_cons_succ]
        refine wpAnyH_take (i := 10) (v := ?_) rfl (by kernel_rfl) (by kernel_rfl) (by kernel_rfl) (fun _ _ _ h => h) (Or.inl ⟨by kernel_rfl, ?_⟩) (by assumption) ?_
        rotate_left
        · intro w hSw; (try dsimp only at hSw); go_simp; try with_reducible rfl
        try simp only [List.getElem_toArray, List.getElem_cons_succ, List.getElem_cons_zero, Act.put, List.setIfInBounds_toArray, List.set_cons_zero, List.set_cons_succ]
        refine wpAnyH_take (i := 11) (v := ?_) rfl (by kernel_rfl) (by kernel_rfl) (by kernel_rfl) (fun _ _ _ h => h) (Or.inl ⟨by kernel_rfl, ?_⟩) (by assumption) ?_
        rotate_left
        · intro w hSw; (try dsimp only at hSw); go_simp; try with_reducible rfl
        try simp only [List.getElem_toArray, List.getElem_cons_succ, List.getElem_cons_zero, Act.put, List.setIfInBounds_toArray, List.set_cons_zero, List.set_cons_succ]
        refine wpAnyH_ready (rs := [12]) (by kernel_rfl) (by simp) ?_
        refine AllReadyH.cons rfl (fun K hK => ?_) AllReadyH.nil
        go_simp
        refine hK.out _ _ ?_ (fun hHeld => ?_)
        · first | exact H8.drew | exact HAl | exact HBS | exact HBR | assumption
        clear hK K
        refine wpAnyH_ready (rs := [13]) (by kernel_rfl) (by simp) ?_
        refine AllReadyH.cons rfl (fun K hK => ?_) AllReadyH.nil
        go_simp
        go_wp2_with (first | (go_at_call 16; (with_reducible refine hsame.mono ?_); rintro e wS ⟨rfl, hS, dS⟩; have HBS := hS.keepW HAl2))
        refine hK.out _ _ ?_ (fun hHeld => ?_)
        · first | exact H8.drew | exact HAl | exact HBS | exact HBR | assumption
        clear hK K
        refine wpAnyH_take (i := 14) (v := ?_) rfl (by kernel_rfl) (by kernel_rfl) (by kernel_rfl) (fun _ _ _ h => h) (Or.inl ⟨by kernel_rfl, ?_⟩) (by assumption) ?_
        rotate_left
        · intro w hSw; (try dsimp only at hSw); go_simp; try with_reducible rfl
        try simp only [List.getElem_toArray, List.getElem_cons_succ, List.getElem_cons_zero, Act.put, List.setIfInBounds_toArray, List.set_cons_zero, List.set_cons_succ]
        refine wpAnyH_take (i := 15) (v := ?_) rfl (by kernel_rfl) (by kernel_rfl) (by kernel_rfl) (fun _ _ _ h => h) (Or.inl ⟨by kernel_rfl, ?_⟩) (by assumption) ?_
        rotate_left
        · intro w hSw; (try dsimp only at hSw); go_simp; try with_reducible rfl
        try simp only [List.getElem_toArray, List.getElem_cons_succ, List.getElem_cons_zero, Act.put, List.setIfInBounds_toArray, List.set_cons_zero, List.set_cons_succ]
        refine wpAnyH_take (i := 16) (v := ?_) rfl (by kernel_rfl) (by kernel_rfl) (by kernel_rfl) (fun _ _ _ h => h) (Or.inl ⟨by kernel_rfl, ?_⟩) (by assumption) ?_
        rotate_left
        · intro w hSw; (try dsimp only at hSw); go_simp; try with_reducible rfl
        try simp only [List.getElem_toArray, List.getElem_cons_succ, List.getElem_cons_zero, Act.put, List.setIfInBounds_toArray, List.set_cons_zero, List.set_cons_succ]
        refine wpAnyH_take (i := 17) (v := ?_) rfl (by kernel_rfl) (by kernel_rfl) (by kernel_rfl) (fun _ _ _ h => h) (Or.inl ⟨by kernel_rfl, ?_⟩) (by assumption) ?_
        rotate_left
        · intro w hSw; (try dsimp only at hSw); go_simp; try with_reducible rfl
        try simp only [List.getElem_toArray, List.getElem_cons_succ, List.getElem_cons_zero, Act.put, List.setIfInBounds_toArray, List.set_cons_zero, List.set_cons_succ]
        refine wpAnyH_take (i := 18) (v := ?_) rfl (by kernel_rfl) (by kernel_rfl) (by kernel_rfl) (fun _ _ _ h => h) (Or.inl ⟨by kernel_rfl, ?_⟩) (by assumption) ?_
        rotate_left
        · intro w hSw; (try dsimp only at hSw); go_simp; try with_reducible rfl
        try simp only [List.getElem_toArray, List.getElem_cons_succ, List.getElem_cons_zero, Act.put, List.setIfInBounds_toArray, List.set_cons_zero, List.set_cons_succ]
        refine wpAnyH_take (i := 19) (v := ?_) rfl (by kernel_rfl) (by kernel_rfl) (by kernel_rfl) (fun _ _ _ h => h) (Or.inl ⟨by kernel_rfl, ?_⟩) (by assumption) ?_
        rotate_left
        · intro w hSw; (try dsimp only at hSw); go_simp; try with_reducible rfl
        try simp only [List.getElem_toArray, List.getElem_cons_succ, List.getElem_cons_zero, Act.put, List.setIfInBounds_toArray, List.set_cons_zero, List.set_cons_succ]
        refine wpAnyH_take (i := 20) (v := ?_) rfl (by kernel_rfl) (by kernel_rfl) (by kernel_rfl) (fun _ _ _ h => h) (Or.inl ⟨by kernel_rfl, ?_⟩) (by assumption) ?_
        rotate_left
        · intro w hSw; (try dsimp only at hSw); go_simp; try with_reducible rfl
        try simp only [List.getElem_toArray, List.getElem_cons_succ, List.getElem_cons_zero, Act.put, List.setIfInBounds_toArray, List.set_cons_zero, List.set_cons_succ]
        refine wpAnyH_take (i := 21) (v := ?_) rfl (by kernel_rfl) (by kernel_rfl) (by kernel_rfl) (fun _ _ _ h => h) (Or.inl ⟨by kernel_rfl, ?_⟩) (by assumption) ?_
        rotate_left
        · intro w hSw; (try dsimp only at hSw); go_simp; try with_reducible rfl
        try simp only [List.getElem_toArray, List.getElem_cons_succ, List.getElem_cons_zero, Act.put, List.setIfInBounds_toArray, List.set_cons_zero, List.set_cons_succ]
        refine wpAnyH_take (i := 22) (v := ?_) rfl (by kernel_rfl) (by kernel_rfl) (by kernel_rfl) (fun _ _ _ h => h) (Or.inl ⟨by kernel_rfl, ?_⟩) (by assumption) ?_
        rotate_left
        · intro w hSw; (try dsimp only at hSw); go_simp; try with_reducible rfl
        try simp only [List.getElem_toArray, List.getElem_cons_succ, List.getElem_cons_zero, Act.put, List.setIfInBounds_toArray, List.set_cons_zero, List.set_cons_succ]
        refine wpAnyH_take (i := 23) (v := ?_) rfl (by kernel_rfl) (by kernel_rfl) (by kernel_rfl) (fun _ _ _ h => h) (Or.inl ⟨by kernel_rfl, ?_⟩) (by assumption) ?_
        rotate_left
        · intro w hSw; (try dsimp only at hSw); go_simp; try with_reducible rfl
        try simp only [List.getElem_toArray, List.getElem_cons_succ, List.getElem_cons_zero, Act.put, List.setIfInBounds_toArray, List.set_cons_zero, List.set_cons_succ]
        refine wpAnyH_take (i := 24) (v := ?_) rfl (by kernel_rfl) (by kernel_rfl) (by kernel_rfl) (fun _ _ _ h => h) (Or.inl ⟨by kernel_rfl, ?_⟩) (by assumption) ?_
        rotate_left
        · intro w hSw; (try dsimp only at hSw); go_simp; try with_reducible rfl
        try simp only [List.getElem_toArray, List.getElem_cons_succ, List.getElem_cons_zero, Act.put, List.setIfInBounds_toArray, List.set_cons_zero, List.set_cons_succ]
        refine wpAnyH_take (i := 25) (v := ?_) rfl (by kernel_rfl) (by kernel_rfl) (by kernel_rfl) (fun _ _ _ h => h) (Or.inl ⟨by kernel_rfl, ?_⟩) (by assumption) ?_
        rotate_left
        · intro w hSw; (try dsimp only at hSw); go_simp; try with_reducible rfl
        try simp only [List.getElem_toArray, List.getElem_cons_succ, List.getElem_cons_zero, Act.put, List.setIfInBounds_toArray, List.set_cons_zero, List.set_cons_succ]
        refine wpAnyH_take (i := 26) (v := ?_) rfl (by kernel_rfl) (by kernel_rfl) (by kernel_rfl) (fun _ _ _ h => h) (Or.inl ⟨by kernel_rfl, ?_⟩) (by assumption) ?_
        rotate_left
        · intro w hSw; (try dsimp only at hSw); go_simp; try with_reducible rfl
        try simp only [List.getElem_toArray, List.getElem_cons_succ, List.getElem_cons_zero, Act.put, List.setIfInBounds_toArray, List.set_cons_zero, List.set_cons_succ]
        refine wpAnyH_take (i := 27) (v := ?_) rfl (by kernel_rfl) (by kernel_rfl) (by kernel_rfl) (fun _ _ _ h => h) (Or.inl ⟨by kernel_rfl, ?_⟩) (by assumption) ?_
        rotate_left
        · intro w hSw; (try dsimp only at hSw); go_simp; try with_reducible rfl
        try simp only [List.getElem_toArray, List.getElem_cons_succ, List.getElem_cons_zero, Act.put, List.setIfInBounds_toArray, List.set_cons_zero, List.set_cons_succ]
        refine wpAnyH_take (i := 28) (v := ?_) rfl (by kernel_rfl) (by kernel_rfl) (by kernel_rfl) (fun _ _ _ h => h) (Or.inl ⟨by kernel_rfl, ?_⟩) (by assumption) ?_
        rotate_left
        · intro w hSw; (try dsimp only at hSw); go_simp; try with_reducible rfl
        try simp only [List.getElem_toArray, List.getElem_cons_succ, List.getElem_cons_zero, Act.put, List.setIfInBounds_toArray, List.set_cons_zero, List.set_cons_succ]
        refine wpAnyH_take (i := 29) (v := ?_) rfl (by kernel_rfl) (by kernel_rfl) (by kernel_rfl) (fun _ _ _ h => h) (Or.inl ⟨by kernel_rfl, ?_⟩) (by assumption) ?_
        rotate_left
        · intro w hSw; (try dsimp only at hSw); go_simp; try with_reducible rfl
        try simp only [List.getElem_toArray, List.getElem_cons_succ, List.getElem_cons_zero, Act.put, List.setIfInBounds_toArray, List.set_cons_zero, List.set_cons_succ]
        refine wpAnyH_take (i := 30) (v := ?_) rfl (by kernel_rfl) (by kernel_rfl) (by kernel_rfl) (fun _ _ _ h => h) (Or.inl ⟨by kernel_rfl, ?_⟩) (by assumption) ?_
        rotate_left
        · intro w hSw; (try dsimp only at hSw); go_simp; try with_reducible rfl
        try simp only [List.getElem_toArray, List.getElem_cons_succ, List.getElem_cons_zero, Act.put, List.setIfInBounds_toArray, List.set_cons_zero, List.set_cons_succ]
        refine wpAnyH_take (i := 32) (v := ?_) rfl (by kernel_rfl) (by kernel_rfl) (by kernel_rfl) (fun _ _ _ h => h) (Or.inl ⟨by kernel_rfl, ?_⟩) (by assumption) ?_
        rotate_left
        · intro w hSw; (try dsimp only at hSw); go_simp; try with_reducible rfl
        try simp only [List.getElem_toArray, List.getElem_cons_succ, List.getElem_cons_zero, Act.put, List.setIfInBounds_toArray, List.set_cons_zero, List.set_cons_succ]
        refine wpAnyH_take (i := 33) (v := ?_) rfl (by kernel_rfl) (by kernel_rfl) (by kernel_rfl) (fun _ _ _ h => h) (Or.inl ⟨by kernel_rfl, ?_⟩) (by assumption) ?_
        rotate_left
        · intro w hSw; (try dsimp only at hSw); go_simp; try with_reducible rfl
        try simp only [List.getElem_toArray, List.getElem_cons_succ, List.getElem_cons_zero, Act.put, List.setIfInBounds_toArray, List.set_cons_zero, List.set_cons_succ]
        refine wpAnyH_take (i := 34) (v := ?_) rfl (by kernel_rfl) (by kernel_rfl) (by kernel_rfl) (fun _ _ _ h => h) (Or.inl ⟨by kernel_rfl, ?_⟩) (by assumption) ?_
        rotate_left
        · intro w hSw; (try dsimp only at hSw); go_simp; try with_reducible rfl
        try simp only [List.getElem_toArray, List.getElem_cons_succ, List.getElem_cons_zero, Act.put, List.setIfInBounds_toArray, List.set_cons_zero, List.set_cons_succ]
        refine wpAnyH_take (i := 35) (v := ?_) rfl (by kernel_rfl) (by kernel_rfl) (by kernel_rfl) (fun _ _ _ h => h) (Or.inl ⟨by kernel_rfl, ?_⟩) (by assumption) ?_
        rotate_left
        · intro w hSw; (try dsimp only at hSw); go_simp; try with_reducible rfl
        try simp only [List.getElem_toArray, List.getElem_cons_succ, List.getElem_cons_zero, Act.put, List.setIfInBounds_toArray, List.set_cons_zero, List.set_cons_succ]
        refine wpAnyH_ready (rs := [31]) (by kernel_rfl) (by simp) ?_
        refine AllReadyH.cons rfl (fun K hK => ?_) AllReadyH.nil
        go_simp
        go_wp2_with (first | (go_at_call 17; refine (Hroom.out _ (by assumption)).mono ?_; rintro e wR ⟨rfl, hR, dR⟩; have HBR := hR.keepW (Q := BIG) (by assumption)))
        refine hK.out _ _ ?_ (fun hHeld => ?_)
        · first | exact H8.drew | exact HAl | exact HBS | exact HBR | assumption
        clear hK K
        refine wpAnyH_take (i := 36) (v := ?_) rfl (by kernel_rfl) (by kernel_rfl) (by kernel_rfl) (fun _ _ _ h => h) (Or.inl ⟨by kernel_rfl, ?_⟩) (by assumption) ?_
        rotate_left
        · intro w hSw; (try dsimp only at hSw); go_simp; try with_reducible rfl
        try simp only [List.getElem_toArray, List.getElem_cons_succ, List.getElem_cons_zero, Act.put, List.setIfInBounds_toArray, List.set_cons_zero, List.set_cons_succ]
        refine wpAnyH_take (i := 37) (v := ?_) rfl (by kernel_rfl) (by kernel_rfl) (by kernel_rfl) (fun _ _ _ h => h) (Or.inl ⟨by kernel_rfl, ?_⟩) (by assumption) ?_
        rotate_left
        · intro w hSw; (try dsimp only at hSw); go_simp; try with_reducible rfl
        try simp only [List.getElem_toArray, List.getElem_cons_succ, List.getElem_cons_zero, Act.put, List.setIfInBounds_toArray, List.set_cons_zero, List.set_cons_succ]
        refine wpAnyH_take (i := 38) (v := ?_) rfl (by kernel_rfl) (by kernel_rfl) (by kernel_rfl) (fun _ _ _ h => h) (Or.inl ⟨by kernel_rfl, ?_⟩) (by assumption) ?_
        rotate_left
        · intro w hSw; (try dsimp only at hSw); go_simp; try with_reducible rfl
        try simp only [List.getElem_toArray, List.getElem_cons_succ, List.getElem_cons_zero, Act.put, List.setIfInBounds_toArray, List.set_cons_zero, List.set_cons_succ]
        refine wpAnyH_done (by kernel_rfl) ?_ _
        go_wp2
        go_ret
        exact ⟨rfl, HEnd.out _ HBR, (((HD7.out.alloc _).drew).trans dS).trans dR⟩
end Go.Proofs.Ytlfooilcngjeiaa

/- replay: read. -/
import Derived.Test.YtlfooilcngjeiaaQa
import Derived.Deep.RegionHeld3
namespace Go.Proofs.Ytlfooilcngjeiaa
set_option linter.unusedVariables false
set_option linter.unusedSimpArgs false
open Go.RowKit Go.SL
def ScanRQ (S : Hp) (d : Nat) (R : Int × List Fnd × Dev) (F : Assn) (w : World) (e : Ending) (w' : World) : Prop :=
  ∃ v, e = .returned (.tuple #[v, .int .i64 R.1]) ∧ Sat w' (sl 119 8 v R.2.1.length (flatF R.2.1) * (devA S d R.2.2 * (pool S * F))) ∧ Side w w'
def ScanRel (S : Hp) (d : Nat) (B : Int) (D : Dev) (P : Nat) (F : Assn) (w : World) (u8 u15 : Value) (wr : World) : Prop :=
  ∃ k : Nat, k ≤ P ∧ u15 = .int .i64 (k : Int) ∧ (scanN B D k).1 = 0 ∧ Sat wr (sl 119 8 u8 (scanN B D k).2.1.length (flatF (scanN B D k).2.1) * (devA S d (scanN B D k).2.2 * (pool S * F))) ∧ Side w wr
set_option maxRecDepth 100000 in
set_option maxHeartbeats 2000000 in
theorem rread_any (w : World) (S : Hp) (d : Nat) (D : Dev) (P : Nat) (B : Int) (F : Assn) (h : Sat w (devA S d D * (pool S * F))) (hD : D.Ok) (hP : P + 1 ≤ D.sec.length) :
    Calls Try.prog 53 #[ptV d, .int .i64 (P : Int), .int .i64 B] w (ScanRQ S d (scanN B D P) F w) := by
  have hPn : (P : Int) ≤ 20000 := by have := hD.n; omega
  have HD := SL.hid hD; have HP := SL.hid hP
  clear hD hP
  go_enter Try.func53, Try.ntmps53
  go_wp2_with fail
  go_loopw [8, 15] (fun u8 u15 wr => ScanRel S d B D P F w u8 u15 wr) (fun _ u _ => P - (intOf u).toNat)
  case atStart => exact ⟨0, Nat.zero_le _, rfl, by rw [scanN_zero], by rw [scanN_zero]; exact h.slNil _ _, Side.refl w⟩
  case round =>
    clear h
    obtain ⟨k, hk, rfl, hc, hsat, hside⟩ := hrel
    by_cases hlt : k < P
    · have hlt' : (k : Int) < (P : Int) := by omega
      obtain ⟨hok, hln⟩ := scanN_dev (B := B) HD.out k
      have hdv := (scanN_found B D k).2.1
      have hst := scanN_succ B D k
      unfold scanS at hst
      have hcodes := read_codes (D := (scanN B D k).2.2) (a := (k : Int) + 1) (by unfold Dev.has; rw [hln]; have := HP.out; omega)
      have hrd := read_any wr S d _ ((k : Int) + 1) (sl 119 8 u8 (scanN B D k).2.1.length (flatF (scanN B D k).2.1) * F) (hsat.to (by ac_rfl)) hok
      have hln2 := read_len (scanN B D k).2.2 ((k : Int) + 1)
      have HC := SL.hid hc; have HDV := SL.hid hdv
      clear hok hln hsat hc hdv
      generalize scanN B D k = R at *
      obtain ⟨c, L, D'⟩ := R
      dsimp only at hrd hcodes hln2 hst HC HDV
      generalize D'.read ((k : Int) + 1) = A at hrd hcodes hln2 hst
      obtain ⟨⟨code, l⟩, D2⟩ := A
      dsimp only at hrd hcodes hln2 hst
      have hc0 : c = 0 := HC.out
      subst hc0
      rw [if_pos rfl] at hst
      have Hst0 := SL.hid hst
      clear hst
      rcases hcodes with rfl | rfl | rfl
      · have hl := hln2 rfl
        have Hl := SL.hid hl
        clear hln2 hl
        go_wp2_with fail
        (with_reducible refine hrd.mono ?_)
        rintro e w1 ⟨dv, rfl, h1, d1⟩
        clear hrd
        have h2 := h1.ansYes
        obtain ⟨g, cc, rfl, hgc, hcell⟩ := bs_at h2 (by rw [Hl.out]; omega) (by rw [Hl.out]; omega)
        have hcm : cc ≤ maxLen := by
          rcases h2.slCases with ⟨h0, _⟩ | ⟨g', cap, cur, h0, _, h4, _⟩
          · cases h0
          · cases h0; exact h4
        rw [Hl.out] at hgc hcell h2
        have hdec := decode_any l Hl.out g cc hgc hcm w1 hcell
        rw [Hl.out]
        have Hcell := SL.hid hcell
        clear hgc hcm hcell
        cases hdf : decodeF l with
        | none =>
          rw [hdf] at hdec
          unfold DecodeQ at hdec
          dsimp only [Tg.cells, Tg.zero] at hdec
          have Hst : Hid (scanN B D (k + 1) = ((0 : Int), L, D2)) := SL.hid (by rw [Hst0.out, hdf, fndAdd_none]; simp)
          clear hdf Hst0
          go_wp2_with fail
          (with_reducible refine hdec.mono ?_)
          rintro e w2 ⟨rfl, h3, d3⟩
          have h4 := h3.keepW h2.right
          have h5 := h4.alloc (.cells #[.int .u32 0, .int .u64 0, .int .u64 0, .int .u64 0, .int .i64 0, .int .i64 0, .int .i64 0] 74 (0, 0))
          have D5 := ((hside.trans d1).trans d3).alloc (.cells #[.int .u32 0, .int .u64 0, .int .u64 0, .int .u64 0, .int .i64 0, .int .i64 0, .int .i64 0] 74 (0, 0))
          clear hdec h1 d1 h2 h3 d3 hside
          go_wp2_with fail
          go_roundw
          case rel => exact ⟨k + 1, by omega, by go_num, by rw [Hst.out], by rw [Hst.out]; exact h5.right.to (by ac_rfl), D5⟩
          case measure => simp [intOf]; omega
        | some p =>
          obtain ⟨t, rest⟩ := p
          obtain ⟨tok, tfit⟩ := decode_ok hdf
          rw [hdf] at hdec
          unfold DecodeQ at hdec
          dsimp only [Tg.cells] at hdec
          have Hfit := SL.hid tfit; have Hok := SL.hid tok
          clear tok tfit
          by_cases hid : t.id < B
          · have Hst : Hid (scanN B D (k + 1) = ((0 : Int), L ++ [(t, k)], D2)) := SL.hid (by rw [Hst0.out, hdf, fndAdd_yes hid]; simp)
            clear hdf Hst0
            go_wp2_with fail
            (with_reducible refine hdec.mono ?_)
            rintro e w2 ⟨rv, rfl, h3, d3⟩
            have h4 := h3.under h2.right
            have h5 := h4.alloc (.cells #[.int .u32 t.ep, .int .u64 t.st, .int .u64 t.sq, .int .u64 t.fl, .int .i64 t.ix, .int .i64 t.ct, .int .i64 t.id] 74 (0, 0))
            have D5 := ((hside.trans d1).trans d3).alloc (.cells #[.int .u32 t.ep, .int .u64 t.st, .int .u64 t.sq, .int .u64 t.fl, .int .i64 t.ix, .int .i64 t.ct, .int .i64 t.id] 74 (0, 0))
            obtain ⟨ra, rc, rfl⟩ : ∃ a c, rv = .slice a rest.length c := sl_shape h3
            clear hdec h1 d1 h2 h3 d3 hside h4
            generalize hw3 : w2.alloc (.cells #[.int .u32 t.ep, .int .u64 t.st, .int .u64 t.sq, .int .u64 t.fl, .int .i64 t.ix, .int .i64 t.ct, .int .i64 t.id] 74 (0, 0)) = w3 at h5 D5
            generalize hb3 : w2.heap.size = b3 at h5
            obtain ⟨xa, xc, w4, hrun, h6, d6⟩ := append_found (h5.to (by ac_rfl : _ = sl 119 8 u8 L.length (flatF L) * (pt b3 (.cells #[.int .u32 t.ep, .int .u64 t.st, .int .u64 t.sq, .int .u64 t.fl, .int .i64 t.ix, .int .i64 t.ct, .int .i64 t.id] 74 (0, 0)) * (bs 5 (.slice ra rest.length rc) rest * (devA S d D2 * (pool S * F)))))) (t, k) (by have := HDV.out; omega)
            have c0 := h5.cell 0; have c1 := h5.cell 1; have c2 := h5.cell 2; have c3 := h5.cell 3; have c4 := h5.cell 4; have c5 := h5.cell 5; have c6 := h5.cell 6
            simp only [List.getElem?_toArray, List.getElem?_cons_zero, List.getElem?_cons_succ] at c0 c1 c2 c3 c4 c5 c6
            unfold fdC at hrun
            dsimp only at hrun
            have Hrun := SL.hid hrun
            have H6 := SL.hid h6; have D6 := SL.hid (D5.trans d6)
            clear hrun h6 d6 h5 D5
            subst hb3
            go_wp2_with (at_builtin; refine wpList_append_run Hrun.out _ _ rfl rfl rfl rfl rfl ?_)
            go_roundw
            case rel => exact ⟨k + 1, by omega, by go_num, by rw [Hst.out], by rw [Hst.out]; exact H6.out.drop2.drop2, D6.out⟩
            case measure => simp [intOf]; omega
          · have Hst : Hid (scanN B D (k + 1) = ((0 : Int), L, D2)) := SL.hid (by rw [Hst0.out, hdf, fndAdd_no hid]; simp)
            clear hdf Hst0
            go_wp2_with fail
            (with_reducible refine hdec.mono ?_)
            rintro e w2 ⟨rv, rfl, h3, d3⟩
            have h4 := h3.under h2.right
            have h5 := h4.alloc (.cells #[.int .u32 t.ep, .int .u64 t.st, .int .u64 t.sq, .int .u64 t.fl, .int .i64 t.ix, .int .i64 t.ct, .int .i64 t.id] 74 (0, 0))
            have D5 := ((hside.trans d1).trans d3).alloc (.cells #[.int .u32 t.ep, .int .u64 t.st, .int .u64 t.sq, .int .u64 t.fl, .int .i64 t.ix, .int .i64 t.ct, .int .i64 t.id] 74 (0, 0))
            obtain ⟨ra, rc, rfl⟩ : ∃ a c, rv = .slice a rest.length c := sl_shape h3
            clear hdec h1 d1 h2 h3 d3 hside h4
            have c6 := h5.cell 6
            simp only [List.getElem?_toArray, List.getElem?_cons_zero, List.getElem?_cons_succ] at c6
            have H5 := SL.hid h5.right.right
            clear h5
            go_wp2_with fail
            go_roundw
            case rel => exact ⟨k + 1, by omega, by go_num, by rw [Hst.out], by rw [Hst.out]; exact H5.out.to (by ac_rfl), D5⟩
            case measure => simp [intOf]; omega
      · have Hst : Hid (scanN B D (k + 1) = ((2 : Int), [], D2)) := SL.hid (by rw [Hst0.out]; simp)
        have Hf : Hid (scanN B D P = ((2 : Int), [], D2)) := SL.hid (by
          rw [scanN_stay (k := k + 1) (by rw [Hst.out]; show (2 : Int) ≠ 0; decide) (by omega)]; exact Hst.out)
        clear Hst0 hln2
        go_wp2_with fail
        (with_reducible refine hrd.mono ?_)
        rintro e w1 ⟨dv, rfl, h1, d1⟩
        clear hrd
        obtain ⟨rfl, h2⟩ := h1.ansNo (by show (2 : Int) ≠ 0; decide)
        go_wp2_with fail
        go_ret2
        rw [Hf.out]
        exact ⟨_, rfl, h2.drop3.slNil _ _, hside.trans d1⟩
      · have Hst : Hid (scanN B D (k + 1) = ((0 : Int), L, D2)) := SL.hid (by rw [Hst0.out]; simp)
        clear Hst0 hln2
        go_wp2_with fail
        (with_reducible refine hrd.mono ?_)
        rintro e w1 ⟨dv, rfl, h1, d1⟩
        clear hrd
        obtain ⟨rfl, h2⟩ := h1.ansNo (by show (3 : Int) ≠ 0; decide)
        go_wp2_with fail
        go_roundw
        case rel => exact ⟨k + 1, by omega, by go_num, by rw [Hst.out], by rw [Hst.out]; exact h2.to (by ac_rfl), hside.trans d1⟩
        case measure => simp [intOf]; omega
    · obtain rfl : k = P := by omega
      have hs : ∃ a c, u8 = .slice a (scanN B D k).2.1.length c := sl_shape hsat
      obtain ⟨sa, sc, rfl⟩ := hs
      go_wp2_with fail
      go_ret2
      exact ⟨_, by rw [hc]; rfl, hsat, hside⟩
end Go.Proofs.Ytlfooilcngjeiaa

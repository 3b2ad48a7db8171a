/- FileFull: the walk. -/
import Derived.Test.YtaoohjeaaccnfaaGreatVq
import Derived.BigQuiet
import Derived.Deep.DeepCutAuto
import Derived.Deep.CutBlock
import Derived.Deep.CutRange
namespace Go.Proofs.YtaoohjeaaccnfaaGreat.Fs
set_option linter.unusedVariables false
set_option linter.unusedSimpArgs false
open Go.RowKit Go.SL Go.Proofs.YtaoohjeaaccnfaaGreat.Ba
def FfRel (B : Nat) (x : Fx B) (b id R sc : Nat) (dv : Value) (dl : List UInt8) (w : World) (u11 : Value) (wr : World) : Prop :=
  ∃ i : Nat, i ≤ 45 ∧ u11 = .int .i64 (i : Int) ∧ Side w wr ∧ Sat wr (fsA x b (upO rootA id (some (ffF dl (min i R)))) (B - 2 - needF (min i R)) * (bs 5 dv dl * (pt sc (spO b B) * whole w)))
def FfR2 {B : Nat} (x : Fx B) (b : Nat) (M : Bst x.σ) (N : Nat) (w0 : World) (F : Assn) (u15 : Value) (wr : World) : Prop :=
  ∃ k : Nat, k ≤ N ∧ u15 = .int .i64 (k : Int) ∧ Side w0 wr ∧ Sat wr (spM x b M * F)
set_option maxRecDepth 100000 in
set_option maxHeartbeats 4000000 in
theorem full_any {p1 : Prop} (z : Int) (a : Option Addr) (len cap : Nat) (l : List UInt8) (w : World) (hw : p1) (hb : IsBytes w a len cap l) : Calls Tryz.prog 6 #[.int .i64 z, .slice a len cap] w (LawQ w) := by
  refine callsQ fun Q HQ => ?_
  have hm := shown_any w
  have a1 := and16 z
  obtain ⟨q, hq⟩ : ∃ q : Nat, z % 65536 % 37 = (q : Int) := ⟨(z % 65536 % 37).toNat, by omega⟩
  have t1 : (z % 65536).tmod 37 = (q : Int) := by rw [Int.tmod_eq_emod_of_nonneg (by omega), hq]
  have q36 : q ≤ 36 := by omega
  obtain ⟨B, hB⟩ : ∃ B, 4 + q = B := ⟨_, rfl⟩
  have eB : 4 + (q : Int) = (B : Int) := by omega
  have B4 : 4 ≤ B := by omega
  have B40 : B ≤ 40 := by omega
  have B4' : (4 : Int) ≤ (B : Int) := by omega
  have B40' : (B : Int) ≤ 40 := by omega
  obtain ⟨hl, hlc, hcap⟩ := hb.len
  obtain ⟨m, hmm⟩ : ∃ m, min len 479 = m := ⟨_, rfl⟩
  have em : min (len : Int) 479 = (m : Int) := by omega
  have hml : m ≤ len := by omega
  have hm479 : (m : Int) ≤ 479 := by omega
  have hmc : (m : Int) ≤ (cap : Int) := by omega
  have hcap' : (cap : Int) ≤ 9223372036854775807 := by omega
  have hrd := (hb.take hml).rd
  obtain ⟨d, hd⟩ : ∃ d, l.take m = d := ⟨_, rfl⟩
  have hdl : d.length = m := by rw [← hd, List.length_take]; omega
  rw [hd] at hrd
  have Hrd := SL.hid hrd; have Hdl := SL.hid hdl
  clear hq hB q36 hw hb hl hlc hcap hmm hml hrd hd hdl
  go_enter Tryz.func6, Tryz.ntmps6
  go_wp2_with fail
  refine hm.mono ?_
  rintro e w1 ⟨rfl, h1, d1⟩
  clear hm
  have hA := h1.alloc (.cells #[.int .u8 1] 5 (0, 0))
  have hbs : Sat (w1.alloc (.cells #[.int .u8 1] 5 (0, 0))) (bs 5 (.slice (some ⟨w1.heap.size, 0, none⟩) 1 1) [1] * whole w) := by
    have := Sat.slOf (sz := 1) (n := 1) (cap := 1) hA (Nat.le_refl _) (by unfold maxLen; omega) rfl
    exact this
  have hR1 : Rd (w1.alloc (.cells #[.int .u8 1] 5 (0, 0))) (.slice a m cap) d := Hrd.out.keep hbs
  obtain ⟨dv, w2, hrun, h2, d2, ra, rc, hdv⟩ := append_bytes hbs hR1 (by decide) (by rw [Hdl.out]; omega)
  obtain ⟨dn, hdn⟩ : ∃ dn, 1 + m = dn := ⟨_, rfl⟩
  rw [List.length_singleton, Hdl.out, hdn] at hdv
  subst hdv
  obtain ⟨dl, hdl⟩ : ∃ dl, [1] ++ d = dl := ⟨_, rfl⟩
  have hdll : dl.length = dn := by rw [← hdl, List.length_append, Hdl.out, ← hdn]; rfl
  rw [hdl] at h2
  have Hrun := SL.hid hrun; have H2 := SL.hid h2; have D2 := SL.hid ((d1.alloc (.cells #[.int .u8 1] 5 (0, 0))).trans d2); have Hdll := SL.hid hdll
  have hdn1 : 1 ≤ dn := by omega
  have hdn2 : dn ≤ 480 := by omega
  clear hA hbs hR1 hrun h2 d1 d2 hdll hdl h1
  go_wp2_with (at_builtin; refine wpList_append_run Hrun.out _ _ rfl rfl rfl rfl rfl ?_)
  clear Hrun
  have hmd := SL.hid (made_x B B4 (by omega) _ w2 H2.out)
  refine hmd.out.mono ?_
  rintro e w3 ⟨x, b, rfl, d3, h3⟩
  clear hmd H2
  have h4 := h3.alloc (.cells #[.pointer (some ⟨b, 0, none⟩), .int .i64 (B : Int)] 26 (0, 0))
  have D4 := SL.hid ((D2.out.trans d3).alloc (.cells #[.pointer (some ⟨b, 0, none⟩), .int .i64 (B : Int)] 26 (0, 0)))
  have H4 := SL.hid (h4.to (by ac_rfl : _ = fsA x b rootA (B - 2) * (bs 5 (.slice ra dn rc) dl * (pt w3.heap.size (spO b B) * whole w))))
  have cA : (w3.alloc (.cells #[.pointer (some ⟨b, 0, none⟩), .int .i64 (B : Int)] 26 (0, 0))).cell? ⟨w3.heap.size, 0, none⟩ = some (.pointer (some ⟨b, 0, none⟩)) := h4.cell 0
  have cB : (w3.alloc (.cells #[.pointer (some ⟨b, 0, none⟩), .int .i64 (B : Int)] 26 (0, 0))).cell? ⟨w3.heap.size, 1, none⟩ = some (.int .i64 (B : Int)) := h4.cell 1
  clear h3 h4 d3 D2
  unfold spV
  go_upto_region 7 with (fail)
  generalize (w3.alloc (.cells #[.pointer (some ⟨b, 0, none⟩), .int .i64 (B : Int)] 26 (0, 0))) = w4 at *
  generalize w3.heap.size = sc at *
  have hn := SL.hid (y_new (kd := 1) H4.out (.inl rfl) (by omega))
  go_wp2_with fail
  refine hn.out.mono ?_
  rintro e w5 ⟨id, rfl, r1, i0, i1, d5, h5⟩
  have D5 := SL.hid (D4.out.trans d5)
  have H5 := SL.hid h5
  obtain ⟨R, hR⟩ : ∃ R, roomF B = R := ⟨_, rfl⟩
  have HR := SL.hid hR
  obtain ⟨p3, hp3⟩ : ∃ p, B - 3 = p := ⟨_, rfl⟩
  have e3 : (B : Int) - 3 = (p3 : Int) := by omega
  obtain ⟨p4, hp4⟩ : ∃ p, p3 - 1 = p := ⟨_, rfl⟩
  have p3' : (p3 : Int) ≤ 40 := by omega
  have Hp3 := SL.hid hp3; have Hp4 := SL.hid hp4
  clear hn h5 d5 H4 D4 cA cB hR hp3 hp4 r1 i0 i1
  go_upto_if 50 with (fail)
  go_cut [10] from 51 to 53 (fun u10 wx => u10 = .int .i64 (R : Int) ∧ w5 = wx)
  case first =>
    by_cases h16 : 16 < p3
    · have h16' : (16 : Int) < (p3 : Int) := by omega
      have e4 : (p3 : Int) - 1 = (p4 : Int) := by have := Hp4.out; omega
      have hRe : Hid ((R : Int) = max 16 (p4 : Int)) := by
        show (R : Int) = _
        have h9 := HR.out
        unfold roomF at h9
        rw [Hp3.out, if_pos h16] at h9
        have := Hp3.out; have := Hp4.out
        omega
      go_wp2_with fail
      go_meet
      exact ⟨by rw [hRe.out], rfl⟩
    · have h16' : ¬ (16 : Int) < (p3 : Int) := by omega
      have hRe : Hid ((R : Int) = (p3 : Int)) := by
        show (R : Int) = _
        have h9 := HR.out
        unfold roomF at h9
        rw [Hp3.out, if_neg h16] at h9
        omega
      go_wp2_with fail
      go_meet
      exact ⟨by rw [hRe.out], rfl⟩
  case rest =>
    obtain ⟨rfl, rfl⟩ := hcut
    have hR36 : R ≤ 36 := by
      have h9 := HR.out
      unfold roomF at h9
      split at h9 <;> omega
    have hR1 : 1 ≤ R := by
      have h9 := HR.out
      unfold roomF at h9
      split at h9 <;> omega
    have hst : FfRel B x b id R sc (.slice ra dn rc) dl w (.int .i64 0) w5 := ⟨0, by decide, rfl, D5.out, by
      rw [Nat.zero_min]
      have h9 := H5.out
      rw [show B - 2 - needF 0 = B - 2 - 1 from rfl]
      exact h9⟩
    have Hst := SL.hid hst
    clear hst H5 D5
    go_wp2_with fail
    go_loopw [11] (fun u11 wr => FfRel B x b id R sc (.slice ra dn rc) dl w u11 wr) (fun u11 _ => 45 - (intOf u11).toNat)
    case atStart => exact Hst.out
    case round =>
      clear Hst
      obtain ⟨i, hi45, rfl, hside, hsat⟩ := hrel
      have cA : wr.cell? ⟨sc, 0, none⟩ = some (.pointer (some ⟨b, 0, none⟩)) := hsat.front3.cell 0
      have cB : wr.cell? ⟨sc, 1, none⟩ = some (.int .i64 (B : Int)) := hsat.front3.cell 1
      by_cases hlt : i < 45
      · have hlt' : (i : Int) < 45 := by omega
        obtain ⟨M, hM, hs2⟩ := Sat.fOpen hsat
        have hml := m_list (by have := m_small hM hs2; omega) hs2
        have Hml := SL.hid hml; have HM := SL.hid hM
        have c480 : ((480 * i : Nat) : Int) = 480 * (i : Int) := by omega
        clear hml hsat hs2 hM
        go_wp2_with fail
        refine Hml.out.mono ?_
        rintro e w6 ⟨v6, rfl, d6, h6⟩
        have cA6 : w6.cell? ⟨sc, 0, none⟩ = some (.pointer (some ⟨b, 0, none⟩)) := h6.front3.cell 0
        have cB6 : w6.cell? ⟨sc, 1, none⟩ = some (.int .i64 (B : Int)) := h6.front3.cell 1
        obtain ⟨v6a, v6c, rfl⟩ := hold_shape h6
        have hcap2 : dl.length ≤ rc := by
          rcases h6.front2.slCases with ⟨_, h0, _⟩ | ⟨g, c, cur, e, h3, _⟩
          · have := Hdll.out; omega
          · simp only [Value.slice.injEq] at e
            obtain ⟨-, -, rfl⟩ := e; exact h3
        have D6 := SL.hid (hside.trans d6)
        have hD : ∀ W P, Sat W (bs 5 (.slice ra dl.length rc) dl * P) → Rd W (.slice ra dl.length rc) dl := hD_bs _ _
        rw [← Hdll.out] at h6
        by_cases hiR : i < R
        · have hiR' : (i : Int) < (R : Int) := by omega
          have hmn : min i R = i := Nat.min_eq_left (by omega)
          have hmn1 : min (i + 1) R = i + 1 := Nat.min_eq_left (by omega)
          have hfit := (roomF_iff (t := i) B4 B40).2 (by rw [HR.out]; exact hiR)
          have hn0 := ffF_need (dl := dl) (t := i) (by rw [Hdll.out]; exact hdn1) (by rw [Hdll.out]; exact hdn2) (by omega)
          have hn1 : needP ((ffF dl i).wr (480 * i) dl).pr = needF (i + 1) := ffF_need (dl := dl) (t := i + 1) (by rw [Hdll.out]; exact hdn1) (by rw [Hdll.out]; exact hdn2) (by omega)
          have hnm : needF i ≤ needF (i + 1) := by unfold needF; split <;> split <;> omega
          have hM2 := HM.out
          rw [hmn] at hM2
          have hwr := m_writeY (x := x.hold (.slice v6a (asc M.W).length v6c) (asc M.W)) (id := id) (f := ffF dl i) hM2 (upO_same _ _ _) (480 * i) hD hcap2 (by rw [Hdll.out]; omega) (by rw [Hdll.out]; omega) (by rw [hn0, hn1]; omega) h6
          rw [hn0, hn1, upO_up, show B - 2 - needF i + needF i - needF (i + 1) = B - 2 - needF (i + 1) by omega, c480, Hdll.out] at hwr
          have Hwr := SL.hid hwr; have HM1 := SL.hid hmn1
          clear hwr h6 hmn hmn1 hfit hn0 hn1 hnm hM2 d6 Hml hD cA cB
          go_wp2_with fail
          refine Hwr.out.mono ?_
          rintro e w7 ⟨rfl, d7, h7⟩
          have h8 := Sat.unholdF h7
          have D7 := SL.hid (D6.out.trans d7)
          have cA7 : w7.cell? ⟨sc, 0, none⟩ = some (.pointer (some ⟨b, 0, none⟩)) := h8.front3.cell 0
          have cB7 : w7.cell? ⟨sc, 1, none⟩ = some (.int .i64 (B : Int)) := h8.front3.cell 1
          obtain ⟨M7, hM7, hs7⟩ := Sat.fOpen h8
          have Hml7 := SL.hid (m_list (by have := m_small hM7 hs7; omega) hs7)
          have HM7 := SL.hid hM7
          clear h7 h8 d7 Hwr hs7 hM7 cA6 cB6
          go_wp2_with fail
          refine Hml7.out.mono ?_
          rintro e w8 ⟨v8, rfl, d8, h8⟩
          have h9 := Sat.unhold h8
          obtain ⟨v8a, v8c, rfl⟩ := hold_shape h8
          have H9 := SL.hid (Sat.fShut (x := x) HM7.out h9)
          have D8 := SL.hid (D7.out.trans d8)
          clear h8 h9 d8 Hml7 cA7 cB7
          go_wp2_with fail
          all_goals refine ⟨⟨i + 1, by omega, by simp, D8.out, by rw [HM1.out]; exact H9.out⟩, ?_⟩
          all_goals (simp [intOf]; omega)
        · have hiR' : ¬ (i : Int) < (R : Int) := by omega
          have hmn : min i R = R := Nat.min_eq_right (by omega)
          have hmn1 : min (i + 1) R = R := Nat.min_eq_right (by omega)
          have hov := ffF_over (dl := dl) (B := B) (i := i) (by rw [Hdll.out]; exact hdn1) (by rw [Hdll.out]; exact hdn2) B4 B40 (by rw [HR.out]; omega) (by omega)
          rw [HR.out] at hov
          have hn0 := ffF_need (dl := dl) (t := R) (by rw [Hdll.out]; exact hdn1) (by rw [Hdll.out]; exact hdn2) (by omega)
          have hle : needF R ≤ B - 2 := by
            have h9 := (roomF_iff (t := R - 1) B4 B40).2 (by rw [HR.out]; omega)
            rw [show R - 1 + 1 = R by omega] at h9; exact h9
          have hM2 := HM.out
          rw [hmn] at hM2
          obtain ⟨L, hL⟩ : ∃ L, asc M.W = L := ⟨_, rfl⟩
          rw [hL] at h6 ⊢
          have hwr := m_writeN (x := x.hold (.slice v6a L.length v6c) L) (id := id) (f := ffF dl R) hM2 (upO_same _ _ _) (480 * i) hD hcap2 (by rw [Hdll.out]; omega) (by rw [Hdll.out]; omega) (by rw [hn0]; omega) h6
          rw [c480, Hdll.out] at hwr
          have Hwr := SL.hid hwr; have HM1 := SL.hid hmn1; have HL := SL.hid hL
          clear hwr h6 hmn hmn1 hov hn0 hle hM2 d6 Hml hD cA cB hL
          go_wp2_with fail
          refine Hwr.out.mono ?_
          rintro e w7 ⟨rfl, d7, M7, hMW, hM7, h7⟩
          have D7 := SL.hid (D6.out.trans d7)
          have cA7 : w7.cell? ⟨sc, 0, none⟩ = some (.pointer (some ⟨b, 0, none⟩)) := h7.front3.cell 0
          have cB7 : w7.cell? ⟨sc, 1, none⟩ = some (.int .i64 (B : Int)) := h7.front3.cell 1
          have hml7 := m_list (by have := m_small hM7 h7; omega) h7
          unfold ListMQ at hml7
          rw [hMW, HL.out] at hml7
          have Hml7 := SL.hid hml7; have HM7 := SL.hid hM7
          clear h7 d7 Hwr hM7 cA6 cB6 hml7 hMW
          go_wp2_with fail
          refine Hml7.out.mono ?_
          rintro e w8 ⟨v8, rfl, d8, h8⟩
          obtain ⟨v8a, v8c, rfl⟩ := hold_shape h8
          obtain ⟨N, hN⟩ : ∃ N, L.length = N := ⟨_, rfl⟩
          have H8 := SL.hid h8; have D8 := SL.hid (D7.out.trans d8); have HN := SL.hid hN
          rw [hN] at H8 ⊢
          clear h8 d8 Hml7 cA7 cB7 hN
          go_wp2_with fail
          go_loopw [15] (fun u15 wr => FfR2 ((x.hold (.slice v6a N v6c) L).hold (.slice v8a N v8c) L) b M7 N w (bs 5 (.slice ra dn rc) dl * (pt sc (spO b B) * whole w)) u15 wr) (fun u15 _ => N - (intOf u15).toNat)
          case atStart => exact ⟨0, Nat.zero_le _, rfl, D8.out, by first | exact H8.out | (rw [← Hdll.out]; exact H8.out)⟩
          case round =>
            clear H8 D8
            obtain ⟨k, hk, rfl, hside2, hs2⟩ := hrel
            by_cases hkN : k < N
            · have hkN' : (k : Int) < (N : Int) := by omega
              obtain ⟨p, hp⟩ : ∃ p, L[k]? = some p := ⟨_, List.getElem?_eq_getElem (by have := HN.out; omega)⟩
              obtain ⟨g8, c8, dv8, e8, k8, j8, x8, y8, r8⟩ := hold_at hs2 hp
              obtain ⟨g6, c6, dv6, e6, k6, j6, x6, y6, r6⟩ := hold_at (Sat.unhold hs2) hp
              rw [HN.out] at e8 k8 e6 k6
              simp only [Value.slice.injEq] at e8 e6
              obtain ⟨rfl, -, rfl⟩ := e8
              obtain ⟨rfl, -, rfl⟩ := e6
              obtain ⟨pz, pl⟩ := p
              dsimp only at x8 x6 r8 r6
              have T8 := run_text wr dv8 pl r8
              have T6 := run_text wr dv6 pl r6
              have T8d := run_text wr.drew dv8 pl r8.drew
              have T6d := run_text wr.drew dv6 pl r6.drew
              obtain ⟨d8a, d8c, rfl⟩ := r8.shape
              obtain ⟨d6a, d6c, rfl⟩ := r6.shape
              have k8' : (N : Int) ≤ (v8c : Int) := by omega
              have k6' : (N : Int) ≤ (v6c : Int) := by omega
              have HS2 := SL.hid hs2
              clear hs2 r8 r6 hp k8 k6
              go_wp2_with fail
              go_region_held3 (fun w' => w'.cell? ⟨g8, k * 2, none⟩ = some (.int .i64 pz) ∧ w'.cell? ⟨g8, k * 2 + 1, none⟩ = some (.slice d8a pl.length d8c) ∧ w'.cell? ⟨g6, k * 2, none⟩ = some (.int .i64 pz) ∧ w'.cell? ⟨g6, k * 2 + 1, none⟩ = some (.slice d6a pl.length d6c) ∧ (convert 48 9 (.slice d8a pl.length d8c)).run Tryz.prog w' = .ok (.string (str pl)) w' ∧ (convert 48 9 (.slice d6a pl.length d6c)).run Tryz.prog w' = .ok (.string (str pl)) w') (first | exact ⟨x8, y8, x6, y6, T8, T6⟩ | exact ⟨x8, y8, x6, y6, T8d, T6d⟩ | go_keep) (fail)
              rename_i hHeld
              clear hHeld x8 y8 x6 y6 T8 T6 T8d T6d
              go_wp2_with fail
              all_goals refine ⟨⟨k + 1, by omega, by simp, hside2.drew, HS2.out.drew⟩, ?_⟩
              all_goals (simp [intOf]; omega)
            · obtain rfl : k = N := by omega
              have h9 := Sat.unhold (Sat.unhold hs2)
              have H9 := SL.hid (Sat.fShut (x := x) HM7.out h9)
              clear hs2 h9
              go_wp2_with fail
              all_goals refine ⟨⟨i + 1, by omega, by simp, hside2, by rw [HM1.out]; exact H9.out⟩, ?_⟩
              all_goals (simp [intOf]; omega)
      · obtain rfl : i = 45 := by omega
        have hmn : min 45 R = R := Nat.min_eq_right (by omega)
        rw [hmn] at hsat
        have hn0 := ffF_need (dl := dl) (t := R) (by rw [Hdll.out]; exact hdn1) (by rw [Hdll.out]; exact hdn2) (by omega)
        have hsz := ffF_sz (dl := dl) (by rw [Hdll.out]; exact hdn1) R
        rw [if_neg (by omega), Hdll.out] at hsz
        have hle : needF R ≤ B - 2 := by
          have h9 := (roomF_iff (t := R - 1) B4 B40).2 (by rw [HR.out]; omega)
          rw [show R - 1 + 1 = R by omega] at h9; exact h9
        have hnd := SL.hid (y_node hsat (id := id) (upO_same _ _ _))
        have Hn0 := SL.hid hn0; have Hsz := SL.hid hsz; have Hle := SL.hid hle
        clear hsat hmn hn0 hsz hle
        go_wp2_with fail
        refine hnd.out.mono ?_
        rintro e w6 ⟨y, rfl, y16, ykd, ylk, ysz, d6, h6⟩
        have hX : (ints y.l).size = 20 := by rw [size_ints, Nd.cells y16]
        have hE := h6.alloc (.cells #[.int .i64 0, .int .i64 0, .int .i64 0, .int .i64 0, .int .i64 0, .int .i64 0, .int .i64 0, .int .i64 0, .int .i64 0, .int .i64 0, .int .i64 0, .int .i64 0, .int .i64 0, .int .i64 0, .int .i64 0, .int .i64 0, .int .i64 0, .int .i64 0, .int .i64 0, .int .i64 0] 35 (0, 0))
        have Hz2 := SL.hid hE.heap
        have hE2 := hE.setRow (cs' := ints y.l)
        have D6 := SL.hid (((hside.trans d6).alloc (.cells #[.int .i64 0, .int .i64 0, .int .i64 0, .int .i64 0, .int .i64 0, .int .i64 0, .int .i64 0, .int .i64 0, .int .i64 0, .int .i64 0, .int .i64 0, .int .i64 0, .int .i64 0, .int .i64 0, .int .i64 0, .int .i64 0, .int .i64 0, .int .i64 0, .int .i64 0, .int .i64 0] 35 (0, 0))).setRow w6.heap.size (ints y.l))
        have Hone : Hid ((ints y.l).all (·.oneCell') = true) := by simp [RowKit.Hid, ints, Value.oneCell']
        have Hinf : Hid ((Tryz.prog.info? 35).map (·.size) = some (ints y.l).size) := by show _ = _; rw [hX]; exact info_node0
        have HX := SL.hid hX
        rw [Hsz.out] at ysz
        have n2 : ((w6.alloc (.cells #[.int .i64 0, .int .i64 0, .int .i64 0, .int .i64 0, .int .i64 0, .int .i64 0, .int .i64 0, .int .i64 0, .int .i64 0, .int .i64 0, .int .i64 0, .int .i64 0, .int .i64 0, .int .i64 0, .int .i64 0, .int .i64 0, .int .i64 0, .int .i64 0, .int .i64 0, .int .i64 0] 35 (0, 0))).setRow w6.heap.size (ints y.l)).cell? ⟨w6.heap.size, 2, none⟩ = some (.int .i64 ((480 * (R - 1) + dn : Nat) : Int)) := by rw [← ysz]; exact hE2.cell 2
        have cA6 : ((w6.alloc (.cells #[.int .i64 0, .int .i64 0, .int .i64 0, .int .i64 0, .int .i64 0, .int .i64 0, .int .i64 0, .int .i64 0, .int .i64 0, .int .i64 0, .int .i64 0, .int .i64 0, .int .i64 0, .int .i64 0, .int .i64 0, .int .i64 0, .int .i64 0, .int .i64 0, .int .i64 0, .int .i64 0] 35 (0, 0))).setRow w6.heap.size (ints y.l)).cell? ⟨sc, 0, none⟩ = some (.pointer (some ⟨b, 0, none⟩)) := hE2.front4.cell 0
        have cB6 : ((w6.alloc (.cells #[.int .i64 0, .int .i64 0, .int .i64 0, .int .i64 0, .int .i64 0, .int .i64 0, .int .i64 0, .int .i64 0, .int .i64 0, .int .i64 0, .int .i64 0, .int .i64 0, .int .i64 0, .int .i64 0, .int .i64 0, .int .i64 0, .int .i64 0, .int .i64 0, .int .i64 0, .int .i64 0] 35 (0, 0))).setRow w6.heap.size (ints y.l)).cell? ⟨sc, 1, none⟩ = some (.int .i64 (B : Int)) := hE2.front4.cell 1
        have hE3 := hE2.to (by ac_rfl : _ = fsA x b (upO rootA id (some (ffF dl R))) (B - 2 - needF R) * (pt sc (spO b B) * (pt w6.heap.size (.cells (ints y.l) 35 (0, 0)) * (bs 5 (.slice ra dn rc) dl * whole w))))
        have hfr := y_free hE3 (id := id) (upO_same _ _ _)
        rw [Hn0.out, show B - 2 - needF R + needF R = B - 2 by have := Hle.out; omega] at hfr
        have Hfr := SL.hid hfr; have YSZ := SL.hid ysz
        have en : ((480 * (R - 1) + dn : Nat) : Int) = 480 * ((R : Int) - 1) + (dn : Int) := by omega
        rw [en] at n2
        have R36' : (R : Int) ≤ 36 := by omega
        have R1' : (1 : Int) ≤ (R : Int) := by omega
        have dn2' : (dn : Int) ≤ 480 := by omega
        clear hE hE2 hE3 h6 d6 hfr y16 ykd ylk ysz cA cB hX hnd
        go_wp2_with (refine wpList_store_row (by exact rfl) 35 (.tmp 16) (.tmp 129) (by exact rfl) w6.heap.size (ints y.l) (by exact rfl) (by exact rfl) 35 _ (by with_reducible exact Hz2.out) Hinf.out (by rw [HX.out]; rfl) Hone.out ?_)
        generalize ((w6.alloc (.cells #[.int .i64 0, .int .i64 0, .int .i64 0, .int .i64 0, .int .i64 0, .int .i64 0, .int .i64 0, .int .i64 0, .int .i64 0, .int .i64 0, .int .i64 0, .int .i64 0, .int .i64 0, .int .i64 0, .int .i64 0, .int .i64 0, .int .i64 0, .int .i64 0, .int .i64 0, .int .i64 0] 35 (0, 0))).setRow w6.heap.size (ints y.l)) = w7 at *
        generalize w6.heap.size = nb at *
        refine Hfr.out.mono ?_
        rintro e w8 ⟨rfl, d8, h8⟩
        have cA8 : w8.cell? ⟨sc, 0, none⟩ = some (.pointer (some ⟨b, 0, none⟩)) := h8.front2.cell 0
        have cB8 : w8.cell? ⟨sc, 1, none⟩ = some (.int .i64 (B : Int)) := h8.front2.cell 1
        have n8 : w8.cell? ⟨nb, 2, none⟩ = some (.int .i64 (480 * ((R : Int) - 1) + (dn : Int))) := by rw [← en, ← YSZ.out]; exact h8.front3.cell 2
        have Hlf := SL.hid (y_left h8)
        have D8 := SL.hid (D6.out.trans d8); have YS2 := SL.hid YSZ.out
        clear h8 d8 Hfr D6 n2 cA6 cB6 Hz2 Hinf HX Hone
        go_wp2_with fail
        refine Hlf.out.mono ?_
        rintro e w9 ⟨rfl, d9, h9⟩
        have n9 : w9.cell? ⟨nb, 2, none⟩ = some (.int .i64 (480 * ((R : Int) - 1) + (dn : Int))) := by rw [← en, ← YS2.out]; exact h9.front3.cell 2
        have H9 := SL.hid h9; have D9 := SL.hid (D8.out.trans d9)
        have e2 : ((B - 2 : Nat) : Int) = (B : Int) - 2 := by omega
        rw [e2]
        clear h9 d9 Hlf n8 cA8 cB8
        go_wp2_with fail
        exact HQ.out _ _ ⟨by simp, H9.out.right.right.right.right, D9.out⟩
end Go.Proofs.YtaoohjeaaccnfaaGreat.Fs

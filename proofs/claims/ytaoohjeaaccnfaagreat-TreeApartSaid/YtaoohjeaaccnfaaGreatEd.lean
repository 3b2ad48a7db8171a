/- slices.SortStableFunc of entries: the insertion sort. -/
import Derived.Test.YtaoohjeaaccnfaaGreatEc
namespace Go.Proofs.YtaoohjeaaccnfaaGreat.Fs
set_option linter.unusedVariables false
set_option linter.unusedSimpArgs false
open Go.RowKit Go.SL Go.Proofs.YtaoohjeaaccnfaaGreat.Ba
theorem rowE_at {w : World} {v : Value} {S T : List Ent} {x : Ent} {F : Assn} (h : Sat w (RowE v (S ++ x :: T) * F)) {N i : Nat} (hi : S.length = i) (hN : (S ++ x :: T).length = N) : ∃ g c, v = .slice (some ⟨g, 0, none⟩) N c ∧ w.cell? ⟨g, i * 2, none⟩ = some (.int .i64 (x.nd : Int)) ∧ w.cell? ⟨g, i * 2 + 1, none⟩ = some (.string (str x.nm)) ∧ N ≤ c ∧ (c : Int) ≤ 9223372036854775807 := by
  subst hi hN
  exact rowE_get h (by simp) (by rw [List.getElem?_append_right (Nat.le_refl _), Nat.sub_self]; rfl)
/-- A swap of two that stand side by side. -/
theorem rowE_swp1 {w : World} {v : Value} {S T : List Ent} {x y : Ent} {F : Assn} (h : Sat w (RowE v (S ++ x :: y :: T) * F)) {N i : Nat} (hi : S.length = i) (hN : (S ++ x :: y :: T).length = N) : ∃ g c, v = .slice (some ⟨g, 0, none⟩) N c ∧ N ≤ c ∧ (c : Int) ≤ 9223372036854775807 ∧
    (w.cell? ⟨g, i * 2, none⟩ = some (.int .i64 (x.nd : Int)) ∧ w.cell? ⟨g, i * 2 + 1, none⟩ = some (.string (str x.nm)) ∧ w.cell? ⟨g, (i + 1) * 2, none⟩ = some (.int .i64 (y.nd : Int)) ∧ w.cell? ⟨g, (i + 1) * 2 + 1, none⟩ = some (.string (str y.nm))) ∧
    (w.frozen? ⟨g, i * 2, none⟩ = false ∧ w.frozen? ⟨g, i * 2 + 1, none⟩ = false ∧ w.frozen? ⟨g, (i + 1) * 2, none⟩ = false ∧ w.frozen? ⟨g, (i + 1) * 2 + 1, none⟩ = false) ∧
    Sat ((((w.setCell ⟨g, i * 2, none⟩ (.int .i64 (y.nd : Int))).setCell ⟨g, i * 2 + 1, none⟩ (.string (str y.nm))).setCell ⟨g, (i + 1) * 2, none⟩ (.int .i64 (x.nd : Int))).setCell ⟨g, (i + 1) * 2 + 1, none⟩ (.string (str x.nm))) (RowE v (S ++ y :: x :: T) * F) ∧
    Sat ((((w.setCell ⟨g, (i + 1) * 2, none⟩ (.int .i64 (x.nd : Int))).setCell ⟨g, (i + 1) * 2 + 1, none⟩ (.string (str x.nm))).setCell ⟨g, i * 2, none⟩ (.int .i64 (y.nd : Int))).setCell ⟨g, i * 2 + 1, none⟩ (.string (str y.nm))) (RowE v (S ++ y :: x :: T) * F) := by
  subst hi hN
  have ex : (S ++ x :: y :: T)[S.length]? = some x := by rw [List.getElem?_append_right (Nat.le_refl _), Nat.sub_self]; rfl
  have ey : (S ++ x :: y :: T)[S.length + 1]? = some y := by rw [List.getElem?_append_right (by omega), show S.length + 1 - S.length = 1 by omega]; rfl
  obtain ⟨g, c, rfl, k1, k2, hc, hf, h1⟩ := rowE_swap h (by simp) (by simp) (by omega) ex ey
  obtain ⟨g', c', e, _, _, _, _, h2⟩ := rowE_swap h (i := S.length + 1) (j := S.length) (by simp) (by simp) (by omega) ey ex
  simp only [Value.slice.injEq, Option.some.injEq, Addr.mk.injEq] at e
  obtain ⟨⟨rfl, -⟩, -⟩ := e
  refine ⟨g, c, rfl, k1, k2, hc, hf, ?_, ?_⟩
  · have e := swpL_mid S [] T x y
    rw [List.length_nil, Nat.add_zero, List.nil_append, List.nil_append] at e
    rw [e] at h1; exact h1
  · have e : swpL (S ++ x :: y :: T) (S.length + 1) S.length y x = S ++ y :: x :: T := by
      unfold swpL
      rw [List.set_append_right _ _ (by omega), show S.length + 1 - S.length = 1 by omega, List.set_append_right _ _ (Nat.le_refl _), Nat.sub_self]; rfl
    rw [e] at h2; exact h2
def IsO (v : Value) (X W Y : List Ent) (a b N : Nat) (w0 : World) (F : Assn) (u8 : Value) (wr : World) : Prop :=
  ∃ (S R : List Ent), u8 = .int .i64 ((a + S.length : Nat) : Int) ∧ 1 ≤ S.length ∧ a + S.length + R.length = b ∧ (S ++ R).Perm W ∧ Srt ltE S ∧ Side w0 wr ∧ Sat wr (RowE v (X ++ (S ++ (R ++ Y))) * F)
def IsI (v : Value) (X S Z : List Ent) (x : Ent) (a : Nat) (w0 : World) (F : Assn) (u9 : Value) (wr : World) : Prop :=
  ∃ (P Q : List Ent), u9 = .int .i64 ((a + P.length : Nat) : Int) ∧ P ++ Q = S ∧ (∀ y B', Q = y :: B' → ltE x y = true) ∧ Side w0 wr ∧ Sat wr (RowE v (X ++ (P ++ x :: (Q ++ Z))) * F)
def SortedQ (v : Value) (X W Y : List Ent) (F : Assn) (w : World) (e : Ending) (w' : World) : Prop :=
  ∃ W' : List Ent, e = .returned (.tuple #[]) ∧ W'.Perm W ∧ Srt ltE W' ∧ Side w w' ∧ Sat w' (RowE v (X ++ (W' ++ Y)) * F)
set_option maxRecDepth 100000 in
set_option maxHeartbeats 4000000 in
theorem insert_any (v : Value) (X W Y : List Ent) (a b : Nat) (ha : X.length = a) (hb : a + W.length = b) (w : World) (F : Assn) (hl : (X ++ (W ++ Y)).length ≤ 4000) (h : Sat w (RowE v (X ++ (W ++ Y)) * F)) :
    Calls Tryz.prog 116 #[v, .int .i64 (a : Int), .int .i64 (b : Int), cmpF] w (SortedQ v X W Y F w) := by
  refine callsQ fun Q' HQ => ?_
  obtain ⟨va, vc, rfl⟩ := sl_shape h
  obtain ⟨N, hN⟩ : ∃ N, (X ++ (W ++ Y)).length = N := ⟨_, rfl⟩
  rw [hN] at hl h HQ ⊢
  have hNs : a + W.length + Y.length = N := by rw [← hN, List.length_append, List.length_append, ha]; omega
  have hN' : (N : Int) ≤ 4000 := by omega
  have hb' : (b : Int) ≤ (N : Int) := by omega
  have ha' : (a : Int) ≤ (b : Int) := by omega
  have H := SL.hid h; have Ha := SL.hid ha; have Hb := SL.hid hb; have HNs := SL.hid hNs; have HN := SL.hid hN
  clear h ha hb hNs hN
  cases W with
  | nil =>
    have hab : b = a := by rw [← Hb.out]; rfl
    subst hab
    go_enter Tryz.func116, Tryz.ntmps116
    go_wp2_with fail
    refine wp_loop_rounds 1 ?_
    rw [rounds_succ]
    go_wp2_with fail
    go_end0
    exact HQ.out _ _ ⟨[], rfl, List.Perm.refl _, Srt.nil, Side.refl w, H.out⟩
  | cons x0 R0 =>
    go_enter Tryz.func116, Tryz.ntmps116
    go_wp2_with fail
    go_loopw [8] (fun u8 wr => IsO (.slice va N vc) X (x0 :: R0) Y a b N w F u8 wr) (fun u8 _ => b - (intOf u8).toNat)
    case atStart => exact ⟨[x0], R0, by simp, Nat.le_refl _, by have := Hb.out; simp at this ⊢; omega, List.Perm.refl _, Srt.one _, Side.refl w, H.out⟩
    case round =>
      obtain ⟨S, R, rfl, hS1, hSR, hP, hS, hside, hsat⟩ := hrel
      clear H
      obtain ⟨i, hi⟩ : ∃ i, a + S.length = i := ⟨_, rfl⟩
      rw [hi] at hSR ⊢
      have HP := SL.hid hP; have HS := SL.hid hS
      clear hP hS
      cases R with
      | nil =>
        have hib : i = b := by simpa using hSR
        subst hib
        have H2 := SL.hid hsat
        clear hsat hi
        go_wp2_with fail
        go_end0
        exact HQ.out _ _ ⟨S, rfl, by have := HP.out; rwa [List.append_nil] at this, HS.out, hside, by simpa using H2.out⟩
      | cons x R1 =>
        rw [List.length_cons] at hSR
        have hib : (i : Int) < (b : Int) := by omega
        have hst : IsI (.slice va N vc) X S (R1 ++ Y) x a w F (.int .i64 (i : Int)) wr := ⟨S, [], by rw [hi], List.append_nil S, fun y B' h => (by cases h), hside, hsat⟩
        have Hst := SL.hid hst; have Hi := SL.hid hi
        clear hsat hst hi
        go_wp2_with fail
        go_loopw [9] (fun u9 wr => IsI (.slice va N vc) X S (R1 ++ Y) x a w F u9 wr) (fun u9 _ => (intOf u9).toNat)
        case atStart => exact Hst.out
        case round =>
          clear Hst
          obtain ⟨P, Q, rfl, hPQ, hQ, hside2, hsat2⟩ := hrel
          obtain ⟨j, hj⟩ : ∃ j, a + P.length = j := ⟨_, rfl⟩
          rw [hj]
          have hlen : (X ++ (P ++ x :: (Q ++ (R1 ++ Y)))).length = N := by
            have h1 := HNs.out
            have h2 := Hb.out
            have h3 := Hi.out
            rw [← hPQ, List.length_append] at h3
            rw [List.length_cons] at h1 h2
            simp only [List.length_append, List.length_cons, Ha.out]
            omega
          have hjN : j < N := by rw [← hlen]; simp only [List.length_append, List.length_cons, Ha.out]; omega
          have hja : a ≤ j := by omega
          rcases List.eq_nil_or_concat P with rfl | ⟨P', z, rfl⟩
          · obtain rfl : a = j := by simpa using hj
            rw [List.nil_append] at hPQ hsat2
            subst hPQ
            have H2 := SL.hid hsat2; have HQ2 := SL.hid hQ
            clear hsat2 hj hlen hQ
            have hnl : ¬ ((a : Int) < (a : Int)) := by omega
            go_wp2_with fail
            go_quiet (fail)
            go_wp2_with fail
            go_roundw
            case rel => exact ⟨x :: Q, R1, by simp; have := Hi.out; omega, by simp, by rw [List.length_cons]; have := Hi.out; omega, (List.perm_middle.symm.trans HP.out), Srt.insert ordE (A := []) HS.out (fun A' z h => absurd h (by simp)) (fun y B' h => ordE.asy _ _ (HQ2.out y B' h)), hside2.drewN nq, by have h9 := Sat.of_heap (w' := wr.drewN nq) H2.out rfl; simpa using h9⟩
            case measure => have := Hi.out; simp [intOf]; omega
          · rw [List.concat_eq_append] at *
            obtain ⟨k, hk⟩ : ∃ k, (X ++ P').length = k := ⟨_, rfl⟩
            have hkj : k + 1 = j := by rw [← hk, ← hj]; simp only [List.length_append, List.length_singleton, Ha.out]; omega
            have e0 : X ++ (P' ++ [z] ++ x :: (Q ++ (R1 ++ Y))) = (X ++ P') ++ z :: x :: (Q ++ (R1 ++ Y)) := by simp
            rw [e0] at hsat2 hlen
            obtain ⟨g, c, e, k1, k2, ⟨c1, c2, c3, c4⟩, -, -, -⟩ := rowE_swp1 hsat2 hk hlen
            simp only [Value.slice.injEq] at e
            obtain ⟨rfl, -, rfl⟩ := e
            rw [hkj] at c3 c4
            have hcmp := cmpE_any x z
            have hcl := cmpE_lt x z
            have hcr := cmpE_range x z
            obtain ⟨cz, hcz⟩ : ∃ c, cmpE x z = c := ⟨_, rfl⟩
            have hcmp2 : ∀ w, Calls Tryz.prog 45 #[.agg #[.int .i64 (x.nd : Int), .string (str x.nm)], .agg #[.int .i64 (z.nd : Int), .string (str z.nm)]] w (fun e w' => e = .returned (.int .i64 cz) ∧ Sat w' (whole w) ∧ Side w w') := fun w => by
              refine (hcmp w).mono ?_
              rintro e w' ⟨rfl, h1, h2⟩
              exact ⟨by rw [hcz], h1, h2⟩
            rw [hcz] at hcl hcr
            have HC := SL.hid hcmp2; have HS2 := SL.hid hsat2; have Hk := SL.hid hk; have HQ2 := SL.hid hQ; have HPQ := SL.hid hPQ; have Hlen := SL.hid hlen; have Hkj := SL.hid hkj; have Hj := SL.hid hj
            have t1 : (a : Int) < (j : Int) := by have := hj; simp only [List.length_append, List.length_singleton] at this; omega
            have t2 : (j : Int) < (N : Int) := by omega
            have t3 : (k : Int) < (N : Int) := by omega
            have t4 : (N : Int) ≤ (vc : Int) := by omega
            have t5 : IntKind.i64.wrap ((j : Int) - 1) = (k : Int) := by rw [IntKind.wrap_i64]; omega
            have hcl2 := SL.hid hcl
            have hgt : decide ((a : Int) < (j : Int)) = true := by simpa using t1
            clear hcmp hcmp2 hcz hsat2 hk hQ hPQ hlen hkj hj k1 e0 hcl
            by_cases hz : cz < 0
            · have hlt : Hid (ltE x z = true) := by show _ = _; rw [← hcl2.out]; exact decide_eq_true hz
              have hzb : decide (cz < 0) = true := decide_eq_true hz
              go_wp2_with fail
              go_region_held3 (fun w' => w'.cell? ⟨g, k * 2, none⟩ = some (.int .i64 (z.nd : Int)) ∧ w'.cell? ⟨g, k * 2 + 1, none⟩ = some (.string (str z.nm)) ∧ w'.cell? ⟨g, j * 2, none⟩ = some (.int .i64 (x.nd : Int)) ∧ w'.cell? ⟨g, j * 2 + 1, none⟩ = some (.string (str x.nm))) (first | exact ⟨c1, c2, c3, c4⟩ | exact kA | go_keep)
                (first | (go_at_call 45; refine (HC.out wr.drew).mono ?_; rintro e w5 ⟨rfl, h5, d5⟩; have H5 := h5.keepW (Sat.drew HS2.out); obtain ⟨g', c', e', -, -, kA', -, -, -⟩ := rowE_swp1 H5 Hk.out Hlen.out; have kA : w5.cell? ⟨g, k * 2, none⟩ = some (.int .i64 (z.nd : Int)) ∧ w5.cell? ⟨g, k * 2 + 1, none⟩ = some (.string (str z.nm)) ∧ w5.cell? ⟨g, j * 2, none⟩ = some (.int .i64 (x.nd : Int)) ∧ w5.cell? ⟨g, j * 2 + 1, none⟩ = some (.string (str x.nm)) := by simp only [Value.slice.injEq, Option.some.injEq, Addr.mk.injEq] at e'; obtain ⟨⟨rfl, -⟩, -⟩ := e'; rwa [Hkj.out] at kA'))
              rename_i hHeld
              have D5 := SL.hid (hside2.drew.trans d5)
              obtain ⟨g', c', e', -, -, ⟨b1, b2, b3, b4⟩, ⟨f1, f2, f3, f4⟩, h7, h8⟩ := rowE_swp1 H5 Hk.out Hlen.out
              simp only [Value.slice.injEq, Option.some.injEq, Addr.mk.injEq] at e'
              obtain ⟨⟨rfl, -⟩, -⟩ := e'
              rw [Hkj.out] at b3 b4 f3 f4 h7 h8
              have H7 := SL.hid h7; have H8 := SL.hid h8
              have t6 : IntKind.i64.wrap (k : Int) = (k : Int) := by rw [IntKind.wrap_i64]; omega
              have t7 : (j : Int) - 1 = (k : Int) := by have := Hkj.out; omega
              clear h7 h8 H5 h5 d5 kA hHeld HC HS2 c1 c2 c3 c4
              go_wp2_with fail
              go_region_law (fail)
              all_goals
                go_wp2
                go_roundw
                case rel => exact ⟨P', z :: Q, by have := Hk.out; rw [List.length_append, Ha.out] at this; rw [this], by rw [← HPQ.out]; simp, fun y B' h => by
                    simp only [List.cons.injEq] at h
                    rw [← h.1]; exact hlt.out, ((((D5.out.setCell _ _).setCell _ _).setCell _ _).setCell _ _).drew, by
                    first
                      | (have h9 := H8.out.drew; simpa using h9)
                      | (have h9 := H7.out.drew; simpa using h9)⟩
                case measure => have := Hkj.out; simp [intOf]; omega
            · have hlt : Hid (ltE x z = false) := by show _ = _; rw [← hcl2.out]; exact decide_eq_false hz
              have hzb : decide (cz < 0) = false := decide_eq_false hz
              go_wp2_with fail
              go_region_held3 (fun w' => w'.cell? ⟨g, k * 2, none⟩ = some (.int .i64 (z.nd : Int)) ∧ w'.cell? ⟨g, k * 2 + 1, none⟩ = some (.string (str z.nm)) ∧ w'.cell? ⟨g, j * 2, none⟩ = some (.int .i64 (x.nd : Int)) ∧ w'.cell? ⟨g, j * 2 + 1, none⟩ = some (.string (str x.nm))) (first | exact ⟨c1, c2, c3, c4⟩ | exact kA | go_keep)
                (first | (go_at_call 45; refine (HC.out wr.drew).mono ?_; rintro e w5 ⟨rfl, h5, d5⟩; have H5 := h5.keepW (Sat.drew HS2.out); obtain ⟨g', c', e', -, -, kA', -, -, -⟩ := rowE_swp1 H5 Hk.out Hlen.out; have kA : w5.cell? ⟨g, k * 2, none⟩ = some (.int .i64 (z.nd : Int)) ∧ w5.cell? ⟨g, k * 2 + 1, none⟩ = some (.string (str z.nm)) ∧ w5.cell? ⟨g, j * 2, none⟩ = some (.int .i64 (x.nd : Int)) ∧ w5.cell? ⟨g, j * 2 + 1, none⟩ = some (.string (str x.nm)) := by simp only [Value.slice.injEq, Option.some.injEq, Addr.mk.injEq] at e'; obtain ⟨⟨rfl, -⟩, -⟩ := e'; rwa [Hkj.out] at kA'))
              rename_i hHeld
              have D5 := SL.hid (hside2.drew.trans d5)
              have HH5 := SL.hid H5
              clear H5 h5 d5 kA hHeld HC HS2 c1 c2 c3 c4
              go_wp2_with fail
              go_roundw
              case rel => exact ⟨(P' ++ [z]) ++ x :: Q, R1, by
                  have h2 : a + ((P' ++ [z]) ++ x :: Q).length = i + 1 := by
                    have h1 := Hi.out
                    rw [← HPQ.out] at h1
                    simp only [List.length_append, List.length_cons, List.length_nil] at h1 ⊢
                    omega
                  rw [h2]; simp, by simp only [List.length_append, List.length_cons]; omega, by
                  have h1 := Hi.out
                  rw [← HPQ.out] at h1
                  simp only [List.length_append, List.length_cons, List.length_nil] at h1 ⊢
                  omega, by
                  have h1 := HP.out
                  rw [← HPQ.out] at h1
                  refine (List.Perm.trans ?_ h1)
                  have e9 : ((P' ++ [z]) ++ x :: Q) ++ R1 = (P' ++ [z]) ++ (x :: (Q ++ R1)) := by simp
                  rw [e9, List.append_assoc (P' ++ [z]) Q]
                  exact List.Perm.append_left _ List.perm_middle.symm, by
                  have h1 := HS.out
                  rw [← HPQ.out] at h1
                  exact Srt.insert ordE h1 (fun A' y h => by
                    have := List.append_inj_right' h rfl
                    simp only [List.cons.injEq] at this
                    rw [← this.1]; exact hlt.out) (fun y B' h => ordE.asy _ _ (HQ2.out y B' h)), D5.out, by have h9 := HH5.out; simpa using h9⟩
              case measure => have := Hi.out; simp [intOf]; omega
end Go.Proofs.YtaoohjeaaccnfaaGreat.Fs

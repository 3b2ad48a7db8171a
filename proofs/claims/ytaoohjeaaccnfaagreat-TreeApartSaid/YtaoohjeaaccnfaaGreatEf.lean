/- slices.SortStableFunc of entries: symMerge where the right side is a single entry. -/
import Derived.Test.YtaoohjeaaccnfaaGreatEe
namespace Go.Proofs.YtaoohjeaaccnfaaGreat.Fs
set_option linter.unusedVariables false
set_option linter.unusedSimpArgs false
open Go.RowKit Go.SL Go.Proofs.YtaoohjeaaccnfaaGreat.Ba
def SyB (x : Value) (L U : List Ent) (v : Ent) (a m : Nat) (w0 : World) (F : Assn) (u14 u15 : Value) (wr : World) : Prop :=
  ∃ (i j : Nat), u14 = .int .i64 (i : Int) ∧ u15 = .int .i64 (j : Int) ∧ a ≤ i ∧ i ≤ j ∧ j ≤ m ∧ (∀ y, a < i → U[i - 1 - a]? = some y → ltE v y = false) ∧ (∀ y, U[j - a]? = some y → ltE v y = true) ∧ Side w0 wr ∧ Sat wr (RowE x L * F)
def SyB2 (x : Value) (X U2 Z : List Ent) (v : Ent) (i : Nat) (w0 : World) (F : Assn) (u17 : Value) (wr : World) : Prop :=
  ∃ (A B : List Ent), u17 = .int .i64 ((i + A.length : Nat) : Int) ∧ A ++ B = U2 ∧ Side w0 wr ∧ Sat wr (RowE x (X ++ (A ++ v :: (B ++ Z))) * F)
set_option maxRecDepth 100000 in
set_option maxHeartbeats 4000000 in
theorem symB_any (x : Value) (X U Y : List Ent) (v : Ent) (a m b : Nat) (ha : X.length = a) (hm : a + U.length = m) (hU2 : 2 ≤ U.length) (hb : m + 1 = b) (hU : Srt ltE U) (w : World) (F : Assn) (hl : (X ++ (U ++ ([v] ++ Y))).length ≤ 4000) (h : Sat w (RowE x (X ++ (U ++ ([v] ++ Y))) * F)) :
    Calls Tryz.prog 117 #[x, .int .i64 (a : Int), .int .i64 (m : Int), .int .i64 (b : Int), cmpF] w (SortedQ x X (U ++ [v]) Y F w) := by
  refine callsQ fun Q' HQ => ?_
  obtain ⟨va, vc, rfl⟩ := sl_shape h
  obtain ⟨L, hL⟩ : ∃ L, X ++ (U ++ ([v] ++ Y)) = L := ⟨_, rfl⟩
  rw [hL] at hl h HQ ⊢
  obtain ⟨N, hN⟩ : ∃ N, L.length = N := ⟨_, rfl⟩
  rw [hN] at hl h HQ ⊢
  have hNs : b + Y.length = N := by rw [← hN, ← hL]; simp only [List.length_append, List.length_singleton]; omega
  have hLm : L[m]? = some v := by rw [← hL, List.getElem?_append_right (by omega), List.getElem?_append_right (by omega), show m - X.length - U.length = 0 by omega]; rfl
  have hLU : ∀ h, a ≤ h → h < m → L[h]? = U[h - a]? := fun h h1 h2 => by
    rw [← hL, List.getElem?_append_right (by omega), List.getElem?_append_left (by omega), ha]
  have g1 : ((m : Int) - (a : Int) == 1) = false := by rw [beq_eq_false_iff_ne]; omega
  have g2 : (b : Int) - (m : Int) = 1 := by omega
  have hN' : (N : Int) ≤ 4000 := by omega
  have hb' : (b : Int) ≤ (N : Int) := by omega
  have ha' : (a : Int) + 2 ≤ (m : Int) := by omega
  have hm' : (m : Int) < (b : Int) := by omega
  have H := SL.hid h; have Ha := SL.hid ha; have Hm := SL.hid hm; have Hb := SL.hid hb; have HNs := SL.hid hNs; have HN := SL.hid hN; have HL := SL.hid hL; have HLm := SL.hid hLm; have HLU := SL.hid hLU; have HU := SL.hid hU
  clear h ha hm hb hNs hN hL hLm hLU hU hU2
  go_enter Tryz.func117, Tryz.ntmps117
  go_wp2_with fail
  go_loopw [14, 15] (fun u14 u15 wr => SyB (.slice va N vc) L U v a m w F u14 u15 wr) (fun u14 u15 _ => (intOf u15).toNat - (intOf u14).toNat)
  case atStart => exact ⟨a, m, rfl, rfl, Nat.le_refl _, by omega, Nat.le_refl _, fun y h1 => absurd h1 (Nat.lt_irrefl _), fun y h1 => by
      have := (List.getElem?_eq_some_iff.1 h1).1; have := Hm.out; omega, Side.refl w, H.out⟩
  case round =>
    obtain ⟨i, j, rfl, rfl, hmi, hij, hjb, hI, hJ, hside, hsat⟩ := hrel
    clear H
    have hj' : (j : Int) ≤ (m : Int) := by omega
    have hi' : (i : Int) ≤ (j : Int) := by omega
    by_cases hlt : i < j
    · have hlt' : (i : Int) < (j : Int) := by omega
      obtain ⟨h, hh⟩ : ∃ h, (i + j) / 2 = h := ⟨_, rfl⟩
      have e1 : (i : Int) + (j : Int) ≤ 8000 := by omega
      have hhe : ((i : Int) + (j : Int)) / 2 = (h : Int) := by omega
      have hh4 : (h : Int) < 4000 := by omega
      have hh1 : (h : Int) < (N : Int) := by omega
      have hhV : h - a < U.length := by have := Hm.out; omega
      obtain ⟨y, hy⟩ : ∃ y, U[h - a]? = some y := ⟨_, List.getElem?_eq_getElem hhV⟩
      have hLh : L[h]? = some y := by rw [HLU.out h (by omega) (by omega)]; exact hy
      obtain ⟨g, c, e, k1, k2, c1, c2, c3, c4⟩ := rowE_two hsat HN.out (by omega : m < N) (by omega : h < N) HLm.out hLh
      simp only [Value.slice.injEq] at e
      obtain ⟨rfl, -, rfl⟩ := e
      obtain ⟨cz, hcz⟩ : ∃ c, cmpE v y = c := ⟨_, rfl⟩
      have HC := SL.hid (fun w => cmpZ_any hcz w)
      have hcl := cmpE_lt v y
      rw [hcz] at hcl
      have Hcl := SL.hid hcl
      have HLh := SL.hid hLh; have Hy := SL.hid hy; have HI := SL.hid hI; have HJ := SL.hid hJ; have HS := SL.hid hsat
      have k1' : (N : Int) ≤ (vc : Int) := by omega
      have hha : (m : Int) < (N : Int) := by omega
      clear hcz hcl hLh hy hI hJ hsat k1
      by_cases hz : cz < 0
      · have hly : Hid (ltE v y = true) := by show _ = _; rw [← Hcl.out]; exact decide_eq_true hz
        have hzb : decide (cz < 0) = true := decide_eq_true hz
        go_wp2_with fail
        go_region_held3 (fun w' => w'.cell? ⟨g, m * 2, none⟩ = some (.int .i64 (v.nd : Int)) ∧ w'.cell? ⟨g, m * 2 + 1, none⟩ = some (.string (str v.nm)) ∧ w'.cell? ⟨g, h * 2, none⟩ = some (.int .i64 (y.nd : Int)) ∧ w'.cell? ⟨g, h * 2 + 1, none⟩ = some (.string (str y.nm))) (first | exact ⟨c1, c2, c3, c4⟩ | exact kA | go_keep)
          (first | (go_at_call 45; refine (HC.out wr.drew).mono ?_; rintro e w5 ⟨rfl, h5, d5⟩; have H5 := h5.keepW (Sat.drew HS.out); obtain ⟨g', c', e', -, -, kA'⟩ := rowE_two H5 HN.out (by omega : m < N) (by omega : h < N) HLm.out HLh.out; have kA : w5.cell? ⟨g, m * 2, none⟩ = some (.int .i64 (v.nd : Int)) ∧ w5.cell? ⟨g, m * 2 + 1, none⟩ = some (.string (str v.nm)) ∧ w5.cell? ⟨g, h * 2, none⟩ = some (.int .i64 (y.nd : Int)) ∧ w5.cell? ⟨g, h * 2 + 1, none⟩ = some (.string (str y.nm)) := by simp only [Value.slice.injEq, Option.some.injEq, Addr.mk.injEq] at e'; obtain ⟨⟨rfl, -⟩, -⟩ := e'; exact kA'))
        rename_i hHeld
        have D5 := SL.hid (hside.drew.trans d5)
        have HH5 := SL.hid H5
        clear H5 h5 d5 kA hHeld HC HS c1 c2 c3 c4
        go_wp2_with fail
        go_roundw
        case rel => exact ⟨i, h, rfl, rfl, hmi, by omega, by omega, HI.out, fun y2 h2 => by
            rw [Hy.out] at h2
            rw [← Option.some.inj h2]; exact hly.out, D5.out, HH5.out⟩
        case measure => simp [intOf]; omega
      · have hly : Hid (ltE v y = false) := by show _ = _; rw [← Hcl.out]; exact decide_eq_false hz
        have hzb : decide (cz < 0) = false := decide_eq_false hz
        go_wp2_with fail
        go_region_held3 (fun w' => w'.cell? ⟨g, m * 2, none⟩ = some (.int .i64 (v.nd : Int)) ∧ w'.cell? ⟨g, m * 2 + 1, none⟩ = some (.string (str v.nm)) ∧ w'.cell? ⟨g, h * 2, none⟩ = some (.int .i64 (y.nd : Int)) ∧ w'.cell? ⟨g, h * 2 + 1, none⟩ = some (.string (str y.nm))) (first | exact ⟨c1, c2, c3, c4⟩ | exact kA | go_keep)
          (first | (go_at_call 45; refine (HC.out wr.drew).mono ?_; rintro e w5 ⟨rfl, h5, d5⟩; have H5 := h5.keepW (Sat.drew HS.out); obtain ⟨g', c', e', -, -, kA'⟩ := rowE_two H5 HN.out (by omega : m < N) (by omega : h < N) HLm.out HLh.out; have kA : w5.cell? ⟨g, m * 2, none⟩ = some (.int .i64 (v.nd : Int)) ∧ w5.cell? ⟨g, m * 2 + 1, none⟩ = some (.string (str v.nm)) ∧ w5.cell? ⟨g, h * 2, none⟩ = some (.int .i64 (y.nd : Int)) ∧ w5.cell? ⟨g, h * 2 + 1, none⟩ = some (.string (str y.nm)) := by simp only [Value.slice.injEq, Option.some.injEq, Addr.mk.injEq] at e'; obtain ⟨⟨rfl, -⟩, -⟩ := e'; exact kA'))
        rename_i hHeld
        have D5 := SL.hid (hside.drew.trans d5)
        have HH5 := SL.hid H5
        clear H5 h5 d5 kA hHeld HC HS c1 c2 c3 c4
        go_wp2_with fail
        go_roundw
        case rel => exact ⟨h + 1, j, by simp, rfl, by omega, by omega, hjb, fun y2 _ h2 => by
            rw [Nat.add_sub_cancel, Hy.out] at h2
            rw [← Option.some.inj h2]; exact hly.out, HJ.out, D5.out, HH5.out⟩
        case measure => simp [intOf]; omega
    · obtain rfl : i = j := by omega
      have hnl : ¬ ((i : Int) < (i : Int)) := by omega
      obtain ⟨U1, hU1⟩ : ∃ l, U.take (i - a) = l := ⟨_, rfl⟩
      obtain ⟨U2, hU2⟩ : ∃ l, U.drop (i - a) = l := ⟨_, rfl⟩
      have hVV : U1 ++ U2 = U := by rw [← hU1, ← hU2]; exact List.take_append_drop _ _
      have hl1 : U1.length = i - a := by rw [← hU1, List.length_take]; have := Hm.out; omega
      have hsrt : Hid (Srt ltE (U1 ++ v :: U2)) := by
        refine Srt.insert ordE (by rw [hVV]; exact HU.out) (fun A' z e => ?_) fun y B' e => ?_
        · rw [← hU1] at e
          obtain ⟨h1, h2⟩ := take_lastE e (by have := Hm.out; omega)
          exact hI z (by omega) (by rw [show i - 1 - a = i - a - 1 by omega]; exact h2)
        · rw [← hU2] at e
          exact ordE.asy _ _ (hJ y (drop_headE e))
      obtain ⟨X1, hX1⟩ : ∃ X1, X ++ U1 = X1 := ⟨_, rfl⟩
      have hX1l : X1.length = i := by rw [← hX1, List.length_append, Ha.out, hl1]; omega
      have him : i + U2.length = m := by
        have h1 := Hm.out
        rw [← hVV, List.length_append, hl1] at h1; omega
      have hst : SyB2 (.slice va N vc) X1 U2 Y v i w F (.int .i64 (m : Int)) wr := ⟨U2, [], by rw [him], List.append_nil _, hside, by
        have e : L = X1 ++ (U2 ++ v :: ([] ++ Y)) := by rw [← HL.out, ← hVV, ← hX1]; simp
        rw [← e]; exact hsat⟩
      have Hst := SL.hid hst; have HVV := SL.hid hVV; have HX1 := SL.hid hX1; have HX1l := SL.hid hX1l
      have hmN : (m : Int) < (N : Int) := by omega
      clear hst hsat hI hJ hU1 hU2 hVV hl1 hX1 hX1l him
      go_wp2_with fail
      go_loopw [17] (fun u17 wr => SyB2 (.slice va N vc) X1 U2 Y v i w F u17 wr) (fun u17 _ => (intOf u17).toNat)
      case atStart => exact Hst.out
      case round =>
        clear Hst
        obtain ⟨A, B, rfl, hAB, hside2, hsat2⟩ := hrel
        obtain ⟨k, hk⟩ : ∃ k, i + A.length = k := ⟨_, rfl⟩
        rw [hk]
        have hlen : (X1 ++ (A ++ v :: (B ++ Y))).length = N := by
          rw [← HN.out, ← HL.out, ← HVV.out, ← HX1.out, ← hAB]; simp; omega
        have hkN : k < N := by rw [← hlen]; simp [HX1l.out]; omega
        rcases List.eq_nil_or_concat A with rfl | ⟨A', z, rfl⟩
        · have hkq : i = k := by simpa using hk
          subst hkq
          have H2 := SL.hid hsat2; have HAB := SL.hid hAB
          clear hsat2 hAB hk hlen
          go_wp2_with fail
          exact bodyPost_ret (results_none rfl _ _ _) rfl <| HQ.out _ _ ⟨U1 ++ v :: U2, rfl, by
            rw [← HVV.out, List.append_assoc]
            exact List.Perm.append_left _ (List.perm_append_singleton v U2).symm, hsrt.out, hside2, by have h9 := H2.out; have e9 := HAB.out; simp at e9; rw [e9, ← HX1.out] at h9; simpa using h9⟩
        · rw [List.concat_eq_append] at *
          obtain ⟨k', hk'⟩ : ∃ k', i + A'.length = k' := ⟨_, rfl⟩
          have hkk : k' + 1 = k := by rw [← hk, ← hk', List.length_append, List.length_singleton]; omega
          have e0 : X1 ++ (A' ++ [z] ++ v :: (B ++ Y)) = (X1 ++ A') ++ z :: v :: (B ++ Y) := by simp
          rw [e0] at hsat2 hlen
          obtain ⟨g, c, e, k1, k2, ⟨c1, c2, c3, c4⟩, ⟨f1, f2, f3, f4⟩, h7, h8⟩ := rowE_swp1 hsat2 (show (X1 ++ A').length = k' by rw [List.length_append, HX1l.out, hk']) hlen
          simp only [Value.slice.injEq] at e
          obtain ⟨rfl, -, rfl⟩ := e
          rw [hkk] at c3 c4 f3 f4 h7 h8
          have H7 := SL.hid h7; have H8 := SL.hid h8; have HAB := SL.hid hAB; have Hk' := SL.hid hk'; have Hkk := SL.hid hkk
          have t1 : (i : Int) < (k : Int) := by omega
          have t2 : IntKind.i64.wrap ((k : Int) - 1) = (k' : Int) := by rw [IntKind.wrap_i64]; omega
          have t3 : (k' : Int) < (N : Int) := by omega
          have t4 : (N : Int) ≤ (vc : Int) := by omega
          have t5 : (k : Int) < (N : Int) := by omega
          have t6 : (k : Int) < 4000 := by omega
          have t7 : k' < k := by omega
          clear h7 h8 hsat2 hAB hlen e0 hk k1 hk' hkk
          go_wp2_with fail
          go_region_law (fail)
          all_goals
            go_wp2
            go_roundw
            case rel => exact ⟨A', z :: B, by first | (rw [Hk'.out]) | (rw [Hk'.out]; have := Hkk.out; congr 1; omega), by rw [← HAB.out]; simp, ((((hside2.setCell _ _).setCell _ _).setCell _ _).setCell _ _).drew, by
                first
                  | (have h9 := H8.out.drew; simpa using h9)
                  | (have h9 := H7.out.drew; simpa using h9)⟩
            case measure => have := Hkk.out; simp [intOf]; omega
end Go.Proofs.YtaoohjeaaccnfaaGreat.Fs

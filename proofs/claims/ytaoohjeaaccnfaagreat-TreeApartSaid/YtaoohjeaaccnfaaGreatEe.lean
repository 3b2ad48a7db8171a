/- slices.SortStableFunc of entries: symMerge where one side is a single entry. -/
import Derived.Test.YtaoohjeaaccnfaaGreatEd
namespace Go.SL
set_option linter.unusedVariables false
set_option linter.unusedSimpArgs false
open Go.RowKit
theorem take_lastE {α : Type} {V A' : List α} {z : α} {k : Nat} (h : V.take k = A' ++ [z]) (hk : k ≤ V.length) : 1 ≤ k ∧ V[k - 1]? = some z := by
  have hl := congrArg List.length h
  rw [List.length_take, List.length_append, List.length_singleton] at hl
  have h1 : A'.length = k - 1 := by omega
  refine ⟨by omega, ?_⟩
  have h2 := congrArg (fun l => l[k - 1]?) h
  rw [List.getElem?_take, if_pos (by omega), List.getElem?_append_right (by omega), h1, Nat.sub_self] at h2
  exact h2
theorem drop_headE {α : Type} {V B' : List α} {y : α} {k : Nat} (h : V.drop k = y :: B') : V[k]? = some y := by
  have h2 := congrArg (fun l => l[0]?) h
  simpa using h2
end Go.SL
namespace Go.Proofs.YtaoohjeaaccnfaaGreat.Fs
set_option linter.unusedVariables false
set_option linter.unusedSimpArgs false
open Go.RowKit Go.SL Go.Proofs.YtaoohjeaaccnfaaGreat.Ba
theorem rowE_two {w : World} {v : Value} {L : List Ent} {F : Assn} {x y : Ent} {i j N : Nat} (h : Sat w (RowE v L * F)) (hN : L.length = N) (hi : i < N) (hj : j < N) (hx : L[i]? = some x) (hy : L[j]? = some y) : ∃ g c, v = .slice (some ⟨g, 0, none⟩) N c ∧ N ≤ c ∧ (c : Int) ≤ 9223372036854775807 ∧
    (w.cell? ⟨g, i * 2, none⟩ = some (.int .i64 (x.nd : Int)) ∧ w.cell? ⟨g, i * 2 + 1, none⟩ = some (.string (str x.nm)) ∧ w.cell? ⟨g, j * 2, none⟩ = some (.int .i64 (y.nd : Int)) ∧ w.cell? ⟨g, j * 2 + 1, none⟩ = some (.string (str y.nm))) := by
  subst hN
  obtain ⟨g, c, rfl, e1, e2, k1, k2⟩ := rowE_get h hi hx
  obtain ⟨g', c', e, e3, e4, -, -⟩ := rowE_get h hj hy
  simp only [Value.slice.injEq, Option.some.injEq, Addr.mk.injEq] at e
  obtain ⟨⟨rfl, -⟩, -⟩ := e
  exact ⟨g, c, rfl, k1, k2, e1, e2, e3, e4⟩
def CmpZ (z : Int) (w : World) (e : Ending) (w' : World) : Prop := e = .returned (.int .i64 z) ∧ Sat w' (whole w) ∧ Side w w'
theorem cmpZ_any {x y : Ent} {z : Int} (hz : cmpE x y = z) (w : World) : Calls Tryz.prog 45 #[.agg #[.int .i64 (x.nd : Int), .string (str x.nm)], .agg #[.int .i64 (y.nd : Int), .string (str y.nm)]] w (CmpZ z w) := by
  subst hz
  exact cmpE_any x y w
def SyA (v : Value) (L V : List Ent) (u : Ent) (m b : Nat) (w0 : World) (F : Assn) (u10 u11 : Value) (wr : World) : Prop :=
  ∃ (i j : Nat), u10 = .int .i64 (i : Int) ∧ u11 = .int .i64 (j : Int) ∧ m ≤ i ∧ i ≤ j ∧ j ≤ b ∧ (∀ y, m < i → V[i - 1 - m]? = some y → ltE y u = true) ∧ (∀ y, V[j - m]? = some y → ltE y u = false) ∧ Side w0 wr ∧ Sat wr (RowE v L * F)
def SyA2 (v : Value) (X V1 Z : List Ent) (u : Ent) (a : Nat) (w0 : World) (F : Assn) (u13 : Value) (wr : World) : Prop :=
  ∃ (A B : List Ent), u13 = .int .i64 ((a + A.length : Nat) : Int) ∧ A ++ B = V1 ∧ Side w0 wr ∧ Sat wr (RowE v (X ++ (A ++ u :: (B ++ Z))) * F)
set_option maxRecDepth 100000 in
set_option maxHeartbeats 4000000 in
theorem symA_any (v : Value) (X V Y : List Ent) (u : Ent) (a m b : Nat) (ha : X.length = a) (hm : a + 1 = m) (hb : m + V.length = b) (hV : Srt ltE V) (w : World) (F : Assn) (hl : (X ++ ([u] ++ (V ++ Y))).length ≤ 4000) (h : Sat w (RowE v (X ++ ([u] ++ (V ++ Y))) * F)) :
    Calls Tryz.prog 117 #[v, .int .i64 (a : Int), .int .i64 (m : Int), .int .i64 (b : Int), cmpF] w (SortedQ v X ([u] ++ V) Y F w) := by
  refine callsQ fun Q' HQ => ?_
  obtain ⟨va, vc, rfl⟩ := sl_shape h
  obtain ⟨L, hL⟩ : ∃ L, X ++ ([u] ++ (V ++ Y)) = L := ⟨_, rfl⟩
  rw [hL] at hl h HQ ⊢
  obtain ⟨N, hN⟩ : ∃ N, L.length = N := ⟨_, rfl⟩
  rw [hN] at hl h HQ ⊢
  have hNs : b + Y.length = N := by rw [← hN, ← hL]; simp only [List.length_append, List.length_singleton]; omega
  have hLa : L[a]? = some u := by rw [← hL, List.getElem?_append_right (by omega), ha, Nat.sub_self]; rfl
  have hLV : ∀ h, m ≤ h → h < b → L[h]? = V[h - m]? := fun h h1 h2 => by
    rw [← hL, List.getElem?_append_right (by omega), List.getElem?_append_right (by rw [List.length_singleton]; omega), List.getElem?_append_left (by rw [List.length_singleton]; omega)]
    congr 1; rw [List.length_singleton]; omega
  have g1 : (m : Int) - (a : Int) = 1 := by omega
  have hN' : (N : Int) ≤ 4000 := by omega
  have hb' : (b : Int) ≤ (N : Int) := by omega
  have ha' : (a : Int) < (m : Int) := by omega
  have hm' : (m : Int) ≤ (b : Int) := by omega
  have H := SL.hid h; have Ha := SL.hid ha; have Hm := SL.hid hm; have Hb := SL.hid hb; have HNs := SL.hid hNs; have HN := SL.hid hN; have HL := SL.hid hL; have HLa := SL.hid hLa; have HLV := SL.hid hLV; have HV := SL.hid hV
  clear h ha hm hb hNs hN hL hLa hLV hV
  go_enter Tryz.func117, Tryz.ntmps117
  go_wp2_with fail
  go_loopw [10, 11] (fun u10 u11 wr => SyA (.slice va N vc) L V u m b w F u10 u11 wr) (fun u10 u11 _ => (intOf u11).toNat - (intOf u10).toNat)
  case atStart => exact ⟨m, b, rfl, rfl, Nat.le_refl _, by omega, Nat.le_refl _, fun y h1 => absurd h1 (Nat.lt_irrefl _), fun y h1 => by
      have := (List.getElem?_eq_some_iff.1 h1).1; have := Hb.out; omega, Side.refl w, H.out⟩
  case round =>
    obtain ⟨i, j, rfl, rfl, hmi, hij, hjb, hI, hJ, hside, hsat⟩ := hrel
    clear H
    have hj' : (j : Int) ≤ (b : Int) := by omega
    have hi' : (i : Int) ≤ (j : Int) := by omega
    by_cases hlt : i < j
    · have hlt' : (i : Int) < (j : Int) := by omega
      obtain ⟨h, hh⟩ : ∃ h, (i + j) / 2 = h := ⟨_, rfl⟩
      have e1 : (i : Int) + (j : Int) ≤ 8000 := by omega
      have hhe : ((i : Int) + (j : Int)) / 2 = (h : Int) := by omega
      have hh4 : (h : Int) < 4000 := by omega
      have hh1 : (h : Int) < (N : Int) := by omega
      have hhV : h - m < V.length := by have := Hb.out; omega
      obtain ⟨y, hy⟩ : ∃ y, V[h - m]? = some y := ⟨_, List.getElem?_eq_getElem hhV⟩
      have hLh : L[h]? = some y := by rw [HLV.out h (by omega) (by omega)]; exact hy
      obtain ⟨g, c, e, k1, k2, c1, c2, c3, c4⟩ := rowE_two hsat HN.out (by omega : h < N) (by omega : a < N) hLh HLa.out
      simp only [Value.slice.injEq] at e
      obtain ⟨rfl, -, rfl⟩ := e
      obtain ⟨cz, hcz⟩ : ∃ c, cmpE y u = c := ⟨_, rfl⟩
      have HC := SL.hid (fun w => cmpZ_any hcz w)
      have hcl := cmpE_lt y u
      rw [hcz] at hcl
      have Hcl := SL.hid hcl
      have HLh := SL.hid hLh; have Hy := SL.hid hy; have HI := SL.hid hI; have HJ := SL.hid hJ; have HS := SL.hid hsat
      have k1' : (N : Int) ≤ (vc : Int) := by omega
      have hha : (a : Int) < (N : Int) := by omega
      clear hcz hcl hLh hy hI hJ hsat k1
      by_cases hz : cz < 0
      · have hly : Hid (ltE y u = true) := by show _ = _; rw [← Hcl.out]; exact decide_eq_true hz
        have hzb : decide (cz < 0) = true := decide_eq_true hz
        go_wp2_with fail
        go_region_held3 (fun w' => w'.cell? ⟨g, h * 2, none⟩ = some (.int .i64 (y.nd : Int)) ∧ w'.cell? ⟨g, h * 2 + 1, none⟩ = some (.string (str y.nm)) ∧ w'.cell? ⟨g, a * 2, none⟩ = some (.int .i64 (u.nd : Int)) ∧ w'.cell? ⟨g, a * 2 + 1, none⟩ = some (.string (str u.nm))) (first | exact ⟨c1, c2, c3, c4⟩ | exact kA | go_keep)
          (first | (go_at_call 45; refine (HC.out wr.drew).mono ?_; rintro e w5 ⟨rfl, h5, d5⟩; have H5 := h5.keepW (Sat.drew HS.out); obtain ⟨g', c', e', -, -, kA'⟩ := rowE_two H5 HN.out (by omega : h < N) (by omega : a < N) HLh.out HLa.out; have kA : w5.cell? ⟨g, h * 2, none⟩ = some (.int .i64 (y.nd : Int)) ∧ w5.cell? ⟨g, h * 2 + 1, none⟩ = some (.string (str y.nm)) ∧ w5.cell? ⟨g, a * 2, none⟩ = some (.int .i64 (u.nd : Int)) ∧ w5.cell? ⟨g, a * 2 + 1, none⟩ = some (.string (str u.nm)) := by simp only [Value.slice.injEq, Option.some.injEq, Addr.mk.injEq] at e'; obtain ⟨⟨rfl, -⟩, -⟩ := e'; exact kA'))
        rename_i hHeld
        have D5 := SL.hid (hside.drew.trans d5)
        have HH5 := SL.hid H5
        clear H5 h5 d5 kA hHeld HC HS c1 c2 c3 c4
        go_wp2_with fail
        go_roundw
        case rel => exact ⟨h + 1, j, by simp, rfl, by omega, by omega, hjb, fun y2 _ h2 => by
            rw [Nat.add_sub_cancel, Hy.out] at h2
            rw [← Option.some.inj h2]; exact hly.out, HJ.out, D5.out, HH5.out⟩
        case measure => simp [intOf]; omega
      · have hly : Hid (ltE y u = false) := by show _ = _; rw [← Hcl.out]; exact decide_eq_false hz
        have hzb : decide (cz < 0) = false := decide_eq_false hz
        go_wp2_with fail
        go_region_held3 (fun w' => w'.cell? ⟨g, h * 2, none⟩ = some (.int .i64 (y.nd : Int)) ∧ w'.cell? ⟨g, h * 2 + 1, none⟩ = some (.string (str y.nm)) ∧ w'.cell? ⟨g, a * 2, none⟩ = some (.int .i64 (u.nd : Int)) ∧ w'.cell? ⟨g, a * 2 + 1, none⟩ = some (.string (str u.nm))) (first | exact ⟨c1, c2, c3, c4⟩ | exact kA | go_keep)
          (first | (go_at_call 45; refine (HC.out wr.drew).mono ?_; rintro e w5 ⟨rfl, h5, d5⟩; have H5 := h5.keepW (Sat.drew HS.out); obtain ⟨g', c', e', -, -, kA'⟩ := rowE_two H5 HN.out (by omega : h < N) (by omega : a < N) HLh.out HLa.out; have kA : w5.cell? ⟨g, h * 2, none⟩ = some (.int .i64 (y.nd : Int)) ∧ w5.cell? ⟨g, h * 2 + 1, none⟩ = some (.string (str y.nm)) ∧ w5.cell? ⟨g, a * 2, none⟩ = some (.int .i64 (u.nd : Int)) ∧ w5.cell? ⟨g, a * 2 + 1, none⟩ = some (.string (str u.nm)) := by simp only [Value.slice.injEq, Option.some.injEq, Addr.mk.injEq] at e'; obtain ⟨⟨rfl, -⟩, -⟩ := e'; exact kA'))
        rename_i hHeld
        have D5 := SL.hid (hside.drew.trans d5)
        have HH5 := SL.hid H5
        clear H5 h5 d5 kA hHeld HC HS c1 c2 c3 c4
        go_wp2_with fail
        go_roundw
        case rel => exact ⟨i, h, rfl, rfl, hmi, by omega, by omega, HI.out, fun y2 h2 => by
            rw [Hy.out] at h2
            rw [← Option.some.inj h2]; exact hly.out, D5.out, HH5.out⟩
        case measure => simp [intOf]; omega
    · obtain rfl : i = j := by omega
      have hnl : ¬ ((i : Int) < (i : Int)) := by omega
      obtain ⟨V1, hV1⟩ : ∃ l, V.take (i - m) = l := ⟨_, rfl⟩
      obtain ⟨V2, hV2⟩ : ∃ l, V.drop (i - m) = l := ⟨_, rfl⟩
      have hVV : V1 ++ V2 = V := by rw [← hV1, ← hV2]; exact List.take_append_drop _ _
      have hl1 : V1.length = i - m := by rw [← hV1, List.length_take]; have := Hb.out; omega
      have hsrt : Hid (Srt ltE (V1 ++ u :: V2)) := by
        refine Srt.insert ordE (by rw [hVV]; exact HV.out) (fun A' z e => ?_) fun y B' e => ?_
        · rw [← hV1] at e
          obtain ⟨h1, h2⟩ := take_lastE e (by have := Hb.out; omega)
          exact ordE.asy _ _ (hI z (by omega) (by rw [show i - 1 - m = i - m - 1 by omega]; exact h2))
        · rw [← hV2] at e
          exact hJ y (drop_headE e)
      have hst : SyA2 (.slice va N vc) X V1 (V2 ++ Y) u a w F (.int .i64 (a : Int)) wr := ⟨[], V1, by simp, rfl, hside, by
        have e : L = X ++ ([] ++ u :: (V1 ++ (V2 ++ Y))) := by rw [← HL.out, ← hVV]; simp
        rw [← e]; exact hsat⟩
      have Hst := SL.hid hst; have HVV := SL.hid hVV
      have e1 : (i : Int) - 1 = ((a + V1.length : Nat) : Int) := by have := Hm.out; omega
      obtain ⟨q, hq⟩ : ∃ q, a + V1.length = q := ⟨_, rfl⟩
      rw [hq] at e1
      have hqN : (q : Int) < (N : Int) := by omega
      have Hq := SL.hid hq
      clear hst hsat hI hJ hV1 hV2 hVV hl1 hq
      go_wp2_with fail
      go_loopw [13] (fun u13 wr => SyA2 (.slice va N vc) X V1 (V2 ++ Y) u a w F u13 wr) (fun u13 _ => q - (intOf u13).toNat)
      case atStart => exact Hst.out
      case round =>
        clear Hst
        obtain ⟨A, B, rfl, hAB, hside2, hsat2⟩ := hrel
        obtain ⟨k, hk⟩ : ∃ k, a + A.length = k := ⟨_, rfl⟩
        rw [hk]
        cases B with
        | nil =>
          have hkq : k = q := by rw [← hk, ← Hq.out, ← hAB]; simp
          subst hkq
          have H2 := SL.hid hsat2; have HAB := SL.hid hAB
          clear hsat2 hAB hk
          go_wp2_with fail
          exact bodyPost_ret (results_none rfl _ _ _) rfl <| HQ.out _ _ ⟨V1 ++ u :: V2, rfl, by rw [← HVV.out]; exact List.perm_middle, hsrt.out, hside2, by have h9 := H2.out; have e9 := HAB.out; simp at e9; rw [e9] at h9; simpa using h9⟩
        | cons z B' =>
          have hkq : k < q := by rw [← hk, ← Hq.out, ← hAB]; simp
          have hlen : (X ++ (A ++ u :: (z :: B' ++ (V2 ++ Y)))).length = N := by
            rw [← HN.out, ← HL.out, ← HVV.out, ← hAB]; simp; omega
          have e0 : X ++ (A ++ u :: (z :: B' ++ (V2 ++ Y))) = (X ++ A) ++ u :: z :: (B' ++ (V2 ++ Y)) := by simp
          rw [e0] at hsat2 hlen
          obtain ⟨g, c, e, k1, k2, ⟨c1, c2, c3, c4⟩, ⟨f1, f2, f3, f4⟩, h7, h8⟩ := rowE_swp1 hsat2 (show (X ++ A).length = k by rw [List.length_append, Ha.out, hk]) hlen
          simp only [Value.slice.injEq] at e
          obtain ⟨rfl, -, rfl⟩ := e
          obtain ⟨k', hk'⟩ : ∃ k', k + 1 = k' := ⟨_, rfl⟩
          rw [hk'] at c3 c4 f3 f4 h7 h8
          have H7 := SL.hid h7; have H8 := SL.hid h8; have HAB := SL.hid hAB; have Hk := SL.hid hk; have Hk' := SL.hid hk'
          have t1 : (k : Int) < (q : Int) := by omega
          have t2 : IntKind.i64.wrap ((k : Int) + 1) = (k' : Int) := by rw [IntKind.wrap_i64]; omega
          have t3 : (k' : Int) < (N : Int) := by omega
          have t4 : (N : Int) ≤ (vc : Int) := by omega
          have t5 : (k : Int) < (N : Int) := by omega
          have t6 : (k : Int) < 4000 := by omega
          have t7 : k < k' := by omega
          clear h7 h8 hsat2 hAB hlen e0 hk k1 hk'
          go_wp2_with fail
          go_region_law (fail)
          all_goals
            go_wp2
            go_roundw
            case rel => exact ⟨A ++ [z], B', by rw [List.length_append, List.length_singleton, ← Nat.add_assoc, Hk.out]; first | (rw [Hk'.out]) | simp, by rw [← HAB.out]; simp, ((((hside2.setCell _ _).setCell _ _).setCell _ _).setCell _ _).drew, by
                first
                  | (have h9 := H7.out.drew; simpa using h9)
                  | (have h9 := H8.out.drew; simpa using h9)⟩
            case measure => simp [intOf]; omega
end Go.Proofs.YtaoohjeaaccnfaaGreat.Fs

/- slices.SortStableFunc of entries: symMerge. -/
import Derived.Test.YtaoohjeaaccnfaaGreatEf
namespace Go.Proofs.YtaoohjeaaccnfaaGreat.Fs
set_option linter.unusedVariables false
set_option linter.unusedSimpArgs false
open Go.RowKit Go.SL Go.Proofs.YtaoohjeaaccnfaaGreat.Ba
/-- What symMerge does to fewer than n entries. -/
def SymOk (n : Nat) : Prop := ∀ (v : Value) (X U V Y : List Ent) (a m b : Nat), X.length = a → a + U.length = m → m + V.length = b → 1 ≤ U.length → 1 ≤ V.length → U.length + V.length < n → Srt ltE U → Srt ltE V → ∀ (w : World) (F : Assn), (X ++ (U ++ (V ++ Y))).length ≤ 4000 → Sat w (RowE v (X ++ (U ++ (V ++ Y))) * F) →
    Calls Tryz.prog 117 #[v, .int .i64 (a : Int), .int .i64 (m : Int), .int .i64 (b : Int), cmpF] w (SortedQ v X (U ++ V) Y F w)
/-- Where the search begins. -/
def SyS (a m b n : Nat) (w0 : World) (u20 u21 : Value) (wx : World) : Prop :=
  ∃ s0 r0 : Nat, u20 = .int .i64 (s0 : Int) ∧ u21 = .int .i64 (r0 : Int) ∧ a ≤ s0 ∧ s0 ≤ r0 ∧ r0 ≤ m ∧ n ≤ b + s0 ∧ m + r0 ≤ n ∧ (s0 = a ∨ b + s0 = n) ∧ (r0 = m ∨ m + r0 = n) ∧ w0 = wx
def SyC (v : Value) (L U V : List Ent) (a m n s0 r0 : Nat) (w0 : World) (F : Assn) (u20 u21 : Value) (wr : World) : Prop :=
  ∃ (s r : Nat), u20 = .int .i64 (s : Int) ∧ u21 = .int .i64 (r : Int) ∧ s0 ≤ s ∧ s ≤ r ∧ r ≤ r0 ∧ (∀ x y, s0 < s → U[s - 1 - a]? = some x → V[n - s - m]? = some y → ltE y x = false) ∧ (∀ x y, r < r0 → U[r - a]? = some x → V[n - 1 - r - m]? = some y → ltE y x = true) ∧ Side w0 wr ∧ Sat wr (RowE v L * F)
def SyR (v : Value) (L : List Ent) (w0 : World) (F : Assn) (wr : World) : Prop := Sat wr (RowE v L * F) ∧ Side w0 wr
def SyW (v : Value) (X A Z : List Ent) (w0 : World) (F : Assn) (wr : World) : Prop := ∃ W1 : List Ent, W1.Perm A ∧ Srt ltE W1 ∧ Sat wr (RowE v (X ++ (W1 ++ Z)) * F) ∧ Side w0 wr
set_option maxRecDepth 100000 in
set_option maxHeartbeats 8000000 in
theorem symC_any (n0 : Nat) (IH : SymOk n0) (v : Value) (X U V Y : List Ent) (a m b : Nat) (ha : X.length = a) (hm : a + U.length = m) (hb : m + V.length = b) (hU2 : 2 ≤ U.length) (hV2 : 2 ≤ V.length) (hn0 : U.length + V.length ≤ n0) (hU : Srt ltE U) (hV : Srt ltE V) (w : World) (F : Assn) (hl : (X ++ (U ++ (V ++ Y))).length ≤ 4000) (h : Sat w (RowE v (X ++ (U ++ (V ++ Y))) * F)) :
    Calls Tryz.prog 117 #[v, .int .i64 (a : Int), .int .i64 (m : Int), .int .i64 (b : Int), cmpF] w (SortedQ v X (U ++ V) Y F w) := by
  refine callsQ fun Q' HQ => ?_
  obtain ⟨va, vc, rfl⟩ := sl_shape h
  obtain ⟨L, hL⟩ : ∃ L, X ++ (U ++ (V ++ Y)) = L := ⟨_, rfl⟩
  rw [hL] at hl h HQ ⊢
  obtain ⟨N, hN⟩ : ∃ N, L.length = N := ⟨_, rfl⟩
  rw [hN] at hl h HQ ⊢
  have hNs : b + Y.length = N := by rw [← hN, ← hL]; simp only [List.length_append]; omega
  have hLU : ∀ h, a ≤ h → h < m → L[h]? = U[h - a]? := fun h h1 h2 => by
    rw [← hL, List.getElem?_append_right (by omega), List.getElem?_append_left (by omega), ha]
  have hLV : ∀ h, m ≤ h → h < b → L[h]? = V[h - m]? := fun h h1 h2 => by
    rw [← hL, List.getElem?_append_right (by omega), List.getElem?_append_right (by omega), List.getElem?_append_left (by omega)]
    congr 1; omega
  have g1 : ((m : Int) - (a : Int) == 1) = false := by rw [beq_eq_false_iff_ne]; omega
  have g2 : ((b : Int) - (m : Int) == 1) = false := by rw [beq_eq_false_iff_ne]; omega
  have hN' : (N : Int) ≤ 4000 := by omega
  have hb' : (b : Int) ≤ (N : Int) := by omega
  have ha' : (a : Int) + 2 ≤ (m : Int) := by omega
  have hm' : (m : Int) + 2 ≤ (b : Int) := by omega
  obtain ⟨mid, hmid⟩ : ∃ mid, (a + b) / 2 = mid := ⟨_, rfl⟩
  obtain ⟨n, hn⟩ : ∃ n, mid + m = n := ⟨_, rfl⟩
  have q1 : ((a : Int) + (b : Int)) / 2 = (mid : Int) := by omega
  have q2 : (mid : Int) + (m : Int) = (n : Int) := by omega
  have q3 : (a : Int) + (b : Int) ≤ 8000 := by omega
  have q4 : (n : Int) ≤ 8000 := by omega
  have H := SL.hid h; have Ha := SL.hid ha; have Hm := SL.hid hm; have Hb := SL.hid hb; have HNs := SL.hid hNs; have HN := SL.hid hN; have HL := SL.hid hL; have HLU := SL.hid hLU; have HLV := SL.hid hLV; have HU := SL.hid hU; have HV := SL.hid hV; have HIH := SL.hid IH
  have Hn0 := SL.hid hn0
  clear h ha hm hb hNs hN hL hLU hLV hU hV IH hn0 hU2 hV2
  go_enter Tryz.func117, Tryz.ntmps117
  go_upto_if 140 with (fail)
  generalize hcb : decide (mid < m) = cb
  go_cut [20, 21] from 141 to 146 (fun u20 u21 wx => SyS a m b n w u20 u21 wx)
  case first =>
    cases cb with
    | true =>
      have hc0 : mid < m := of_decide_eq_true hcb
      have hc : (mid : Int) < (m : Int) := by omega
      obtain ⟨s0, hs0⟩ : ∃ s0, n - b = s0 := ⟨_, rfl⟩
      have e1 : (n : Int) - (b : Int) = (s0 : Int) := by omega
      go_wp2_with fail
      go_meet
      exact ⟨s0, mid, rfl, rfl, by omega, by omega, by omega, by omega, by omega, .inr (by omega), .inr (by omega), rfl⟩
    | false =>
      have hc0 : ¬ mid < m := of_decide_eq_false hcb
      have hc : ¬ (mid : Int) < (m : Int) := by omega
      go_wp2_with fail
      go_meet
      exact ⟨a, m, rfl, rfl, by omega, by omega, by omega, by omega, by omega, .inl rfl, .inl rfl, rfl⟩
  case rest =>
    obtain ⟨s0, r0, rfl, rfl, z1, z2, z3, z4, z5, z6, z7, rfl⟩ := hcut
    have z1' : (a : Int) ≤ (s0 : Int) := by omega
    have z3' : (r0 : Int) ≤ (m : Int) := by omega
    have z2' : (s0 : Int) ≤ (r0 : Int) := by omega
    obtain ⟨p, hp⟩ : ∃ p, n - 1 = p := ⟨_, rfl⟩
    have q5 : (n : Int) - 1 = (p : Int) := by omega
    go_wp2_with fail
    go_loopw [20, 21] (fun u20 u21 wr => SyC (.slice va N vc) L U V a m n s0 r0 w F u20 u21 wr) (fun u20 u21 _ => (intOf u21).toNat - (intOf u20).toNat)
    case atStart => exact ⟨s0, r0, rfl, rfl, Nat.le_refl _, z2, Nat.le_refl _, fun x y h => absurd h (Nat.lt_irrefl _), fun x y h => absurd h (Nat.lt_irrefl _), Side.refl w, H.out⟩
    case round =>
      obtain ⟨s, r, rfl, rfl, hs0, hsr, hr0, hI, hJ, hside, hsat⟩ := hrel
      clear H
      have hs' : (s : Int) ≤ (r : Int) := by omega
      have hr' : (r : Int) ≤ (m : Int) := by omega
      by_cases hlt : s < r
      · have hlt' : (s : Int) < (r : Int) := by omega
        obtain ⟨c, hc⟩ : ∃ c, (s + r) / 2 = c := ⟨_, rfl⟩
        have e1 : (s : Int) + (r : Int) ≤ 8000 := by omega
        have e2 : ((s : Int) + (r : Int)) / 2 = (c : Int) := by omega
        have e3 : (c : Int) < (N : Int) := by omega
        obtain ⟨pc, hpc⟩ : ∃ pc, p - c = pc := ⟨_, rfl⟩
        have e4 : IntKind.i64.wrap ((p : Int) - (c : Int)) = (pc : Int) := by rw [IntKind.wrap_i64]; omega
        have e5 : (pc : Int) < (N : Int) := by omega
        have hcU : c - a < U.length := by have := Hm.out; omega
        have hcV : pc - m < V.length := by have := Hb.out; omega
        obtain ⟨x, hx⟩ : ∃ x, U[c - a]? = some x := ⟨_, List.getElem?_eq_getElem hcU⟩
        obtain ⟨y, hy⟩ : ∃ y, V[pc - m]? = some y := ⟨_, List.getElem?_eq_getElem hcV⟩
        have hLc : L[c]? = some x := by rw [HLU.out c (by omega) (by omega)]; exact hx
        have hLp : L[pc]? = some y := by rw [HLV.out pc (by omega) (by omega)]; exact hy
        obtain ⟨g, cc, e, k1, k2, c1, c2, c3, c4⟩ := rowE_two hsat HN.out (by omega : pc < N) (by omega : c < N) hLp hLc
        simp only [Value.slice.injEq] at e
        obtain ⟨rfl, -, rfl⟩ := e
        obtain ⟨cz, hcz⟩ : ∃ c, cmpE y x = c := ⟨_, rfl⟩
        have HC := SL.hid (fun w => cmpZ_any hcz w)
        have hcl := cmpE_lt y x
        rw [hcz] at hcl
        have Hcl := SL.hid hcl
        have HLc := SL.hid hLc; have HLp := SL.hid hLp; have Hx := SL.hid hx; have Hy := SL.hid hy; have HI := SL.hid hI; have HJ := SL.hid hJ; have HS := SL.hid hsat
        have k1' : (N : Int) ≤ (vc : Int) := by omega
        have e6 : (c : Int) < 4000 := by omega
        clear hcz hcl hLc hLp hx hy hI hJ hsat k1
        by_cases hz : cz < 0
        · have hly : Hid (ltE y x = true) := by show _ = _; rw [← Hcl.out]; exact decide_eq_true hz
          have hzb : decide (cz < 0) = true := decide_eq_true hz
          go_wp2_with fail
          go_region_held3 (fun w' => w'.cell? ⟨g, pc * 2, none⟩ = some (.int .i64 (y.nd : Int)) ∧ w'.cell? ⟨g, pc * 2 + 1, none⟩ = some (.string (str y.nm)) ∧ w'.cell? ⟨g, c * 2, none⟩ = some (.int .i64 (x.nd : Int)) ∧ w'.cell? ⟨g, c * 2 + 1, none⟩ = some (.string (str x.nm))) (first | exact ⟨c1, c2, c3, c4⟩ | exact kA | go_keep)
            (first | (go_at_call 45; refine (HC.out wr.drew).mono ?_; rintro e w5 ⟨rfl, h5, d5⟩; have H5 := h5.keepW (Sat.drew HS.out); obtain ⟨g', c', e', -, -, kA'⟩ := rowE_two H5 HN.out (by omega : pc < N) (by omega : c < N) HLp.out HLc.out; have kA : w5.cell? ⟨g, pc * 2, none⟩ = some (.int .i64 (y.nd : Int)) ∧ w5.cell? ⟨g, pc * 2 + 1, none⟩ = some (.string (str y.nm)) ∧ w5.cell? ⟨g, c * 2, none⟩ = some (.int .i64 (x.nd : Int)) ∧ w5.cell? ⟨g, c * 2 + 1, none⟩ = some (.string (str x.nm)) := by simp only [Value.slice.injEq, Option.some.injEq, Addr.mk.injEq] at e'; obtain ⟨⟨rfl, -⟩, -⟩ := e'; exact kA'))
          rename_i hHeld
          have D5 := SL.hid (hside.drew.trans d5)
          have HH5 := SL.hid H5
          clear H5 h5 d5 kA hHeld HC HS c1 c2 c3 c4
          go_wp2_with fail
          go_roundw
          case rel => exact ⟨s, c, rfl, rfl, hs0, by omega, by omega, HI.out, fun x2 y2 _ h2 h3 => by
              rw [Hx.out] at h2
              rw [show n - 1 - c - m = pc - m by omega, Hy.out] at h3
              rw [← Option.some.inj h2, ← Option.some.inj h3]; exact hly.out, D5.out, HH5.out⟩
          case measure => simp [intOf]; omega
        · have hly : Hid (ltE y x = false) := by show _ = _; rw [← Hcl.out]; exact decide_eq_false hz
          have hzb : decide (cz < 0) = false := decide_eq_false hz
          go_wp2_with fail
          go_region_held3 (fun w' => w'.cell? ⟨g, pc * 2, none⟩ = some (.int .i64 (y.nd : Int)) ∧ w'.cell? ⟨g, pc * 2 + 1, none⟩ = some (.string (str y.nm)) ∧ w'.cell? ⟨g, c * 2, none⟩ = some (.int .i64 (x.nd : Int)) ∧ w'.cell? ⟨g, c * 2 + 1, none⟩ = some (.string (str x.nm))) (first | exact ⟨c1, c2, c3, c4⟩ | exact kA | go_keep)
            (first | (go_at_call 45; refine (HC.out wr.drew).mono ?_; rintro e w5 ⟨rfl, h5, d5⟩; have H5 := h5.keepW (Sat.drew HS.out); obtain ⟨g', c', e', -, -, kA'⟩ := rowE_two H5 HN.out (by omega : pc < N) (by omega : c < N) HLp.out HLc.out; have kA : w5.cell? ⟨g, pc * 2, none⟩ = some (.int .i64 (y.nd : Int)) ∧ w5.cell? ⟨g, pc * 2 + 1, none⟩ = some (.string (str y.nm)) ∧ w5.cell? ⟨g, c * 2, none⟩ = some (.int .i64 (x.nd : Int)) ∧ w5.cell? ⟨g, c * 2 + 1, none⟩ = some (.string (str x.nm)) := by simp only [Value.slice.injEq, Option.some.injEq, Addr.mk.injEq] at e'; obtain ⟨⟨rfl, -⟩, -⟩ := e'; exact kA'))
          rename_i hHeld
          have D5 := SL.hid (hside.drew.trans d5)
          have HH5 := SL.hid H5
          clear H5 h5 d5 kA hHeld HC HS c1 c2 c3 c4
          go_wp2_with fail
          go_roundw
          case rel => exact ⟨c + 1, r, by simp, rfl, by omega, by omega, hr0, fun x2 y2 _ h2 h3 => by
              rw [Nat.add_sub_cancel, Hx.out] at h2
              rw [show n - (c + 1) - m = pc - m by omega, Hy.out] at h3
              rw [← Option.some.inj h2, ← Option.some.inj h3]; exact hly.out, HJ.out, D5.out, HH5.out⟩
          case measure => simp [intOf]; omega
      · obtain rfl : s = r := by omega
        have hnl : ¬ ((s : Int) < (s : Int)) := by omega
        obtain ⟨e, he⟩ : ∃ e, n - s = e := ⟨_, rfl⟩
        have e1 : (n : Int) - (s : Int) = (e : Int) := by omega
        obtain ⟨U1, hU1⟩ : ∃ l, U.take (s - a) = l := ⟨_, rfl⟩
        obtain ⟨U2, hU2⟩ : ∃ l, U.drop (s - a) = l := ⟨_, rfl⟩
        obtain ⟨V1, hV1⟩ : ∃ l, V.take (e - m) = l := ⟨_, rfl⟩
        obtain ⟨V2, hV2⟩ : ∃ l, V.drop (e - m) = l := ⟨_, rfl⟩
        have hUU : U1 ++ U2 = U := by rw [← hU1, ← hU2]; exact List.take_append_drop _ _
        have hVV : V1 ++ V2 = V := by rw [← hV1, ← hV2]; exact List.take_append_drop _ _
        have lU1 : a + U1.length = s := by rw [← hU1, List.length_take]; have := Hm.out; omega
        have lU2 : s + U2.length = m := by rw [← hU2, List.length_drop]; have := Hm.out; omega
        have lV1 : m + V1.length = e := by rw [← hV1, List.length_take]; have := Hb.out; omega
        have lV2 : e + V2.length = b := by rw [← hV2, List.length_drop]; have := Hb.out; omega
        have hF1 : ∀ A' z y B', U1 = A' ++ [z] → V2 = y :: B' → ltE y z = false := fun A' z y B' e3 e4 => by
          rw [← hU1] at e3
          rw [← hV2] at e4
          obtain ⟨h1, h2⟩ := take_lastE e3 (by have := Hm.out; omega)
          have h3 := drop_headE e4
          have h4 := (List.getElem?_eq_some_iff.1 h3).1
          exact hI z y (by have := Hb.out; omega) (by rw [show s - 1 - a = s - a - 1 by omega]; exact h2) (by rw [he]; exact h3)
        have hF2 : ∀ A' z y B', V1 = A' ++ [z] → U2 = y :: B' → ltE z y = true := fun A' z y B' e3 e4 => by
          rw [← hV1] at e3
          rw [← hU2] at e4
          obtain ⟨h1, h2⟩ := take_lastE e3 (by have := Hb.out; omega)
          have h3 := drop_headE e4
          have h4 := (List.getElem?_eq_some_iff.1 h3).1
          exact hJ y z (by have := Hm.out; omega) h3 (by rw [show n - 1 - s - m = e - m - 1 by omega]; exact h2)
        have hLL : L = X ++ (U1 ++ (U2 ++ (V1 ++ (V2 ++ Y)))) := by rw [← HL.out, ← hUU, ← hVV]; simp
        have hLn : X.length + (U1.length + (V1.length + (U2.length + (V2.length + Y.length)))) = N := by rw [← HN.out, hLL]; simp only [List.length_append]; omega
        have hes : (s : Int) + (e : Int) = (mid : Int) + (m : Int) := by omega
        have hem : (m : Int) ≤ (e : Int) := by omega
        have heb : (e : Int) ≤ (b : Int) := by omega
        have hsa : (a : Int) ≤ (s : Int) := by omega
        have hms : mid + m = s + e := by omega
        have HS := SL.hid hsat; have HLL := SL.hid hLL; have HF1 := SL.hid hF1; have HF2 := SL.hid hF2; have HUU := SL.hid hUU; have HVV := SL.hid hVV; have L1 := SL.hid lU1; have L2 := SL.hid lU2; have L3 := SL.hid lV1; have L4 := SL.hid lV2; have HLn := SL.hid hLn
        have hmida : (a : Int) < (mid : Int) := by omega
        have hmidb : (mid : Int) < (b : Int) := by omega
        clear hsat hLL hF1 hF2 hUU hVV lU1 lU2 lV1 lV2 hU1 hU2 hV1 hV2 hI hJ hs0 hr0 z6 z7 hLn
        obtain ⟨cr, hcr⟩ : ∃ c, c = (decide (s < m) && decide (m < e)) := ⟨_, rfl⟩
        go_upto_region 39 with (fail)
        go_cut [185] from 178 to 185 (fun u wx => u = .bool cr ∧ wr = wx)
        case first =>
          by_cases x1 : s < m
          · have x1' : ((s : Int) < (m : Int)) := by omega
            by_cases x2 : m < e
            · have x2' : ((m : Int) < (e : Int)) := by omega
              go_wp2_with fail
              go_meet
              exact ⟨by rw [hcr, decide_eq_true x1, decide_eq_true x2]; first | rfl | simp, rfl⟩
            · have x2' : ¬ ((m : Int) < (e : Int)) := by omega
              go_wp2_with fail
              go_meet
              exact ⟨by rw [hcr, decide_eq_false x2, Bool.and_false], rfl⟩
          · have x1' : ¬ ((s : Int) < (m : Int)) := by omega
            go_wp2_with fail
            go_meet
            exact ⟨by rw [hcr, decide_eq_false x1, Bool.false_and], rfl⟩
        case rest =>
          obtain ⟨rfl, rfl⟩ := hcut
          have hrot : SyR (.slice va N vc) (X ++ (U1 ++ (V1 ++ (U2 ++ (V2 ++ Y))))) w F wr ∨ cr = true := by
            by_cases x1 : s < m
            · by_cases x2 : m < e
              · exact .inr (by rw [hcr, decide_eq_true x1, decide_eq_true x2]; rfl)
              · have hv : V1 = [] := List.eq_nil_of_length_eq_zero (by have := L3.out; omega)
                refine .inl ⟨?_, hside⟩
                have h9 := HS.out
                rw [HLL.out, hv] at h9
                rw [hv]; exact h9
            · have hu : U2 = [] := List.eq_nil_of_length_eq_zero (by have := L2.out; omega)
              refine .inl ⟨?_, hside⟩
              have h9 := HS.out
              rw [HLL.out, hu] at h9
              rw [hu]; exact h9
          have Hrot := SL.hid hrot; have Hcr := SL.hid hcr
          clear hrot hcr
          go_upto_if 185 with (fail)
          go_cut [] from 186 to 191 (fun wx => SyR (.slice va N vc) (X ++ (U1 ++ (V1 ++ (U2 ++ (V2 ++ Y))))) w F wx)
          case first =>
            cases cr with
            | true =>
              have hx := Hcr.out.symm
              rw [Bool.and_eq_true, decide_eq_true_eq, decide_eq_true_eq] at hx
              obtain ⟨x1, x2⟩ := hx
              have hro := rotate_any (.slice va N vc) (X ++ U1) U2 V1 (V2 ++ Y) s m e (by rw [List.length_append, Ha.out]; exact L1.out) L2.out L3.out (by have := L2.out; omega) (by have := L3.out; omega) wr F (by
                simp only [List.length_append]; have := HLn.out; omega) (by
                have h9 := HS.out
                rw [HLL.out] at h9
                simpa using h9)
              have Hro := SL.hid hro
              clear hro x1 x2
              go_wp2_with fail
              refine Hro.out.mono ?_
              rintro r w6 ⟨rfl, d6, h6⟩
              have H6 := SL.hid h6
              clear h6 Hro
              go_wp2_with fail
              go_meet
              exact ⟨by have h9 := H6.out; simpa using h9, hside.trans d6⟩
            | false =>
              have hR : SyR (.slice va N vc) (X ++ (U1 ++ (V1 ++ (U2 ++ (V2 ++ Y))))) w F wr := Hrot.out.resolve_right (by decide)
              have HR := SL.hid hR
              clear hR
              go_wp2_with fail
              go_meet
              exact HR.out
          case rest =>
            obtain ⟨hs6, hd6⟩ := hcut
            have H6 := SL.hid hs6
            clear hs6 HS Hrot hside
            obtain ⟨c1, hc1⟩ : ∃ c, c = (decide (a < s) && decide (s < mid)) := ⟨_, rfl⟩
            go_upto_region 41 with (fail)
            go_cut [199] from 192 to 199 (fun u wx => u = .bool c1 ∧ wc = wx)
            case first =>
              by_cases x1 : a < s
              · have x1' : ((a : Int) < (s : Int)) := by omega
                by_cases x2 : s < mid
                · have x2' : ((s : Int) < (mid : Int)) := by omega
                  go_wp2_with fail
                  go_meet
                  exact ⟨by rw [hc1, decide_eq_true x1, decide_eq_true x2]; first | rfl | simp, rfl⟩
                · have x2' : ¬ ((s : Int) < (mid : Int)) := by omega
                  go_wp2_with fail
                  go_meet
                  exact ⟨by rw [hc1, decide_eq_false x2, Bool.and_false], rfl⟩
              · have x1' : ¬ ((a : Int) < (s : Int)) := by omega
                go_wp2_with fail
                go_meet
                exact ⟨by rw [hc1, decide_eq_false x1, Bool.false_and], rfl⟩
            case rest =>
              obtain ⟨rfl, rfl⟩ := hcut
              have h1 : SyW (.slice va N vc) X (U1 ++ V1) (U2 ++ (V2 ++ Y)) w F wc ∨ c1 = true := by
                by_cases x1 : a < s
                · by_cases x2 : s < mid
                  · exact .inr (by rw [hc1, decide_eq_true x1, decide_eq_true x2]; rfl)
                  · have hv : V1 = [] := List.eq_nil_of_length_eq_zero (by have := L3.out; omega)
                    refine .inl ⟨U1, by rw [hv, List.append_nil], by have h9 := HU.out; rw [← HUU.out] at h9; exact (Srt.app.1 h9).1, ?_, hd6⟩
                    have h9 := H6.out
                    rw [hv, List.nil_append] at h9; exact h9
                · have hu : U1 = [] := List.eq_nil_of_length_eq_zero (by have := L1.out; omega)
                  refine .inl ⟨V1, by rw [hu, List.nil_append], by have h9 := HV.out; rw [← HVV.out] at h9; exact (Srt.app.1 h9).1, ?_, hd6⟩
                  have h9 := H6.out
                  rw [hu, List.nil_append] at h9; exact h9
              have H1 := SL.hid h1; have Hc1 := SL.hid hc1
              clear h1 hc1
              go_upto_if 199 with (fail)
              go_cut [] from 200 to 205 (fun wx => SyW (.slice va N vc) X (U1 ++ V1) (U2 ++ (V2 ++ Y)) w F wx)
              case first =>
                cases c1 with
                | true =>
                  have hx := Hc1.out.symm
                  rw [Bool.and_eq_true, decide_eq_true_eq, decide_eq_true_eq] at hx
                  obtain ⟨x1, x2⟩ := hx
                  have hro := HIH.out (.slice va N vc) X U1 V1 (U2 ++ (V2 ++ Y)) a s mid Ha.out L1.out (by have := L3.out; omega) (by have := L1.out; omega) (by have := L3.out; omega) (by have := L1.out; have := L3.out; have := Hn0.out; have := Hm.out; have := Hb.out; omega) (by have h9 := HU.out; rw [← HUU.out] at h9; exact (Srt.app.1 h9).1) (by have h9 := HV.out; rw [← HVV.out] at h9; exact (Srt.app.1 h9).1) wc F (by
                    simp only [List.length_append]; have := HLn.out; omega) H6.out
                  have Hro := SL.hid hro
                  clear hro x1 x2
                  go_wp2_with fail
                  refine Hro.out.mono ?_
                  rintro r w7 ⟨W1, rfl, p7, s7, d7, h7⟩
                  have H7 := SL.hid h7; have P7 := SL.hid p7; have S7 := SL.hid s7
                  clear h7 Hro p7 s7
                  go_wp2_with fail
                  go_meet
                  exact ⟨W1, P7.out, S7.out, H7.out, hd6.trans d7⟩
                | false =>
                  have hR := H1.out.resolve_right (by decide)
                  have HR := SL.hid hR
                  clear hR
                  go_wp2_with fail
                  go_meet
                  exact HR.out
              case rest =>
                obtain ⟨W1, p7, s7, hs7, hd7⟩ := hcut
                have H7 := SL.hid hs7; have P7 := SL.hid p7; have S7 := SL.hid s7
                have lW1 : X.length + W1.length = mid := by have := p7.length_eq; rw [List.length_append] at this; have := Ha.out; have := L1.out; have := L3.out; omega
                have LW1 := SL.hid lW1
                have hfin : ∀ W2 : List Ent, W2.Perm (U2 ++ V2) → Srt ltE W2 → (W1 ++ W2).Perm (U ++ V) ∧ Srt ltE (W1 ++ W2) := fun W2 p2 s2 => by
                  refine ⟨?_, Srt.halves ordE (U1 := U1) (U2 := U2) (V1 := V1) (V2 := V2) (by rw [HUU.out]; exact HU.out) (by rw [HVV.out]; exact HV.out) HF1.out HF2.out S7.out s2 P7.out p2⟩
                  have e1 := P7.out.append p2
                  refine e1.trans ?_
                  rw [← HUU.out, ← HVV.out]
                  have e2 : (U1 ++ V1) ++ (U2 ++ V2) = U1 ++ ((V1 ++ U2) ++ V2) := by simp
                  have e3 : (U1 ++ U2) ++ (V1 ++ V2) = U1 ++ ((U2 ++ V1) ++ V2) := by simp
                  rw [e2, e3]
                  exact (List.perm_append_comm.append_right V2).append_left U1
                have Hfin := SL.hid hfin
                clear hs7 p7 s7 lW1 hfin H6 H1 hd6
                by_cases x1 : mid < e
                · have x1' : (mid : Int) < (e : Int) := by omega
                  by_cases x2 : e < b
                  · have x2' : (e : Int) < (b : Int) := by omega
                    have hro := HIH.out (.slice va N vc) (X ++ W1) U2 V2 Y mid e b (by rw [List.length_append]; exact LW1.out) (by have := L2.out; omega) L4.out (by have := L2.out; omega) (by have := L4.out; omega) (by have := L2.out; have := L4.out; have := Hn0.out; have := Hm.out; have := Hb.out; omega) (by have h9 := HU.out; rw [← HUU.out] at h9; exact (Srt.app.1 h9).2.1) (by have h9 := HV.out; rw [← HVV.out] at h9; exact (Srt.app.1 h9).2.1) wc F (by
                      simp only [List.length_append]; have := HLn.out; have := P7.out.length_eq; rw [List.length_append] at this; omega) (by have h9 := H7.out; simpa using h9)
                    have Hro := SL.hid hro
                    clear hro
                    go_wp2_with fail
                    refine Hro.out.mono ?_
                    rintro r w8 ⟨W2, rfl, p8, s8, d8, h8⟩
                    have H8 := SL.hid h8
                    have HP8 := SL.hid (Hfin.out W2 p8 s8)
                    clear h8 Hro p8 s8
                    go_wp2_with fail
                    go_end0
                    exact HQ.out _ _ ⟨W1 ++ W2, rfl, HP8.out.1, HP8.out.2, hd7.trans d8, by have h9 := H8.out; simpa using h9⟩
                  · have x2' : ¬ (e : Int) < (b : Int) := by omega
                    have hv : V2 = [] := List.eq_nil_of_length_eq_zero (by have := L4.out; omega)
                    have HP8 := SL.hid (Hfin.out U2 (by rw [hv, List.append_nil]) (by have h9 := HU.out; rw [← HUU.out] at h9; exact (Srt.app.1 h9).2.1))
                    have H8 : Hid (Sat wc (RowE (.slice va N vc) (X ++ ((W1 ++ U2) ++ Y)) * F)) := SL.hid (by have h9 := H7.out; rw [hv] at h9; simpa using h9)
                    clear hv
                    go_wp2_with fail
                    go_end0
                    exact HQ.out _ _ ⟨W1 ++ U2, rfl, HP8.out.1, HP8.out.2, hd7, H8.out⟩
                · have x1' : ¬ (mid : Int) < (e : Int) := by omega
                  have hv : U2 = [] := List.eq_nil_of_length_eq_zero (by have := L2.out; omega)
                  have HP8 := SL.hid (Hfin.out V2 (by rw [hv, List.nil_append]) (by have h9 := HV.out; rw [← HVV.out] at h9; exact (Srt.app.1 h9).2.1))
                  have H8 : Hid (Sat wc (RowE (.slice va N vc) (X ++ ((W1 ++ V2) ++ Y)) * F)) := SL.hid (by have h9 := H7.out; rw [hv] at h9; simpa using h9)
                  clear hv
                  go_wp2_with fail
                  go_end0
                  exact HQ.out _ _ ⟨W1 ++ V2, rfl, HP8.out.1, HP8.out.2, hd7, H8.out⟩
end Go.Proofs.YtaoohjeaaccnfaaGreat.Fs

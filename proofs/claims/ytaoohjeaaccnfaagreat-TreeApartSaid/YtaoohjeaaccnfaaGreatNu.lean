/- TreeSpace: the walk. -/
import Derived.Test.YtaoohjeaaccnfaaGreatNt
import Derived.Test.YtaoohjeaaccnfaaGreatEi
namespace Go.SL
set_option linter.unusedVariables false
set_option linter.unusedSimpArgs false
open Go.RowKit
/-- The entries of the first numbers, all of one node. -/
def sE (t : Nat) : List Ent := (List.range t).map fun k => ⟨2, nmb k⟩
theorem sE_length (t : Nat) : (sE t).length = t := by simp [sE]
theorem sE_succ (t : Nat) : sE (t + 1) = sE t ++ [⟨2, nmb t⟩] := by simp [sE, List.range_succ]
theorem sE_no {t k : Nat} (h : t ≤ k) (hk : k < 676) : plc (sE t) (nmb k) = none := plc_no fun e he h2 => by
  obtain ⟨j, hj, rfl⟩ := List.mem_map.1 he
  have := List.mem_range.1 hj
  have := nmb_inj (by omega) hk h2
  omega
theorem sE_nd {t : Nat} (h : t ≤ 676) : ((sE t).map Ent.nm).Nodup := by
  unfold sE
  rw [List.map_map, List.nodup_iff_pairwise_ne, List.pairwise_iff_getElem]
  intro i j hi hj hij h2
  simp only [List.getElem_map, List.getElem_range, Function.comp] at h2
  have hi' : i < t := by simpa using hi
  have hj' : j < t := by simpa using hj
  have := nmb_inj (by omega) (by omega) h2
  omega
/-- How many names a root of so many blocks may have. -/
def roomT (B : Nat) : Nat := if 16 < B - 2 then max 240 (15 * (B - 3)) else 15 * (B - 2)
theorem roomT_iff {B i : Nat} (h4 : 4 ≤ B) (hB : B ≤ 30) (hi : i ≤ 201) : needD (i + 1) ≤ B - 1 ↔ i < roomT B := by
  unfold needD roomT
  split <;> split <;> omega
end Go.SL
namespace Go.Proofs.YtaoohjeaaccnfaaGreat.Fs
set_option linter.unusedVariables false
set_option linter.unusedSimpArgs false
open Go.RowKit Go.SL Go.Proofs.YtaoohjeaaccnfaaGreat.Ba
theorem more_any (t : Nat) (ht : t ≤ 201) (w : World) : Calls Tryz.prog 17 #[.int .i64 (t : Int)] w (IntIs 0 w) := by
  refine callsQ fun Q HQ => ?_
  have ht' : ¬ (240 : Int) < (t : Int) := by omega
  go_enter Tryz.func17, Tryz.ntmps17
  go_wp2_with fail
  exact HQ.out _ _ ⟨rfl, rfl⟩
section
variable {n : Nat} {x : Fx n} {b : Nat} {L : List Ent} {w : World} {F : Assn}
def TList (x : Fx n) (b : Nat) (L : List Ent) (F : Assn) (w : World) (e : Ending) (w' : World) : Prop :=
  ∃ (u : Value) (W : List Ent), e = .returned (.tuple #[u, .int .i64 0]) ∧ W.Perm L ∧ Srt ltE W ∧ Side w w' ∧ Sat w' (RowE u W * (dS x b L * F))
theorem tList_any (h : Sat w (dS x b L * F)) (hn : (L.map Ent.nm).Nodup) : Calls Tryz.prog 16 #[spV b n, .int .i64 1] w (TList x b L F w) := by
  obtain ⟨⟨h0, h1, h2⟩, h3⟩ := dS_open h
  refine (listT_any (id := 1) h3 (tA_1 L) h0 h1 hn).mono ?_
  rintro e w' ⟨u, W, he, p, s, d, hs⟩
  exact ⟨u, W, he, p, s, d, (dS_shut h0 h1 h2 hs.front2).front2⟩
end
def SpcRel (B : Nat) (x : Fx B) (b sc N : Nat) (w : World) (u8 : Value) (wr : World) : Prop :=
  ∃ i : Nat, i ≤ N ∧ u8 = .int .i64 (i : Int) ∧ Side w wr ∧ Sat wr (dS x b (sE (min i (roomT B))) * (pt sc (spO b B) * whole w))
set_option maxRecDepth 100000 in
set_option maxHeartbeats 4000000 in
theorem space18_any {p1 p2 : Prop} (z1 z2 : Int) (w : World) (hw1 : p1) (hw2 : p2) :
    Calls Tryz.prog 5 #[.int .i64 z1, .int .i64 z2] w (LawQ w) := by
  refine callsQ fun Q HQ => ?_
  have hm := shown18_any w
  have a1 := and16 z1
  have a2 := and16 z2
  obtain ⟨q, hq⟩ : ∃ q : Nat, z1 % 65536 % 27 = (q : Int) := ⟨(z1 % 65536 % 27).toNat, by omega⟩
  obtain ⟨N, hN⟩ : ∃ N : Nat, z2 % 65536 % 201 = (N : Int) := ⟨(z2 % 65536 % 201).toNat, by omega⟩
  have t1 : (z1 % 65536).tmod 27 = (q : Int) := by rw [Int.tmod_eq_emod_of_nonneg (by omega), hq]
  have t2 : (z2 % 65536).tmod 201 = (N : Int) := by rw [Int.tmod_eq_emod_of_nonneg (by omega), hN]
  have q26 : q ≤ 26 := by omega
  have N200 : N ≤ 200 := by omega
  obtain ⟨B, hB⟩ : ∃ B, 4 + q = B := ⟨_, rfl⟩
  have eB : 4 + (q : Int) = (B : Int) := by omega
  have B4 : 4 ≤ B := by omega
  have B30 : B ≤ 30 := by omega
  have B4' : (4 : Int) ≤ (B : Int) := by omega
  have B30' : (B : Int) ≤ 30 := by omega
  have N200' : (N : Int) ≤ 200 := by omega
  clear hq hN hw1 hw2 hB q26
  go_enter Tryz.func5, Tryz.ntmps5
  go_wp2_with fail
  refine hm.mono ?_
  rintro e w1 ⟨rfl, h1, d1⟩
  clear hm
  have hsp := SL.hid (space_any B B4 (by omega) _ w1 h1)
  go_wp2_with fail
  refine hsp.out.mono ?_
  rintro e w2 ⟨x, b, rfl, d2, h2⟩
  clear hsp h1
  have h3 := (dS_made h2 B4).alloc (.cells #[.pointer (some ⟨b, 0, none⟩), .int .i64 (B : Int)] 26 (0, 0))
  have D := SL.hid ((d1.trans d2).alloc (.cells #[.pointer (some ⟨b, 0, none⟩), .int .i64 (B : Int)] 26 (0, 0)))
  have hk0 : (w2.alloc (.cells #[.pointer (some ⟨b, 0, none⟩), .int .i64 (B : Int)] 26 (0, 0))).cell? ⟨w2.heap.size, 0, none⟩ = some (.pointer (some ⟨b, 0, none⟩)) := h3.cell 0
  have H := SL.hid (h3.to (by ac_rfl : _ = dS x b [] * (pt w2.heap.size (spO b B) * whole w)))
  clear h3 h2 d1 d2
  obtain ⟨R, hR⟩ : ∃ R, roomT B = R := ⟨_, rfl⟩
  have HR := SL.hid hR
  obtain ⟨p2, hp2⟩ : ∃ p, B - 2 = p := ⟨_, rfl⟩
  obtain ⟨p3, hp3⟩ : ∃ p, B - 3 = p := ⟨_, rfl⟩
  have e2 : (B : Int) - 2 = (p2 : Int) := by omega
  have e3 : (B : Int) - 3 = (p3 : Int) := by omega
  have p2' : (p2 : Int) ≤ 30 := by omega
  have p3' : (p3 : Int) ≤ 30 := by omega
  have Hp2 := SL.hid hp2; have Hp3 := SL.hid hp3
  unfold spV
  clear hR hp2 hp3
  go_upto_region 7 with (fail)
  generalize (w2.alloc (.cells #[.pointer (some ⟨b, 0, none⟩), .int .i64 (B : Int)] 26 (0, 0))) = w3 at *
  generalize w2.heap.size = sc at *
  go_upto_if 32 with (fail)
  go_cut [7] from 33 to 36 (fun u7 wx => u7 = .int .i64 (R : Int) ∧ w3 = wx)
  case first =>
    by_cases h16 : 16 < p2
    · have h16' : (16 : Int) < (p2 : Int) := by omega
      have hRe : Hid ((R : Int) = max 240 (15 * (p3 : Int))) := by
        show (R : Int) = _
        have h9 := HR.out
        unfold roomT at h9
        rw [Hp2.out, Hp3.out, if_pos h16] at h9
        omega
      go_wp2_with fail
      go_meet
      exact ⟨by rw [hRe.out], rfl⟩
    · have h16' : ¬ (16 : Int) < (p2 : Int) := by omega
      have hRe : Hid ((R : Int) = (15 * (p2 : Int))) := by
        show (R : Int) = _
        have h9 := HR.out
        unfold roomT at h9
        rw [Hp2.out, Hp3.out, if_neg h16] at h9
        omega
      go_wp2_with fail
      go_meet
      exact ⟨by rw [hRe.out], rfl⟩
  case rest =>
    obtain ⟨rfl, rfl⟩ := hcut
    clear hk0
    go_wp2_with fail
    go_loopw [8] (fun u8 wr => SpcRel B x b sc N w u8 wr) (fun u8 _ => N - (intOf u8).toNat)
    case atStart => exact ⟨0, Nat.zero_le _, rfl, D.out, by rw [Nat.zero_min]; exact H.out⟩
    case round =>
      obtain ⟨k, hk, rfl, hside, hsat⟩ := hrel
      rw [HR.out] at hsat
      clear H D
      have cA : wr.cell? ⟨sc, 0, none⟩ = some (.pointer (some ⟨b, 0, none⟩)) := hsat.front2.cell 0
      have cB : wr.cell? ⟨sc, 1, none⟩ = some (.int .i64 (B : Int)) := hsat.front2.cell 1
      by_cases hlt : k < N
      · have hlt' : (k : Int) < (N : Int) := by omega
        have hA := hsat.alloc (.cells #[.int .u8 (97 + (k : Int) % 26), .int .u8 (97 + (k : Int) / 26)] 5 (0, 0))
        have dA := SL.hid (hside.alloc (.cells #[.int .u8 (97 + (k : Int) % 26), .int .u8 (97 + (k : Int) / 26)] 5 (0, 0)))
        have hc : (#[.int .u8 (97 + (k : Int) % 26), .int .u8 (97 + (k : Int) / 26)] : Array Value) = u8s (nmb k) := by
          unfold u8s nmb u8
          simp only [List.map_cons, List.map_nil, UInt8.toNat_ofNat']
          have e1 : ((97 + k % 26) % 2 ^ 8 : Nat) = 97 + k % 26 := by omega
          have e2 : ((97 + k / 26 % 26) % 2 ^ 8 : Nat) = 97 + k / 26 := by omega
          rw [e1, e2]
          simp
        have hT := run_text (wr.alloc (.cells #[.int .u8 (97 + (k : Int) % 26), .int .u8 (97 + (k : Int) / 26)] 5 (0, 0))) (.slice (some ⟨wr.heap.size, 0, none⟩) 2 2) (nmb k) (by
          have h1 := bs_ptE (l := nmb k) (n := 2) rfl (hA.to (by rw [hc])) (by decide)
          exact h1.rds)
        have hA2 := hA.right
        have cA2 : (wr.alloc (.cells #[.int .u8 (97 + (k : Int) % 26), .int .u8 (97 + (k : Int) / 26)] 5 (0, 0))).cell? ⟨sc, 0, none⟩ = some (.pointer (some ⟨b, 0, none⟩)) := hA2.front2.cell 0
        have cB2 : (wr.alloc (.cells #[.int .u8 (97 + (k : Int) % 26), .int .u8 (97 + (k : Int) / 26)] 5 (0, 0))).cell? ⟨sc, 1, none⟩ = some (.int .i64 (B : Int)) := hA2.front2.cell 1
        have HA2 := SL.hid hA2
        clear hA hA2 hc
        by_cases hkR : k < R
        · have hkR' : (k : Int) < (R : Int) := by omega
          have hmn : min k R = k := Nat.min_eq_left (by omega)
          have hmn1 : min (k + 1) R = k + 1 := Nat.min_eq_left (by omega)
          have hfit := (roomT_iff (i := k) B4 B30 (by omega)).2 (by rw [HR.out]; exact hkR)
          have ha := HA2.out
          rw [hmn] at ha
          have hadd := t_addY (nm := nmb k) (child := 2) ha (by decide) (by decide) (nmb_ok (by omega)) (sE_no (Nat.le_refl _) (by omega)) (by rw [sE_length]; omega) (by rw [sE_length]; exact hfit)
          rw [← sE_succ] at hadd
          have Hadd := SL.hid hadd; have HM1 := SL.hid hmn1
          clear hadd ha hmn hmn1 hfit HA2
          go_wp2_with fail
          refine Hadd.out.mono ?_
          rintro e w5 ⟨rfl, d5, h5⟩
          have H5 := SL.hid h5; have D5 := SL.hid (dA.out.trans d5)
          clear h5 d5 Hadd hT cA cB cA2 cB2 dA
          go_wp2_with fail
          all_goals refine ⟨⟨k + 1, by omega, by simp, D5.out, by rw [HR.out, HM1.out]; exact H5.out⟩, ?_⟩
          all_goals (simp [intOf]; omega)
        · have hkR' : ¬ (k : Int) < (R : Int) := by omega
          have hmn : min k R = R := Nat.min_eq_right (by omega)
          have hmn1 : min (k + 1) R = R := Nat.min_eq_right (by omega)
          have hfit : B - 1 < needD (R + 1) := by
            refine Nat.lt_of_not_le fun h => ?_
            have := (roomT_iff (i := R) B4 B30 (by omega)).1 h
            rw [HR.out] at this; omega
          have ha := HA2.out
          rw [hmn] at ha
          have hadd := t_addN (nm := nmb k) (child := 2) ha (by decide) (by decide) (nmb_ok (by omega)) (sE_no (by omega) (by omega)) (by rw [sE_length]; omega) (by rw [sE_length]; exact hfit)
          have Hadd := SL.hid hadd; have HM1 := SL.hid hmn1
          clear hadd ha hmn hmn1 hfit HA2
          go_wp2_with fail
          refine Hadd.out.mono ?_
          rintro e w5 ⟨rfl, d5, h5⟩
          have H5 := SL.hid h5; have D5 := SL.hid (dA.out.trans d5)
          clear h5 d5 Hadd hT cA cB cA2 cB2 dA
          go_wp2_with fail
          all_goals refine ⟨⟨k + 1, by omega, by simp, D5.out, by rw [HR.out, HM1.out]; exact H5.out⟩, ?_⟩
          all_goals (simp [intOf]; omega)
      · obtain rfl : k = N := by omega
        obtain ⟨t, ht⟩ : ∃ t, min k R = t := ⟨_, rfl⟩
        have et : min (k : Int) (R : Int) = (t : Int) := by omega
        rw [ht] at hsat
        have hl := tList_any hsat (sE_nd (by omega))
        have Hl := SL.hid hl
        have t200 : (t : Int) ≤ 200 := by omega
        have Ht : Hid (t ≤ 200) := by show t ≤ 200; omega
        have hmr := fun w => more_any t (by omega) w
        have Hmr := SL.hid hmr
        clear hl hsat ht hmr
        go_wp2_with fail
        refine Hl.out.mono ?_
        rintro e w5 ⟨u, W, rfl, p5, s5, d5, h5⟩
        have hWl : W.length = t := by rw [p5.length_eq, sE_length]
        have hq5 := h5.front2
        obtain ⟨⟨hd0, hd1, hd2⟩, -⟩ := dS_open hq5
        have hlf := tN_any hq5
        rw [sE_length] at hlf hd2
        rw [show ((B - 1 - needD t : Nat) : Int) = (p2 : Int) - ((t : Int) + 14) / 15 by
          have h9 := Hp2.out
          have : needD t = 1 + (t + 14) / 15 := by unfold needD; rw [if_neg (by have := Ht.out; omega), Nat.add_zero]
          rw [this] at hd2 ⊢; omega] at hlf
        have cA5 : w5.cell? ⟨sc, 0, none⟩ = some (.pointer (some ⟨b, 0, none⟩)) := h5.front3.cell 0
        have cB5 : w5.cell? ⟨sc, 1, none⟩ = some (.int .i64 (B : Int)) := h5.front3.cell 1
        obtain ⟨ua, uc, rfl⟩ := sl_shape h5
        have Hlf := SL.hid hlf; have HWl := SL.hid hWl; have D5 := SL.hid (hside.trans d5)
        rw [hWl]
        clear Hl h5 hq5 hlf p5 s5 hWl d5 cA cB hd0 hd1 hd2
        go_wp2_with fail
        refine Hlf.out.mono ?_
        rintro e w6 ⟨rfl, d6, h6⟩
        have H6 := SL.hid h6; have D6 := SL.hid (D5.out.trans d6)
        clear Hlf h6 d6 cA5 cB5
        go_wp2_with fail
        refine (Hmr.out w6).mono ?_
        rintro e w7 ⟨rfl, rfl⟩
        go_wp2_with fail
        exact HQ.out _ _ ⟨by simp, H6.out.right.right.right, D6.out⟩
end Go.Proofs.YtaoohjeaaccnfaaGreat.Fs

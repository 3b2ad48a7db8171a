/- slices.SortStableFunc of entries: rotate. -/
import Derived.Test.YtaoohjeaaccnfaaGreatEb
namespace Go.Proofs.YtaoohjeaaccnfaaGreat.Fs
set_option linter.unusedVariables false
set_option linter.unusedSimpArgs false
open Go.RowKit Go.SL Go.Proofs.YtaoohjeaaccnfaaGreat.Ba
def RtRel (v : Value) (m N : Nat) (T : List Ent) (w0 : World) (F : Assn) (u10 u11 : Value) (wr : World) : Prop :=
  ∃ (X U V Y : List Ent), u10 = .int .i64 (U.length : Int) ∧ u11 = .int .i64 (V.length : Int) ∧ X.length + U.length = m ∧ 1 ≤ U.length ∧ 1 ≤ V.length ∧ (X ++ (U ++ (V ++ Y))).length = N ∧ X ++ (V ++ (U ++ Y)) = T ∧ Side w0 wr ∧ Sat wr (RowE v (X ++ (U ++ (V ++ Y))) * F)
set_option maxRecDepth 100000 in
set_option maxHeartbeats 4000000 in
theorem rotate_any (v : Value) (X U V Y : List Ent) (a m b : Nat) (ha : X.length = a) (hm : a + U.length = m) (hb : m + V.length = b) (h1 : 1 ≤ U.length) (h2 : 1 ≤ V.length) (w : World) (F : Assn) (hl : (X ++ (U ++ (V ++ Y))).length ≤ 4000) (h : Sat w (RowE v (X ++ (U ++ (V ++ Y))) * F)) :
    Calls Tryz.prog 133 #[v, .int .i64 (a : Int), .int .i64 (m : Int), .int .i64 (b : Int), cmpF] w (RowQ v (X ++ (V ++ (U ++ Y))) F w) := by
  refine callsQ fun Q' HQ => ?_
  obtain ⟨va, vc, rfl⟩ := sl_shape h
  obtain ⟨N, hN⟩ : ∃ N, (X ++ (U ++ (V ++ Y))).length = N := ⟨_, rfl⟩
  obtain ⟨T, hT⟩ : ∃ T, X ++ (V ++ (U ++ Y)) = T := ⟨_, rfl⟩
  have H := SL.hid h; have HN := SL.hid hN; have HT := SL.hid hT
  rw [hN] at hl H ⊢
  rw [hN, hT] at HQ
  have hbN : b ≤ N := by rw [← hN]; simp only [List.length_append]; omega
  obtain ⟨i0, hi0⟩ : ∃ i, U.length = i := ⟨_, rfl⟩
  obtain ⟨j0, hj0⟩ : ∃ j, V.length = j := ⟨_, rfl⟩
  have g1 : IntKind.i64.wrap ((m : Int) - (a : Int)) = (i0 : Int) := by rw [IntKind.wrap_i64]; omega
  have g2 : IntKind.i64.wrap ((b : Int) - (m : Int)) = (j0 : Int) := by rw [IntKind.wrap_i64]; omega
  have hN' : (N : Int) ≤ 4000 := by omega
  have hb' : (b : Int) ≤ (N : Int) := by omega
  have ha' : (a : Int) ≤ (m : Int) := by omega
  have hm' : (m : Int) ≤ (b : Int) := by omega
  have e1 : (m : Int) - (a : Int) = (i0 : Int) := by omega
  have e2 : (b : Int) - (m : Int) = (j0 : Int) := by omega
  have hst : RtRel (.slice va N vc) m N T w F (.int .i64 (i0 : Int)) (.int .i64 (j0 : Int)) w := ⟨X, U, V, Y, by rw [hi0], by rw [hj0], by omega, h1, h2, hN, hT, Side.refl w, H.out⟩
  have Hst := SL.hid hst
  clear h hN hT ha hm hb h1 h2 hi0 hj0 hst g1 g2 H
  go_enter Tryz.func133, Tryz.ntmps133
  go_wp2_with fail
  go_loopw [10, 11] (fun u10 u11 wr => RtRel (.slice va N vc) m N T w F u10 u11 wr) (fun u10 u11 _ => (intOf u10).toNat + (intOf u11).toNat)
  case atStart => exact Hst.out
  case round =>
    obtain ⟨X', U', V', Y', rfl, rfl, hxm, hu, hv, hlen, htg, hside, hsat⟩ := hrel
    clear Hst
    obtain ⟨i, hi⟩ : ∃ i, U'.length = i := ⟨_, rfl⟩
    obtain ⟨j, hj⟩ : ∃ i, V'.length = i := ⟨_, rfl⟩
    obtain ⟨p, hp⟩ : ∃ i, X'.length = i := ⟨_, rfl⟩
    have hlen2 : p + (i + (j + Y'.length)) = N := by rw [← hlen, ← hi, ← hj, ← hp]; simp only [List.length_append]
    rw [hi] at hxm hu ⊢
    rw [hj] at hv ⊢
    rw [hp] at hxm
    have p1 : (m : Int) - (i : Int) = (p : Int) := by omega
    have p2 : (i : Int) ≤ (m : Int) := by omega
    have p3 : (j : Int) ≤ 4000 := by omega
    have p4 : (m : Int) ≤ 4000 := by omega
    rcases Nat.lt_trichotomy j i with hij | hij | hij
    · have hij' : (j : Int) < (i : Int) := by omega
      have hne : ¬ ((i : Int) = (j : Int)) := by omega
      have e : U' = U'.take j ++ U'.drop j := (List.take_append_drop j U').symm
      obtain ⟨U1, hU1⟩ : ∃ l, U'.take j = l := ⟨_, rfl⟩
      obtain ⟨U2, hU2⟩ : ∃ l, U'.drop j = l := ⟨_, rfl⟩
      have l1 : U1.length = j := by rw [← hU1, List.length_take]; omega
      have l2 : U2.length = i - j := by rw [← hU2, List.length_drop]; omega
      rw [hU1, hU2] at e
      subst e
      rw [List.append_assoc] at hsat hlen
      have hc := swapR_any (.slice va N vc) X' U1 U2 V' Y' (by omega) p m j hp (by omega) l1 wr F (by rw [hlen]; omega) hsat
      have Hc := SL.hid hc
      have q1 : (i : Int) - (j : Int) = ((i - j : Nat) : Int) := by omega
      have Htg := SL.hid htg; have Hlen := SL.hid hlen; have Hp := SL.hid hp; have L1 := SL.hid l1; have L2 := SL.hid l2; have Hj := SL.hid hj; have Hxm := SL.hid hxm; have Hv := SL.hid hv; have Hl2 := SL.hid hlen2
      clear hc htg hlen hp l1 l2 hi hj hsat hU1 hU2 hxm hlen2
      go_wp2_with fail
      refine Hc.out.mono ?_
      rintro r w2 ⟨rfl, d2, h2⟩
      have H2 := SL.hid h2
      clear h2 Hc
      go_wp2_with fail
      go_roundw
      case rel =>
        refine ⟨X' ++ V', U2, U1, Y', by rw [L2.out, ← q1], by rw [L1.out], by rw [List.length_append, Hp.out, Hj.out, L2.out]; have := Hxm.out; omega, by rw [L2.out]; omega, by rw [L1.out]; exact Hv.out, ?_, ?_, hside.trans d2, by simpa using H2.out⟩
        · have := Hl2.out
          simp only [List.length_append, L1.out, L2.out, Hp.out, Hj.out]; omega
        · rw [← Htg.out]; simp
      case measure => simp [intOf]; omega
    · subst hij
      have hc := swapR_any (.slice va N vc) X' U' [] V' Y' (by omega) p m j hp (by simp; omega) hi wr F (by rw [List.nil_append, hlen]; omega) hsat
      have Hc := SL.hid hc
      have Htg := SL.hid htg
      clear hc htg hlen hp hi hj hsat hxm hlen2
      go_wp2_with fail
      refine Hc.out.mono ?_
      rintro r w2 ⟨rfl, d2, h2⟩
      have H2 := SL.hid h2
      clear h2 Hc
      go_wp2_with fail
      go_end0
      refine HQ.out _ _ ⟨rfl, hside.trans d2, ?_⟩
      rw [← Htg.out]; exact H2.out
    · have hij' : (i : Int) < (j : Int) := by omega
      have hne : ¬ ((i : Int) = (j : Int)) := by omega
      have e : V' = V'.take (j - i) ++ V'.drop (j - i) := (List.take_append_drop (j - i) V').symm
      obtain ⟨V1, hV1⟩ : ∃ l, V'.take (j - i) = l := ⟨_, rfl⟩
      obtain ⟨V2, hV2⟩ : ∃ l, V'.drop (j - i) = l := ⟨_, rfl⟩
      have l1 : V1.length = j - i := by rw [← hV1, List.length_take]; omega
      have l2 : V2.length = i := by rw [← hV2, List.length_drop]; omega
      rw [hV1, hV2] at e
      subst e
      rw [List.append_assoc] at hsat hlen
      obtain ⟨q, hq⟩ : ∃ q, m + j - i = q := ⟨_, rfl⟩
      have q2 : (m : Int) + (j : Int) - (i : Int) = (q : Int) := by omega
      have hc := swapR_any (.slice va N vc) X' U' V1 V2 Y' (by omega) p q i hp (by omega) hi wr F (by rw [hlen]; omega) hsat
      have Hc := SL.hid hc
      have q1 : (j : Int) - (i : Int) = ((j - i : Nat) : Int) := by omega
      have Htg := SL.hid htg; have Hlen := SL.hid hlen; have Hp := SL.hid hp; have L1 := SL.hid l1; have L2 := SL.hid l2; have Hi := SL.hid hi; have Hxm := SL.hid hxm; have Hu := SL.hid hu; have Hl2 := SL.hid hlen2
      clear hc htg hlen hp l1 l2 hi hj hsat hV1 hV2 hxm hlen2 hq
      go_wp2_with fail
      refine Hc.out.mono ?_
      rintro r w2 ⟨rfl, d2, h2⟩
      have H2 := SL.hid h2
      clear h2 Hc
      go_wp2_with fail
      go_roundw
      case rel =>
        refine ⟨X', V2, V1, U' ++ Y', by rw [L2.out], by rw [L1.out, ← q1], by rw [Hp.out, L2.out]; exact Hxm.out, by rw [L2.out]; exact Hu.out, by rw [L1.out]; omega, ?_, ?_, hside.trans d2, by simpa using H2.out⟩
        · have := Hl2.out
          simp only [List.length_append, L1.out, L2.out, Hp.out, Hi.out]; omega
        · rw [← Htg.out]; simp
      case measure => simp [intOf]; omega
end Go.Proofs.YtaoohjeaaccnfaaGreat.Fs

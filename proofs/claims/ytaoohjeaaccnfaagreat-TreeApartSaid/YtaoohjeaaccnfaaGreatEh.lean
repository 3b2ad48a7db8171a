/- slices.SortStableFunc of entries. -/
import Derived.Test.YtaoohjeaaccnfaaGreatEg
namespace Go.SL
set_option linter.unusedVariables false
set_option linter.unusedSimpArgs false
open Go.RowKit
/-- Blocks that are sorted, each by itself; the last one may be shorter. -/
inductive Blk {α : Type} (lt : α → α → Bool) (bs : Nat) : List α → Prop where
  | last (A : List α) : A.length ≤ bs → Srt lt A → Blk lt bs A
  | more (A R : List α) : A.length = bs → Srt lt A → Blk lt bs R → Blk lt bs (A ++ R)
section
variable {α : Type} {lt : α → α → Bool} {bs : Nat} {R : List α}
theorem Blk.short (h : Blk lt bs R) (hl : R.length ≤ bs) : Srt lt R := by
  cases h with
  | last _ _ s => exact s
  | more A R1 hA s _ =>
    rw [List.length_append] at hl
    have : R1 = [] := List.eq_nil_of_length_eq_zero (by omega)
    rw [this, List.append_nil]; exact s
theorem Blk.split (h : Blk lt bs R) (hl : bs < R.length) : ∃ A R1, R = A ++ R1 ∧ A.length = bs ∧ Srt lt A ∧ Blk lt bs R1 := by
  cases h with
  | last _ h1 _ => omega
  | more A R1 hA s h1 => exact ⟨A, R1, rfl, hA, s, h1⟩
theorem Blk.two (h : Blk lt bs R) (hb : 1 ≤ bs) (hl : 2 * bs ≤ R.length) : ∃ A B R1, R = A ++ (B ++ R1) ∧ A.length = bs ∧ B.length = bs ∧ Srt lt A ∧ Srt lt B ∧ Blk lt bs R1 := by
  obtain ⟨A, R1, rfl, hA, sA, h1⟩ := h.split (by omega)
  rw [List.length_append] at hl
  by_cases h2 : R1.length = bs
  · exact ⟨A, R1, [], by simp, hA, h2, sA, h1.short (by omega), .last [] (by simp) Srt.nil⟩
  · obtain ⟨B, R2, rfl, hB, sB, h3⟩ := h1.split (by omega)
    exact ⟨A, B, R2, rfl, hA, hB, sA, sB, h3⟩
/-- What may stand ahead of blocks. -/
def PBlk {α : Type} (lt : α → α → Bool) (bs : Nat) (S : List α) : Prop := ∀ R, Blk lt bs R → Blk lt bs (S ++ R)
theorem PBlk.nil : PBlk lt bs ([] : List α) := fun R h => h
theorem PBlk.snoc {S W : List α} (h : PBlk lt bs S) (hW : W.length = bs) (s : Srt lt W) : PBlk lt bs (S ++ W) := fun R hR => by
  rw [List.append_assoc]; exact h _ (.more W R hW s hR)
end
end Go.SL
namespace Go.Proofs.YtaoohjeaaccnfaaGreat.Fs
set_option linter.unusedVariables false
set_option linter.unusedSimpArgs false
open Go.RowKit Go.SL Go.Proofs.YtaoohjeaaccnfaaGreat.Ba
theorem symOk_all : ∀ n, SymOk n
  | 0 => fun _ _ _ _ _ _ _ _ _ _ _ _ _ h => absurd h (Nat.not_lt_zero _)
  | n + 1 => fun v X U V Y a m b ha hm hb hU hV hn sU sV w F hl h => by
    by_cases h1 : U.length = 1
    · obtain ⟨u, rfl⟩ := List.length_eq_one_iff.1 h1
      exact symA_any v X V Y u a m b ha (by simpa using hm) hb sV w F hl h
    · by_cases h2 : V.length = 1
      · obtain ⟨u, rfl⟩ := List.length_eq_one_iff.1 h2
        exact symB_any v X U Y u a m b ha hm (by omega) (by simpa using hb) sU w F hl h
      · exact symC_any n (symOk_all n) v X U V Y a m b ha hm hb (by omega) (by omega) (by omega) sU sV w F hl h
def St1 (v : Value) (L0 : List Ent) (N : Nat) (w0 : World) (F : Assn) (u7 u8 : Value) (wr : World) : Prop :=
  ∃ (S R : List Ent), u7 = .int .i64 (S.length : Int) ∧ u8 = .int .i64 ((S.length + 20 : Nat) : Int) ∧ PBlk ltE 20 S ∧ (S ++ R).Perm L0 ∧ Side w0 wr ∧ Sat wr (RowE v (S ++ R) * F)
def St2 (v : Value) (L0 : List Ent) (w0 : World) (F : Assn) (u6 : Value) (wr : World) : Prop :=
  ∃ (bs : Nat) (L : List Ent), u6 = .int .i64 (bs : Int) ∧ 1 ≤ bs ∧ bs ≤ 8000 ∧ Blk ltE bs L ∧ L.Perm L0 ∧ Side w0 wr ∧ Sat wr (RowE v L * F)
def St3 (v : Value) (L0 : List Ent) (bs : Nat) (w0 : World) (F : Assn) (u7 u8 : Value) (wr : World) : Prop :=
  ∃ (S R : List Ent), u7 = .int .i64 (S.length : Int) ∧ u8 = .int .i64 ((S.length + 2 * bs : Nat) : Int) ∧ PBlk ltE (2 * bs) S ∧ Blk ltE bs R ∧ (S ++ R).Perm L0 ∧ Side w0 wr ∧ Sat wr (RowE v (S ++ R) * F)
def SrtQ (v : Value) (L0 : List Ent) (F : Assn) (w : World) (e : Ending) (w' : World) : Prop :=
  ∃ W : List Ent, e = .returned (.tuple #[]) ∧ W.Perm L0 ∧ Srt ltE W ∧ Side w w' ∧ Sat w' (RowE v W * F)
set_option maxRecDepth 100000 in
set_option maxHeartbeats 8000000 in
theorem stable_any (v : Value) (L0 : List Ent) (w : World) (F : Assn) (hl : L0.length ≤ 3990) (h : Sat w (RowE v L0 * F)) (N : Nat) (hN : L0.length = N) :
    Calls Tryz.prog 83 #[v, .int .i64 (N : Int), cmpF] w (SrtQ v L0 F w) := by
  refine callsQ fun Q' HQ => ?_
  obtain ⟨va, vc, rfl⟩ := sl_shape h
  have H := SL.hid h; have HN := SL.hid hN
  rw [hN] at hl H HQ ⊢
  have hN' : (N : Int) ≤ 3990 := by omega
  clear h hN
  go_enter Tryz.func83, Tryz.ntmps83
  go_wp2_with fail
  go_loopw [7, 8] (fun u7 u8 wr => St1 (.slice va N vc) L0 N w F u7 u8 wr) (fun u7 _ _ => N - (intOf u7).toNat)
  case atStart => exact ⟨[], L0, rfl, rfl, PBlk.nil, List.Perm.refl _, Side.refl w, H.out⟩
  case round =>
    obtain ⟨S, R, rfl, rfl, hPB, hP, hside, hsat⟩ := hrel
    clear H
    obtain ⟨a, ha⟩ : ∃ a, S.length = a := ⟨_, rfl⟩
    have hSR : a + R.length = N := by have := hP.length_eq; rw [List.length_append, HN.out] at this; omega
    rw [ha]
    have ea : ((a + 20 : Nat) : Int) = (a : Int) + 20 := by omega
    rw [ea]
    by_cases hlt : a + 20 ≤ N
    · have hlt' : (a : Int) + 20 ≤ (N : Int) := by omega
      obtain ⟨B, hB⟩ : ∃ l, R.take 20 = l := ⟨_, rfl⟩
      obtain ⟨R2, hR2⟩ : ∃ l, R.drop 20 = l := ⟨_, rfl⟩
      have hR : B ++ R2 = R := by rw [← hB, ← hR2]; exact List.take_append_drop _ _
      have hBl : B.length = 20 := by rw [← hB, List.length_take]; omega
      rw [← hR] at hsat hP hSR
      have hc := insert_any (.slice va N vc) S B R2 a (a + 20) ha (by omega) wr F (by have := hP.length_eq; rw [HN.out] at this; omega) hsat
      rw [ea] at hc
      have Hc := SL.hid hc; have HP := SL.hid hP; have HPB := SL.hid hPB; have HBl := SL.hid hBl; have Ha := SL.hid ha
      have hab : (a : Int) ≤ 4000 := by omega
      clear hc hP hPB hBl hsat hB hR2 hR ha hSR ea
      go_wp2_with fail
      refine Hc.out.mono ?_
      rintro r w2 ⟨W, rfl, p2, s2, d2, h2⟩
      have H2 := SL.hid h2; have P2 := SL.hid p2; have S2 := SL.hid s2
      clear h2 p2 s2 Hc
      have hWl : (S ++ W).length = a + 20 := by rw [List.length_append, P2.out.length_eq, HBl.out, Ha.out]
      have HWl := SL.hid hWl
      clear hWl
      go_wp2_with fail
      go_roundw
      case rel => exact ⟨S ++ W, R2, by rw [HWl.out]; simp, by rw [HWl.out]; congr 1, HPB.out.snoc (by rw [P2.out.length_eq, HBl.out]) S2.out, (by
          rw [List.append_assoc]
          exact (List.Perm.append_left S (P2.out.append_right R2)).trans HP.out), hside.trans d2, by have h9 := H2.out; simpa using h9⟩
      case measure => simp [intOf]; omega
    · have hlt' : ¬ (a : Int) + 20 ≤ (N : Int) := by omega
      have hc := insert_any (.slice va N vc) S R [] a N ha hSR wr F (by have := hP.length_eq; rw [HN.out] at this; simp at this ⊢; omega) (by rw [List.append_nil]; exact hsat)
      have Hc := SL.hid hc; have HP := SL.hid hP; have HPB := SL.hid hPB; have Ha := SL.hid ha
      have hRl : Hid (R.length ≤ 20) := by show R.length ≤ 20; omega
      have hab : (a : Int) ≤ 4000 := by omega
      clear hc hP hPB hsat ha hSR ea
      go_wp2_with fail
      refine Hc.out.mono ?_
      rintro r w2 ⟨W, rfl, p2, s2, d2, h2⟩
      rw [List.append_nil] at h2
      have hst : St2 (.slice va N vc) L0 w F (.int .i64 20) w2 := ⟨20, S ++ W, rfl, by decide, by decide, HPB.out _ (.last W (by rw [p2.length_eq]; exact hRl.out) s2), (List.Perm.append_left S p2).trans HP.out, hside.trans d2, h2⟩
      have Hst := SL.hid hst
      clear h2 p2 s2 Hc hst HP HPB Ha hRl hside hab hlt' hlt
      go_wp2_with fail
      go_loopw [6] (fun u6 wr => St2 (.slice va N vc) L0 w F u6 wr) (fun u6 _ => N - (intOf u6).toNat)
      case atStart => exact Hst.out
      case round =>
        clear Hst
        obtain ⟨bs, L, rfl, hb1, hb2, hBk, hP, hside2, hsat2⟩ := hrel
        have hLN : L.length = N := by rw [hP.length_eq, HN.out]
        by_cases hlt : bs < N
        · have hlt' : (bs : Int) < (N : Int) := by omega
          have hst3 : St3 (.slice va N vc) L0 bs w F (.int .i64 0) (.int .i64 (2 * (bs : Int))) wr := ⟨[], L, rfl, by simp, PBlk.nil, hBk, hP, hside2, hsat2⟩
          have Hst3 := SL.hid hst3
          have hb1' : (1 : Int) ≤ (bs : Int) := by omega
          clear hst3 hBk hP hsat2 hside2 hLN
          go_wp2_with fail
          go_loopw [7, 8] (fun u7 u8 wr => St3 (.slice va N vc) L0 bs w F u7 u8 wr) (fun _ u8 _ => N + 1 - (intOf u8).toNat)
          case atStart => exact Hst3.out
          case round =>
            clear Hst3
            obtain ⟨S3, R3, rfl, rfl, hPB, hBk, hP, hside3, hsat3⟩ := hrel
            obtain ⟨a3, ha⟩ : ∃ a, S3.length = a := ⟨_, rfl⟩
            have hSR : a3 + R3.length = N := by have := hP.length_eq; rw [List.length_append, HN.out] at this; omega
            obtain ⟨b3, hb3⟩ : ∃ b, a3 + 2 * bs = b := ⟨_, rfl⟩
            obtain ⟨m3, hm3⟩ : ∃ b, a3 + bs = b := ⟨_, rfl⟩
            rw [ha, hb3]
            have em : (a3 : Int) + (bs : Int) = (m3 : Int) := by omega
            have haN : (a3 : Int) ≤ (N : Int) := by omega
            by_cases hlt3 : b3 ≤ N
            · have hlt3' : (b3 : Int) ≤ (N : Int) := by omega
              obtain ⟨A, B, R4, rfl, lA, lB, sA, sB, hBk4⟩ := hBk.two hb1 (by omega)
              have hc := symOk_all (A.length + B.length + 1) (.slice va N vc) S3 A B R4 a3 m3 b3 ha (by omega) (by omega) (by omega) (by omega) (by omega) sA sB wr F (by have := hP.length_eq; rw [HN.out] at this; omega) hsat3
              have Hc := SL.hid hc; have HP := SL.hid hP; have HPB := SL.hid hPB; have LA := SL.hid lA; have LB := SL.hid lB; have Ha := SL.hid ha; have HBk4 := SL.hid hBk4; have Hb3 := SL.hid hb3
              clear hc hP hPB hsat3 ha hSR lA lB sA sB hBk4 hb3 hm3
              have e2 : (b3 : Int) + 2 * (bs : Int) ≤ 16000 := by omega
              have e3 : 2 * (bs : Int) ≤ 8000 := by omega
              go_wp2_with fail
              refine Hc.out.mono ?_
              rintro r w4 ⟨W, rfl, p2, s2, d2, h2⟩
              have hWl : (S3 ++ W).length = b3 := by rw [List.length_append, p2.length_eq, List.length_append, LA.out, LB.out, Ha.out]; have := Hb3.out; omega
              have H2 := SL.hid h2; have P2 := SL.hid p2; have S2 := SL.hid s2; have HWl := SL.hid hWl
              clear h2 p2 s2 Hc hWl
              go_wp2_with fail
              go_roundw
              case rel => exact ⟨S3 ++ W, R4, by rw [HWl.out], by rw [HWl.out]; first | rfl | simp, HPB.out.snoc (by rw [P2.out.length_eq, List.length_append, LA.out, LB.out]; omega) S2.out, HBk4.out, (by
                  have h8 := HP.out
                  rw [List.append_assoc]
                  refine (List.Perm.append_left S3 (P2.out.append_right R4)).trans ?_
                  rw [List.append_assoc]; exact h8), hside3.trans d2, by have h9 := H2.out; simpa using h9⟩
              case measure => simp [intOf]; omega
            · have hlt3' : ¬ (b3 : Int) ≤ (N : Int) := by omega
              by_cases hmn : m3 < N
              · have hmn' : (m3 : Int) < (N : Int) := by omega
                obtain ⟨A, B, rfl, lA, sA, hBk4⟩ := hBk.split (by omega)
                rw [List.length_append] at hSR
                have sB := hBk4.short (by omega)
                have hc := symOk_all (A.length + B.length + 1) (.slice va N vc) S3 A B [] a3 m3 N ha (by omega) (by omega) (by omega) (by omega) (by omega) sA sB wr F (by have := hP.length_eq; rw [HN.out] at this; simp at this ⊢; omega) (by rw [List.append_nil]; exact hsat3)
                have Hc := SL.hid hc; have HP := SL.hid hP; have HPB := SL.hid hPB; have LA := SL.hid lA; have HSR := SL.hid hSR
                have hBl : Hid (A.length + B.length ≤ 2 * bs) := by show A.length + B.length ≤ 2 * bs; omega
                clear hc hP hPB hsat3 ha hSR lA sA sB hBk hBk4 hb3 hm3
                go_wp2_with fail
                refine Hc.out.mono ?_
                rintro r w4 ⟨W, rfl, p2, s2, d2, h2⟩
                rw [List.append_nil] at h2
                have H2 := SL.hid h2; have P2 := SL.hid p2; have S2 := SL.hid s2
                clear h2 p2 s2 Hc
                go_wp2_with fail
                go_roundw
                case rel => exact ⟨2 * bs, S3 ++ W, by simp; omega, by omega, by omega, HPB.out _ (.last W (by rw [P2.out.length_eq, List.length_append]; exact hBl.out) S2.out), (List.Perm.append_left S3 P2.out).trans HP.out, hside3.trans d2, H2.out⟩
                case measure => simp [intOf]; omega
              · have hmn' : ¬ (m3 : Int) < (N : Int) := by omega
                have sB := hBk.short (by omega)
                have hfin := hPB R3 (.last R3 (by omega) sB)
                have HF := SL.hid hfin; have HP := SL.hid hP; have HS3 := SL.hid hsat3
                clear hfin hP hsat3 ha hSR sB hBk hb3 hm3 hPB
                go_wp2_with fail
                go_roundw
                case rel => exact ⟨2 * bs, S3 ++ R3, by simp; omega, by omega, by omega, HF.out, HP.out, hside3, HS3.out⟩
                case measure => simp [intOf]; omega
        · have hlt' : ¬ (bs : Int) < (N : Int) := by omega
          have hS := hBk.short (by omega)
          have HS := SL.hid hS; have HP := SL.hid hP; have HS2 := SL.hid hsat2
          clear hS hP hsat2 hBk hLN
          go_wp2_with fail
          go_end0
          exact HQ.out _ _ ⟨L, rfl, HP.out, HS.out, hside2, HS2.out⟩
set_option maxRecDepth 100000 in
theorem sortStable_any (v : Value) (L0 : List Ent) (w : World) (F : Assn) (hl : L0.length ≤ 3990) (h : Sat w (RowE v L0 * F)) :
    Calls Tryz.prog 44 #[v, cmpF] w (SrtQ v L0 F w) := by
  refine callsQ fun Q' HQ => ?_
  have hs := SL.hid (stable_any v L0 w F hl h _ rfl)
  obtain ⟨va, vc, rfl⟩ := sl_shape h
  clear h
  generalize L0.length = N at *
  go_enter Tryz.func44, Tryz.ntmps44
  go_wp2_with fail
  refine hs.out.mono ?_
  rintro r w2 ⟨W, rfl, p2, s2, d2, h2⟩
  have H2 := SL.hid h2; have P2 := SL.hid p2; have S2 := SL.hid s2
  clear h2 p2 s2 hs
  go_wp2_with fail
  go_end0
  exact HQ.out _ _ ⟨W, rfl, P2.out, S2.out, d2, H2.out⟩
end Go.Proofs.YtaoohjeaaccnfaaGreat.Fs

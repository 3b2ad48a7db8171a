/- file's laws: shown. -/
import Derived.Test.YtaoohjeaaccnfaaGreatVc
import Derived.Lib.SlBytesConst
import Derived.Deep.DeepCutAuto
namespace Go.SL
set_option linter.unusedVariables false
set_option linter.unusedSimpArgs false
def okN (n : Nat) : Rs Nat → Bool
  | .ok k => k == n
  | .bad _ => false
theorem okN_eq {n : Nat} {r : Rs Nat} (h : okN n r = true) : r = .ok n := by
  cases r with
  | ok k => have : k = n := by simpa [okN] using h
            rw [this]
  | bad c => cases h
def okL (n : List UInt8) : Rs (List UInt8) → Bool
  | .ok k => k == n
  | .bad _ => false
theorem okL_eq {n : List UInt8} {r : Rs (List UInt8)} (h : okL n r = true) : r = .ok n := by
  cases r with
  | ok k => have : k = n := by simpa [okL] using h
            rw [this]
  | bad c => cases h
def badB {α : Type} (c : Int) : Rs α → Bool
  | .ok k => false
  | .bad d => d == c
theorem badB_eq {α : Type} {c : Int} {r : Rs α} (h : badB c r = true) : r = .bad c := by
  cases r with
  | ok k => cases h
  | bad d => have : d = c := by simpa [badB] using h
             rw [this]
def okU : Rs Unit → Bool
  | .ok _ => true
  | .bad _ => false
theorem okU_eq {r : Rs Unit} (h : okU r = true) : r = .ok () := by
  cases r with
  | ok k => rfl
  | bad c => cases h
def sh1 := wrun (wnew (zask 6) 6 1) (madeM 6)
def sh2 := wrun (wwriteAt (zask 6) 6 2 960 [120, 121]) sh1.2
def sh3 := wrun (wreadAt (zask 6) 6 2 958 9) sh2.2
def sh4 := wrun (wneedb (zask 6) 6 2) sh3.2
def sh5 := wrun (wleft (zask 6) 6) sh4.2
def sh6 := wrun (wwriteAt (zask 6) 6 2 0 (zs 1500)) sh5.2
def sh7 := wrun (wtrunc (zask 6) 6 2 961) sh6.2
def sh8 := wrun (wreadAt (zask 6) 6 2 960 9) sh7.2
def sh9 := wrun (wfree (zask 6) 6 2) sh8.2
def sh10 := wrun (wleft (zask 6) 6) sh9.2
def sh11 := wrun (wnew (zask 6) 6 3) sh10.2
def sh12 := wrun (wnode (zask 6) 6 6) sh11.2
set_option maxRecDepth 100000 in
theorem sh1_r : sh1.1 = .ok 2 := okN_eq (by decide +kernel)
set_option maxRecDepth 100000 in
theorem sh2_r : sh2.1 = .ok () := okU_eq (by decide +kernel)
set_option maxRecDepth 100000 in
theorem sh3_r : sh3.1 = .ok [0, 0, 120, 121] := okL_eq (by decide +kernel)
set_option maxRecDepth 100000 in
theorem sh4_r : sh4.1 = .ok 2 := okN_eq (by decide +kernel)
set_option maxRecDepth 100000 in
theorem sh5_r : sh5.1 = .ok 2 := okN_eq (by decide +kernel)
set_option maxRecDepth 100000 in
theorem sh6_r : sh6.1 = .bad 7 := badB_eq (by decide +kernel)
set_option maxRecDepth 100000 in
theorem sh7_r : sh7.1 = .ok () := okU_eq (by decide +kernel)
set_option maxRecDepth 100000 in
theorem sh8_r : sh8.1 = .ok [120] := okL_eq (by decide +kernel)
set_option maxRecDepth 100000 in
theorem sh9_r : sh9.1 = .ok () := okU_eq (by decide +kernel)
set_option maxRecDepth 100000 in
theorem sh10_r : sh10.1 = .ok 4 := okN_eq (by decide +kernel)
set_option maxRecDepth 100000 in
theorem sh11_r : sh11.1 = .bad 1 := badB_eq (by decide +kernel)
set_option maxRecDepth 100000 in
theorem sh12_r : sh12.1 = .bad 1 := badB_eq (by decide +kernel)
end Go.SL
namespace Go.Proofs.YtaoohjeaaccnfaaGreat.Fs
set_option linter.unusedVariables false
set_option linter.unusedSimpArgs false
open Go.RowKit Go.SL Go.Proofs.YtaoohjeaaccnfaaGreat.Ba
abbrev spc (w : World) (sc b n : Nat) : Prop := w.cell? ⟨sc, 0, none⟩ = some (.pointer (some ⟨b, 0, none⟩)) ∧ w.cell? ⟨sc, 1, none⟩ = some (.int .i64 (n : Int))
theorem sh1_v : (Value.tuple #[natV sh1.1, .int .i64 sh1.1.code]) = .tuple #[.int .i64 2, .int .i64 0] := by rw [sh1_r]; rfl
theorem sh4_v : (Value.tuple #[natV sh4.1, .int .i64 sh4.1.code]) = .tuple #[.int .i64 2, .int .i64 0] := by rw [sh4_r]; rfl
theorem sh5_v : (Value.tuple #[natV sh5.1, .int .i64 sh5.1.code]) = .tuple #[.int .i64 2, .int .i64 0] := by rw [sh5_r]; rfl
theorem sh10_v : (Value.tuple #[natV sh10.1, .int .i64 sh10.1.code]) = .tuple #[.int .i64 4, .int .i64 0] := by rw [sh10_r]; rfl
theorem sh11_v : (Value.tuple #[natV sh11.1, .int .i64 sh11.1.code]) = .tuple #[.int .i64 0, .int .i64 1] := by rw [sh11_r]; rfl
theorem sh12_v : (Value.tuple #[ndV sh12.1, .int .i64 sh12.1.code]) = .tuple #[zeroNdV, .int .i64 1] := by rw [sh12_r]; rfl
theorem sh2_v : (Value.int .i64 sh2.1.code) = .int .i64 0 := by rw [sh2_r]; rfl
theorem sh6_v : (Value.int .i64 sh6.1.code) = .int .i64 7 := by rw [sh6_r]; rfl
theorem sh7_v : (Value.int .i64 sh7.1.code) = .int .i64 0 := by rw [sh7_r]; rfl
theorem sh9_v : (Value.int .i64 sh9.1.code) = .int .i64 0 := by rw [sh9_r]; rfl
theorem sh3_v : (Value.int .i64 sh3.1.code) = .int .i64 0 := by rw [sh3_r]; rfl
theorem sh3_b : bytesOf sh3.1 = [0, 0, 120, 121] := by rw [sh3_r]; rfl
theorem sh8_v : (Value.int .i64 sh8.1.code) = .int .i64 0 := by rw [sh8_r]; rfl
theorem sh8_b : bytesOf sh8.1 = [120] := by rw [sh8_r]; rfl
set_option maxRecDepth 100000 in
set_option maxHeartbeats 4000000 in
theorem shown_any (w : World) : Calls Tryz.prog 18 #[] w (LawQ w) := by
  refine callsQ fun Q HQ => ?_
  have hm := made_any 6 (by decide) (by decide) _ w (Sat.whole w)
  go_enter Tryz.func18, Tryz.ntmps18
  go_wp2_with fail
  refine hm.mono ?_
  rintro e w1 ⟨b, rfl, d1, h1⟩
  clear hm
  have hA := h1.alloc (.cells #[.pointer (some ⟨b, 0, none⟩), .int .i64 6] 26 (0, 0))
  have D := SL.hid (d1.alloc (.cells #[.pointer (some ⟨b, 0, none⟩), .int .i64 6] 26 (0, 0)))
  have H : Hid (Sat (w1.alloc (.cells #[.pointer (some ⟨b, 0, none⟩), .int .i64 6] 26 (0, 0))) (SpA 6 b (madeM 6) * (pt w1.heap.size (spO b 6) * whole w))) := hA.to (by ac_rfl)
  clear h1 hA d1
  unfold spV
  go_wp2_with fail
  generalize w1.alloc (.cells #[.pointer (some ⟨b, 0, none⟩), .int .i64 6] 26 (0, 0)) = w0 at *
  generalize w1.heap.size = sc at *
  refine (show Calls _ _ _ _ (IQ 6 b (pt sc (spO b 6) * (whole w)) _ sh1) from x_new (by decide) (by decide) 1 H.out).mono ?_
  rintro e w2 ⟨he, d, h⟩
  rw [sh1_v] at he
  subst he
  replace D := SL.hid (D.out.trans d)
  replace H := SL.hid h
  clear h d
  have cA : w2.cell? ⟨sc, 0, none⟩ = some (.pointer (some ⟨b, 0, none⟩)) := H.out.front2.cell 0
  have cB : w2.cell? ⟨sc, 1, none⟩ = some (.int .i64 6) := H.out.front2.cell 1
  have kc := fun (w : World) (C : Array Value) (n c : Nat) => Lib.run_convert_bytes_const (P := Tryz.prog) w 48 5 C n c Tryz.underlying48 Tryz.underlying5
  have hxy : Sat (w2.alloc (.cells #[.int .u8 120, .int .u8 121] 5 (2, 3))) (SpA 6 b sh1.2 * (litA w2.heap.size [120, 121] 2 * (pt sc (spO b 6) * (whole w)))) := (H.out.alloc (.cells #[.int .u8 120, .int .u8 121] 5 (2, 3))).front2
  replace H := SL.hid hxy
  replace D := SL.hid (D.out.alloc (.cells #[.int .u8 120, .int .u8 121] 5 (2, 3)))
  clear hxy
  go_wp2_with fail
  clear cA cB kc
  generalize w2.alloc (.cells #[.int .u8 120, .int .u8 121] 5 (2, 3)) = w2b at *
  generalize w2.heap.size = xy at *
  refine (show Calls _ _ _ _ (DQ 6 b (litA xy [120, 121] 2 * (pt sc (spO b 6) * (whole w))) _ sh2) from x_writeat (by decide) (by decide) 2 960 [120, 121] (some ⟨xy, 0, none⟩) 2 _ (hD_lit _ _ _) (by decide) (by decide) H.out).mono ?_
  rintro e w3 ⟨he, d, h⟩
  rw [sh2_v] at he
  subst he
  have h2 : Sat w3 (SpA 6 b sh2.2 * (pt sc (spO b 6) * (whole w))) := (h.to (by ac_rfl : _ = (litA xy [120, 121] 2) * (SpA 6 b sh2.2 * (pt sc (spO b 6) * (whole w))))).right
  replace h := h2
  clear h2
  replace D := SL.hid (D.out.trans d)
  replace H := SL.hid h
  clear h d
  have cA : w3.cell? ⟨sc, 0, none⟩ = some (.pointer (some ⟨b, 0, none⟩)) := H.out.front2.cell 0
  have cB : w3.cell? ⟨sc, 1, none⟩ = some (.int .i64 6) := H.out.front2.cell 1
  go_wp2_with fail
  clear cA cB
  refine (show Calls _ _ _ _ (BQ 6 b (pt sc (spO b 6) * (whole w)) _ sh3) from x_readat (by decide) (by decide) 2 958 9 H.out).mono ?_
  rintro e w4 ⟨v3, he, d, h⟩
  rw [sh3_v] at he
  subst he
  rw [sh3_b] at h
  obtain ⟨va3, vc3, rfl⟩ := sl_shape h
  have h2 : Sat w4 (SpA 6 b sh3.2 * (pt sc (spO b 6) * (bs 5 (.slice va3 4 vc3) [0, 0, 120, 121] * whole w))) := h.to (by ac_rfl)
  replace h := h2
  clear h2
  replace D := SL.hid (D.out.trans d)
  replace H := SL.hid h
  clear h d
  have cA : w4.cell? ⟨sc, 0, none⟩ = some (.pointer (some ⟨b, 0, none⟩)) := H.out.front2.cell 0
  have cB : w4.cell? ⟨sc, 1, none⟩ = some (.int .i64 6) := H.out.front2.cell 1
  go_wp2_with fail
  clear cA cB
  refine (show Calls _ _ _ _ (IQ 6 b (pt sc (spO b 6) * (bs 5 (.slice va3 4 vc3) [0, 0, 120, 121] * whole w)) _ sh4) from x_need (by decide) (by decide) 2 H.out).mono ?_
  rintro e w5 ⟨he, d, h⟩
  rw [sh4_v] at he
  subst he
  replace D := SL.hid (D.out.trans d)
  replace H := SL.hid h
  clear h d
  have cA : w5.cell? ⟨sc, 0, none⟩ = some (.pointer (some ⟨b, 0, none⟩)) := H.out.front2.cell 0
  have cB : w5.cell? ⟨sc, 1, none⟩ = some (.int .i64 6) := H.out.front2.cell 1
  go_wp2_with fail
  clear cA cB
  refine (show Calls _ _ _ _ (IQ 6 b (pt sc (spO b 6) * (bs 5 (.slice va3 4 vc3) [0, 0, 120, 121] * whole w)) _ sh5) from x_left (by decide) (by decide) H.out).mono ?_
  rintro e w6 ⟨he, d, h⟩
  rw [sh5_v] at he
  subst he
  replace D := SL.hid (D.out.trans d)
  replace H := SL.hid h
  clear h d
  have cA : w6.cell? ⟨sc, 0, none⟩ = some (.pointer (some ⟨b, 0, none⟩)) := H.out.front2.cell 0
  have cB : w6.cell? ⟨sc, 1, none⟩ = some (.int .i64 6) := H.out.front2.cell 1
  have hmk : ∀ w, (Instr.makeSlice 48 (.int .i64 1500) (.int .i64 1500)).run Tryz.prog w = .ok (.slice (some ⟨w.heap.size, 0, none⟩) 1500 1500) (w.alloc (.cells (u8s (zs 1500)) 5 (0, 0))) := make_bytes 1500 (by omega)
  have hB := bs_made 1500 (by decide) H.out
  obtain ⟨ZB, hZB⟩ : ∃ Z, Z = u8s (zs 1500) := ⟨_, rfl⟩
  rw [← hZB] at hmk hB
  clear hZB
  have hB2 : Sat (w6.alloc (.cells ZB 5 (0, 0))).drew (SpA 6 b sh5.2 * (bs 5 (.slice (some ⟨w6.heap.size, 0, none⟩) 1500 1500) (zs 1500) * (pt sc (spO b 6) * (bs 5 (.slice va3 4 vc3) [0, 0, 120, 121] * whole w)))) := (hB.drew).front2
  have HB := SL.hid hB2
  have DB := SL.hid (D.out.alloc (.cells ZB 5 (0, 0))).drew
  have hwa : Calls Tryz.prog 21 #[.agg #[.pointer (some ⟨b, 0, none⟩), .int .i64 6], .int .i64 2, .int .i64 0, .slice (some ⟨w6.heap.size, 0, none⟩) 1500 1500] (w6.alloc (.cells ZB 5 (0, 0))).drew (DQ 6 b (bs 5 (.slice (some ⟨w6.heap.size, 0, none⟩) 1500 1500) (zs 1500) * (pt sc (spO b 6) * (bs 5 (.slice va3 4 vc3) [0, 0, 120, 121] * whole w))) (w6.alloc (.cells ZB 5 (0, 0))).drew sh6) := by
    have h9 := x_writeat (by decide) (by decide) 2 0 (zs 1500) (some ⟨w6.heap.size, 0, none⟩) 1500 _ (hD_bs _ _) (by rw [length_zs]; exact Nat.le_refl _) (by rw [length_zs]; decide) (show Sat _ (SpA 6 b sh5.2 * (bs 5 (.slice (some ⟨w6.heap.size, 0, none⟩) (zs 1500).length 1500) (zs 1500) * (pt sc (spO b 6) * (bs 5 (.slice va3 4 vc3) [0, 0, 120, 121] * whole w)))) by rw [length_zs]; exact HB.out)
    rw [length_zs] at h9
    exact h9
  have Hwa := SL.hid hwa
  clear hB hB2 hwa
  go_wp2_with fail
  go_region_held3 (fun w' => w'.cell? ⟨sc, 0, none⟩ = some (.pointer (some ⟨b, 0, none⟩)) ∧ w'.cell? ⟨sc, 1, none⟩ = some (.int .i64 6)) (first | exact ⟨cA, cB⟩ | exact kAB | go_keep)
    (first | (go_at_call 21; refine Hwa.out.mono ?_; rintro e w7 ⟨he, d, h⟩; rw [sh6_v] at he; subst he; have kAB : w7.cell? ⟨sc, 0, none⟩ = some (.pointer (some ⟨b, 0, none⟩)) ∧ w7.cell? ⟨sc, 1, none⟩ = some (.int .i64 6) := ⟨h.front3.cell 0, h.front3.cell 1⟩))
  have h2 : Sat w7 (SpA 6 b sh6.2 * (pt sc (spO b 6) * (bs 5 (.slice va3 4 vc3) [0, 0, 120, 121] * whole w))) := (h.to (by ac_rfl : _ = (bs 5 (.slice (some ⟨w6.heap.size, 0, none⟩) 1500 1500) (zs 1500)) * (SpA 6 b sh6.2 * (pt sc (spO b 6) * (bs 5 (.slice va3 4 vc3) [0, 0, 120, 121] * whole w))))).right
  replace D := SL.hid (DB.out.trans d)
  replace H := SL.hid h2
  clear h d h2 cA cB HB DB Hwa hmk kAB
  try clear hHeld
  have cA : w7.cell? ⟨sc, 0, none⟩ = some (.pointer (some ⟨b, 0, none⟩)) := H.out.front2.cell 0
  have cB : w7.cell? ⟨sc, 1, none⟩ = some (.int .i64 6) := H.out.front2.cell 1
  generalize w6.heap.size = gz at *
  go_wp2_with fail
  clear cA cB
  refine (show Calls _ _ _ _ (DQ 6 b (pt sc (spO b 6) * (bs 5 (.slice va3 4 vc3) [0, 0, 120, 121] * whole w)) _ sh7) from x_trunc (by decide) (by decide) 2 961 H.out).mono ?_
  rintro e w8 ⟨he, d, h⟩
  rw [sh7_v] at he
  subst he
  replace D := SL.hid (D.out.trans d)
  replace H := SL.hid h
  clear h d
  have cA : w8.cell? ⟨sc, 0, none⟩ = some (.pointer (some ⟨b, 0, none⟩)) := H.out.front2.cell 0
  have cB : w8.cell? ⟨sc, 1, none⟩ = some (.int .i64 6) := H.out.front2.cell 1
  go_wp2_with fail
  clear cA cB
  refine (show Calls _ _ _ _ (BQ 6 b (pt sc (spO b 6) * (bs 5 (.slice va3 4 vc3) [0, 0, 120, 121] * whole w)) _ sh8) from x_readat (by decide) (by decide) 2 960 9 H.out).mono ?_
  rintro e w9 ⟨v8, he, d, h⟩
  rw [sh8_v] at he
  subst he
  rw [sh8_b] at h
  obtain ⟨va8, vc8, rfl⟩ := sl_shape h
  have h2 : Sat w9 (SpA 6 b sh8.2 * (pt sc (spO b 6) * (bs 5 (.slice va8 1 vc8) [120] * (bs 5 (.slice va3 4 vc3) [0, 0, 120, 121] * whole w)))) := h.to (by ac_rfl)
  replace h := h2
  clear h2
  replace D := SL.hid (D.out.trans d)
  replace H := SL.hid h
  clear h d
  have cA : w9.cell? ⟨sc, 0, none⟩ = some (.pointer (some ⟨b, 0, none⟩)) := H.out.front2.cell 0
  have cB : w9.cell? ⟨sc, 1, none⟩ = some (.int .i64 6) := H.out.front2.cell 1
  go_wp2_with fail
  clear cA cB
  refine (show Calls _ _ _ _ (DQ 6 b (pt sc (spO b 6) * (bs 5 (.slice va8 1 vc8) [120] * (bs 5 (.slice va3 4 vc3) [0, 0, 120, 121] * whole w))) _ sh9) from x_free (by decide) (by decide) 2 H.out).mono ?_
  rintro e w10 ⟨he, d, h⟩
  rw [sh9_v] at he
  subst he
  replace D := SL.hid (D.out.trans d)
  replace H := SL.hid h
  clear h d
  have cA : w10.cell? ⟨sc, 0, none⟩ = some (.pointer (some ⟨b, 0, none⟩)) := H.out.front2.cell 0
  have cB : w10.cell? ⟨sc, 1, none⟩ = some (.int .i64 6) := H.out.front2.cell 1
  go_wp2_with fail
  clear cA cB
  refine (show Calls _ _ _ _ (IQ 6 b (pt sc (spO b 6) * (bs 5 (.slice va8 1 vc8) [120] * (bs 5 (.slice va3 4 vc3) [0, 0, 120, 121] * whole w))) _ sh10) from x_left (by decide) (by decide) H.out).mono ?_
  rintro e w11 ⟨he, d, h⟩
  rw [sh10_v] at he
  subst he
  replace D := SL.hid (D.out.trans d)
  replace H := SL.hid h
  clear h d
  have cA : w11.cell? ⟨sc, 0, none⟩ = some (.pointer (some ⟨b, 0, none⟩)) := H.out.front2.cell 0
  have cB : w11.cell? ⟨sc, 1, none⟩ = some (.int .i64 6) := H.out.front2.cell 1
  go_wp2_with fail
  clear cA cB
  refine (show Calls _ _ _ _ (IQ 6 b (pt sc (spO b 6) * (bs 5 (.slice va8 1 vc8) [120] * (bs 5 (.slice va3 4 vc3) [0, 0, 120, 121] * whole w))) _ sh11) from x_new (by decide) (by decide) 3 H.out).mono ?_
  rintro e w12 ⟨he, d, h⟩
  rw [sh11_v] at he
  subst he
  replace D := SL.hid (D.out.trans d)
  replace H := SL.hid h
  clear h d
  have cA : w12.cell? ⟨sc, 0, none⟩ = some (.pointer (some ⟨b, 0, none⟩)) := H.out.front2.cell 0
  have cB : w12.cell? ⟨sc, 1, none⟩ = some (.int .i64 6) := H.out.front2.cell 1
  go_wp2_with fail
  clear cA cB
  refine (show Calls _ _ _ _ (NQ 6 b (pt sc (spO b 6) * (bs 5 (.slice va8 1 vc8) [120] * (bs 5 (.slice va3 4 vc3) [0, 0, 120, 121] * whole w))) _ sh12) from x_node (by decide) (by decide) 6 H.out).mono ?_
  rintro e w13 ⟨he, -, d, h⟩
  rw [sh12_v] at he
  subst he
  replace D := SL.hid (D.out.trans d)
  replace H := SL.hid h
  clear h d
  unfold zeroNdV
  have hE := H.out.alloc (.cells #[.int .i64 0, .int .i64 0, .int .i64 0, .int .i64 0, .int .i64 0, .int .i64 0, .int .i64 0, .int .i64 0, .int .i64 0, .int .i64 0, .int .i64 0, .int .i64 0, .int .i64 0, .int .i64 0, .int .i64 0, .int .i64 0, .int .i64 0, .int .i64 0, .int .i64 0, .int .i64 0] 35 (0, 0))
  have Hz := SL.hid hE.heap
  have hE2 := hE.setRow (cs' := #[.int .i64 0, .int .i64 0, .int .i64 0, .int .i64 0, .int .i64 0, .int .i64 0, .int .i64 0, .int .i64 0, .int .i64 0, .int .i64 0, .int .i64 0, .int .i64 0, .int .i64 0, .int .i64 0, .int .i64 0, .int .i64 0, .int .i64 0, .int .i64 0, .int .i64 0, .int .i64 0])
  have t3 : (convert 48 9 (.slice va3 4 vc3)).run Tryz.prog ((w13.alloc (.cells #[.int .i64 0, .int .i64 0, .int .i64 0, .int .i64 0, .int .i64 0, .int .i64 0, .int .i64 0, .int .i64 0, .int .i64 0, .int .i64 0, .int .i64 0, .int .i64 0, .int .i64 0, .int .i64 0, .int .i64 0, .int .i64 0, .int .i64 0, .int .i64 0, .int .i64 0, .int .i64 0] 35 (0, 0))).setRow w13.heap.size #[.int .i64 0, .int .i64 0, .int .i64 0, .int .i64 0, .int .i64 0, .int .i64 0, .int .i64 0, .int .i64 0, .int .i64 0, .int .i64 0, .int .i64 0, .int .i64 0, .int .i64 0, .int .i64 0, .int .i64 0, .int .i64 0, .int .i64 0, .int .i64 0, .int .i64 0, .int .i64 0]) = .ok (.string ⟨#[0, 0, 120, 121]⟩) ((w13.alloc (.cells #[.int .i64 0, .int .i64 0, .int .i64 0, .int .i64 0, .int .i64 0, .int .i64 0, .int .i64 0, .int .i64 0, .int .i64 0, .int .i64 0, .int .i64 0, .int .i64 0, .int .i64 0, .int .i64 0, .int .i64 0, .int .i64 0, .int .i64 0, .int .i64 0, .int .i64 0, .int .i64 0] 35 (0, 0))).setRow w13.heap.size #[.int .i64 0, .int .i64 0, .int .i64 0, .int .i64 0, .int .i64 0, .int .i64 0, .int .i64 0, .int .i64 0, .int .i64 0, .int .i64 0, .int .i64 0, .int .i64 0, .int .i64 0, .int .i64 0, .int .i64 0, .int .i64 0, .int .i64 0, .int .i64 0, .int .i64 0, .int .i64 0]) := run_text _ _ [0, 0, 120, 121] (hD_bs _ _ _ _ hE2.front5)
  have t8 : (convert 48 9 (.slice va8 1 vc8)).run Tryz.prog ((w13.alloc (.cells #[.int .i64 0, .int .i64 0, .int .i64 0, .int .i64 0, .int .i64 0, .int .i64 0, .int .i64 0, .int .i64 0, .int .i64 0, .int .i64 0, .int .i64 0, .int .i64 0, .int .i64 0, .int .i64 0, .int .i64 0, .int .i64 0, .int .i64 0, .int .i64 0, .int .i64 0, .int .i64 0] 35 (0, 0))).setRow w13.heap.size #[.int .i64 0, .int .i64 0, .int .i64 0, .int .i64 0, .int .i64 0, .int .i64 0, .int .i64 0, .int .i64 0, .int .i64 0, .int .i64 0, .int .i64 0, .int .i64 0, .int .i64 0, .int .i64 0, .int .i64 0, .int .i64 0, .int .i64 0, .int .i64 0, .int .i64 0, .int .i64 0]) = .ok (.string ⟨#[120]⟩) ((w13.alloc (.cells #[.int .i64 0, .int .i64 0, .int .i64 0, .int .i64 0, .int .i64 0, .int .i64 0, .int .i64 0, .int .i64 0, .int .i64 0, .int .i64 0, .int .i64 0, .int .i64 0, .int .i64 0, .int .i64 0, .int .i64 0, .int .i64 0, .int .i64 0, .int .i64 0, .int .i64 0, .int .i64 0] 35 (0, 0))).setRow w13.heap.size #[.int .i64 0, .int .i64 0, .int .i64 0, .int .i64 0, .int .i64 0, .int .i64 0, .int .i64 0, .int .i64 0, .int .i64 0, .int .i64 0, .int .i64 0, .int .i64 0, .int .i64 0, .int .i64 0, .int .i64 0, .int .i64 0, .int .i64 0, .int .i64 0, .int .i64 0, .int .i64 0]) := run_text _ _ [120] (hD_bs _ _ _ _ hE2.front4)
  have HE := SL.hid hE2
  have DE := SL.hid ((D.out.alloc (.cells #[.int .i64 0, .int .i64 0, .int .i64 0, .int .i64 0, .int .i64 0, .int .i64 0, .int .i64 0, .int .i64 0, .int .i64 0, .int .i64 0, .int .i64 0, .int .i64 0, .int .i64 0, .int .i64 0, .int .i64 0, .int .i64 0, .int .i64 0, .int .i64 0, .int .i64 0, .int .i64 0] 35 (0, 0))).setRow w13.heap.size #[.int .i64 0, .int .i64 0, .int .i64 0, .int .i64 0, .int .i64 0, .int .i64 0, .int .i64 0, .int .i64 0, .int .i64 0, .int .i64 0, .int .i64 0, .int .i64 0, .int .i64 0, .int .i64 0, .int .i64 0, .int .i64 0, .int .i64 0, .int .i64 0, .int .i64 0, .int .i64 0])
  have Hone : Hid ((#[.int .i64 0, .int .i64 0, .int .i64 0, .int .i64 0, .int .i64 0, .int .i64 0, .int .i64 0, .int .i64 0, .int .i64 0, .int .i64 0, .int .i64 0, .int .i64 0, .int .i64 0, .int .i64 0, .int .i64 0, .int .i64 0, .int .i64 0, .int .i64 0, .int .i64 0, .int .i64 0] : Array Value).all (·.oneCell') = true) := one20
  have hinfz : (Tryz.prog.info? 35).map (·.size) = some 20 := info_node0
  clear hE hE2
  go_upto_region 16 with (refine wpList_store_row (by exact rfl) 35 (.tmp 21) (.tmp 85) (by exact rfl) w13.heap.size #[.int .i64 0, .int .i64 0, .int .i64 0, .int .i64 0, .int .i64 0, .int .i64 0, .int .i64 0, .int .i64 0, .int .i64 0, .int .i64 0, .int .i64 0, .int .i64 0, .int .i64 0, .int .i64 0, .int .i64 0, .int .i64 0, .int .i64 0, .int .i64 0, .int .i64 0, .int .i64 0] (by exact rfl) (by exact rfl) 35 _ (by with_reducible exact Hz.out) hinfz (by rfl) Hone.out ?_)
  simp only [List.append_eq, List.cons_append, List.nil_append]
  go_wp2_with fail
  refine HQ.out _ _ ⟨rfl, ?_, DE.out⟩
  have h9 := HE.out.right.right.right.right.right
  exact h9
end Go.Proofs.YtaoohjeaaccnfaaGreat.Fs

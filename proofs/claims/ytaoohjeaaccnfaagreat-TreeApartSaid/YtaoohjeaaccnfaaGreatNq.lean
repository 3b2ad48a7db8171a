/- tree's laws: space. tree's laws: a space that has the root alone; shown. tree's laws: shown (printed by wip/mkshown18.py). -/
import Derived.Test.YtaoohjeaaccnfaaGreatNm
import Derived.Test.YtaoohjeaaccnfaaGreatVp
namespace Go.Proofs.YtaoohjeaaccnfaaGreat.Fs
set_option linter.unusedVariables false
set_option linter.unusedSimpArgs false
open Go.RowKit Go.SL Go.Proofs.YtaoohjeaaccnfaaGreat.Ba
/-- The cells of rows that are made one by one. -/
def rowCs (n k : Nat) (gs : List (Nat × List UInt8)) : Array Value := (rowVals gs ++ List.replicate (n - k) (Value.slice none 0 0)).toArray
theorem rowCs_set {n k g : Nat} {l : List UInt8} {gs : List (Nat × List UInt8)} (hk : k < n) (hg : gs.length = k) : (rowCs n k gs).setIfInBounds k (.slice (some ⟨g, 0, none⟩) l.length l.length) = rowCs n (k + 1) (gs ++ [(g, l)]) := by
  have hl : (rowVals gs).length = k := by rw [← hg]; simp [rowVals]
  unfold rowCs
  rw [rowVals_snoc, List.setIfInBounds_toArray, List.set_append_right _ _ (by omega), hl, Nat.sub_self, List.append_assoc]
  congr 2
  obtain ⟨m, hm⟩ : ∃ m, n - k = m + 1 := ⟨n - k - 1, by omega⟩
  rw [hm, List.replicate_succ, List.set_cons_zero, show n - (k + 1) = m by omega]; rfl
theorem rowCs_size {n k : Nat} {gs : List (Nat × List UInt8)} (hg : gs.length = k) (hk : k ≤ n) : (rowCs n k gs).size = n := by
  unfold rowCs; simp [rowVals, hg]; omega
theorem rowCs_get {n k : Nat} {gs : List (Nat × List UInt8)} (hg : gs.length = k) (hk : k < n) : (rowCs n k gs)[k]? = some (.slice none 0 0) := by
  have hl : (rowVals gs).length = k := by rw [← hg]; simp [rowVals]
  unfold rowCs
  rw [List.getElem?_toArray, List.getElem?_append_right (by omega), hl, Nat.sub_self, List.getElem?_replicate, if_pos (by omega)]
theorem rowCs_all {n : Nat} {gs : List (Nat × List UInt8)} : (rowCs n n gs).toList = rowVals gs := by
  unfold rowCs; simp
end Go.Proofs.YtaoohjeaaccnfaaGreat.Fs
namespace Go.Proofs.YtaoohjeaaccnfaaGreat.Fs
set_option linter.unusedVariables false
set_option linter.unusedSimpArgs false
open Go.RowKit Go.SL Go.Proofs.YtaoohjeaaccnfaaGreat.Ba
set_option maxRecDepth 100000 in
theorem make_rows (n : Nat) (hn : n ≤ 1000) (w : World) : (Instr.makeSlice 62 (.int .i64 n) (.int .i64 n)).run Tryz.prog w =
    .ok (.slice (some ⟨w.heap.size, 0, none⟩) n n) (w.alloc (.cells (rowCs n 0 []) 48 (0, 0))) := by
  obtain ⟨i, hi, hz, hs, hb⟩ := info_parts info_bytes
  have := run_make (P := Tryz.prog) w 62 48 i _ Tryz.underlying62 hi hz .i64 .i64 n n (by omega) (by omega) (by rw [hb]; omega) (by omega)
  rw [this, hs]
  simp only [Int.toNat_natCast]
  congr 3
  unfold madeCells rowCs rowVals
  apply Array.ext_getElem?
  intro k
  simp only [Value.cells, List.map_nil, List.nil_append, Nat.sub_zero, Array.getElem?_map, List.getElem?_toArray, List.getElem?_replicate, Nat.mul_one]
  by_cases hk : k < n
  · simp [hk, Nat.mod_one]
  · simp [hk]
theorem info_space : (Tryz.prog.info? 26).map (·.size) = some 2 := by kernel_rfl
theorem space_results {w : World} {tmps : Array Value} {a b n : Nat} {F : Assn} (h2 : tmps[2]? = some (ptV a)) (ha : Sat w (pt a (spO b n) * F)) :
    (results Tryz.f8 tmps).run Tryz.prog w = .ok (spV b n) w := by
  have hl := run_loadVar_row (P := Tryz.prog) w a 26 26 #[.pointer (some ⟨b, 0, none⟩), .int .i64 (n : Int)] (0, 0) _ ha.heap Tryz.underlying26 rfl info_space
  have hp : tmps.getD 2 undef = .pointer (some ⟨a, 0, none⟩) := by simp [h2]
  simp [results, Tryz.results8, h2, asAddr, hl, spV]
theorem spA_freshM {w w' : World} {b k : Nat} {gs : List (Nat × List UInt8)} {v : Value} {F : Assn} (hz : isZ k gs) (h : ∀ S, Sat w' (batchA 113 5 S b (.iface 62 v) 0 [] [] * whole w)) (hs : Sat w (rowsR v gs * F)) : Sat w' (btA (rowsC k gs v) (fun _ => none) b bst0 * (pool (fun _ => none) * F)) := by
  have h1 := (h (fun _ => none)).under (Sat.poolEmp hs)
  refine h1.to ?_
  unfold btA rowsC Cx.rd bst0
  ac_rfl
/-- A space that is made. -/
def SpaceQ (n : Nat) (F : Assn) (w : World) (e : Ending) (w' : World) : Prop := ∃ (x : Fx n) (b : Nat), e = .returned (spV b n) ∧ Side w w' ∧ Sat w' (fsA x b rootA (n - 2) * F)
def SpRel (n rc g : Nat) (w : World) (F : Assn) (i : Value) (wr : World) : Prop :=
  ∃ (k : Nat) (gs : List (Nat × List UInt8)), k ≤ n ∧ i = .int .i64 k ∧ isZ k gs ∧ Sat wr (pt g (.cells (rowCs n k gs) 48 (0, 0)) * (rowsA 5 gs * (pt rc (.cells #[.pointer none, .int .i64 0] 26 (0, 0)) * F))) ∧ Side w wr
set_option maxRecDepth 100000 in
set_option maxHeartbeats 2000000 in
theorem space_any (n : Nat) (h4 : 4 ≤ n) (hn : n ≤ 1000) (F : Assn) (w : World) (h : Sat w F) :
    Calls Tryz.prog 8 #[.int .i64 (n : Int)] w (SpaceQ n F w) := by
  refine callsQ fun Q HQ => ?_
  have hn' : (n : Int) ≤ 1000 := by omega
  have hA := (h.alloc (.cells #[.pointer none, .int .i64 0] 26 (0, 0)))
  have hB := hA.alloc (.cells (rowCs n 0 []) 48 (0, 0))
  have dB := SL.hid (((Side.refl w).alloc (.cells #[.pointer none, .int .i64 0] 26 (0, 0))).alloc (.cells (rowCs n 0 []) 48 (0, 0)))
  have HB := SL.hid hB
  have Hmk := SL.hid (make_rows n hn)
  have hmk : ∀ w, (Instr.makeSlice 48 (.int .i64 480) (.int .i64 480)).run Tryz.prog w = .ok (.slice (some ⟨w.heap.size, 0, none⟩) 480 480) (w.alloc (.cells (u8s (zs 480)) 5 (0, 0))) := make_bytes 480 (by omega)
  obtain ⟨ZB, hZB⟩ : ∃ Z, Z = u8s (zs 480) := ⟨_, rfl⟩
  rw [← hZB] at hmk
  have HZB := SL.hid hZB
  have hmr := Hmk.out (w.alloc (.cells #[.pointer none, .int .i64 0] 26 (0, 0)))
  rw [World.size_alloc] at hmr HB
  clear hZB h hA hB Hmk
  go_enter Tryz.func8, Tryz.ntmps8
  go_wp2_with fail
  generalize (w.alloc (.cells #[.pointer none, .int .i64 0] 26 (0, 0))).alloc (.cells (rowCs n 0 []) 48 (0, 0)) = w1 at *
  generalize hg : w.heap.size + 1 = g at *
  go_loopw [4] (fun i wr => SpRel n w.heap.size g w F i wr) (fun i _ => n - (intOf i).toNat)
  case atStart => exact ⟨0, [], Nat.zero_le _, rfl, rfl, HB.out.to (by show _ = _ * (emp * _); rw [emp_star]), dB.out⟩
  case round =>
    obtain ⟨k, gs, hk, rfl, hgs, hsat, hside⟩ := hrel
    have hk' : (k : Int) ≤ 1000 := by omega
    clear HB dB
    by_cases hlt : k < n
    · have hlt' : (k : Int) < (n : Int) := by omega
      have c0 : wr.cell? ⟨g, k, none⟩ = some (.slice none 0 0) := by rw [hsat.cell k]; exact rowCs_get (isZ_len hgs) hlt
      have hA := hsat.alloc (.cells ZB 5 (0, 0))
      have c1 : (wr.alloc (.cells ZB 5 (0, 0))).cell? ⟨g, k, none⟩ = some (.slice none 0 0) := cell_alloc _ _ _ _ c0
      have f1 : (wr.alloc (.cells ZB 5 (0, 0))).frozen? ⟨g, k, none⟩ = false := hA.front2.frozen k
      have hS := hA.front2.setCell k (.slice (some ⟨wr.heap.size, 0, none⟩) 480 480)
      have hD := (hside.alloc (.cells ZB 5 (0, 0))).setCell ⟨g, k, none⟩ (.slice (some ⟨wr.heap.size, 0, none⟩) 480 480)
      have e1 := rowCs_set (n := n) (k := k) (g := wr.heap.size) (l := zs 480) (gs := gs) hlt (isZ_len hgs)
      rw [length_zs] at e1
      rw [e1] at hS
      have HS := SL.hid hS; have HD := SL.hid hD; have Hgs := SL.hid hgs
      clear hsat hA hS hside hD hgs e1
      go_wp2_with fail
      go_roundw
      case rel =>
        refine ⟨k + 1, gs ++ [(wr.heap.size, zs 480)], by omega, by go_num, ?_, ?_, HD.out⟩
        · unfold isZ; rw [List.map_append, Hgs.out, List.replicate_succ']; rfl
        · rw [rowsA_snoc, ← HZB.out]
          exact HS.out.to (by ac_rfl)
      case measure => simp [intOf]; omega
    · have hkn : k = n := by omega
      subst hkn
      have hz := hgs
      have hrow := Sat.slOf (sz := 1) (n := k) (cap := k) hsat (Nat.le_refl _) (by unfold maxLen; omega) (by rw [rowCs_size (isZ_len hgs) (Nat.le_refl _)]; omega)
      have hrr : Sat wr (rowsR (.slice (some ⟨g, 0, none⟩) k k) gs * (pt w.heap.size (.cells #[.pointer none, .int .i64 0] 26 (0, 0)) * F)) := by
        unfold rowsR
        rw [isZ_len hgs]
        refine hrow.to ?_
        rw [rowCs_all, List.take_of_length_le (by rw [Nat.mul_one]; simp [rowVals, isZ_len hgs])]
        ac_rfl
      have hnw := SL.hid (new_any wr 62 (.slice (some ⟨g, 0, none⟩) k k))
      have HRR := SL.hid hrr; have HZ := SL.hid hz; have HS := SL.hid hside
      clear hsat hgs hz hrow hrr hside
      go_wp2_with fail
      (with_reducible refine hnw.out.mono ?_)
      rintro e w3 ⟨b, rfl, h3, d3⟩
      have hf3 := spA_freshM (k := k) HZ.out h3 HRR.out
      have hB := hf3.alloc (.cells #[.pointer (some ⟨b, 0, none⟩), .int .i64 (k : Int)] 26 (0, 0))
      have DB := SL.hid ((HS.out.trans d3).alloc (.cells #[.pointer (some ⟨b, 0, none⟩), .int .i64 (k : Int)] 26 (0, 0)))
      have hf := sp_format (rowsC k gs (.slice (some ⟨g, 0, none⟩) k k)) (rowsC_ok _ HZ.out hn) k h4 (by omega) b bst0 _ (fun _ => none) (pt w3.heap.size (.cells #[.pointer (some ⟨b, 0, none⟩), .int .i64 (k : Int)] 26 (0, 0)) * (pt w.heap.size (.cells #[.pointer none, .int .i64 0] 26 (0, 0)) * F)) (hB.to (by ac_rfl))
      have Hf := SL.hid hf; have HX := SL.hid hB
      clear hf hf3 hB h3 d3 hnw HRR HS HX
      go_wp2_with fail
      refine Hf.out.mono ?_
      clear Hf
      rintro e w4 ⟨S', hE, d4, rfl, h5⟩
      have hm := made_abs h4 (by omega : k ≤ 3840)
      have e2 : (wrun (wformat (rowsC k gs (.slice (some ⟨g, 0, none⟩) k k)).ask) bst0) = (wrun (wformat (zask k)) bst0) := rfl
      rw [e2] at h5 ⊢
      rw [hm.1]
      have h6 : Sat w4 (fsA (rowsX k h4 hn gs (.slice (some ⟨g, 0, none⟩) k k) HZ.out) b rootA (k - 2) * (pt w3.heap.size (.cells #[.pointer (some ⟨b, 0, none⟩), .int .i64 (k : Int)] 26 (0, 0)) * (pt w.heap.size (.cells #[.pointer none, .int .i64 0] 26 (0, 0)) * F))) :=
        Sat.fShut (x := rowsX k h4 hn gs (.slice (some ⟨g, 0, none⟩) k k) HZ.out) hm.2 (Sat.mShut (S := S') (S' := S') (fun _ _ h => h) (h5.to (by show _ = _ * (_ * (emp * _)); rw [emp_star]; rfl)))
      generalize (w3.alloc (.cells #[.pointer (some ⟨b, 0, none⟩), .int .i64 (k : Int)] 26 (0, 0))) = w3' at *
      generalize w3.heap.size = sc at *
      generalize w.heap.size = rc at *
      have h7 := h6.to (by ac_rfl : _ = pt rc (.cells #[.pointer none, .int .i64 0] 26 (0, 0)) * (pt sc (.cells #[.pointer (some ⟨b, 0, none⟩), .int .i64 (k : Int)] 26 (0, 0)) * (fsA (rowsX k h4 hn gs (.slice (some ⟨g, 0, none⟩) k k) HZ.out) b rootA (k - 2) * F)))
      have c0 := h7.front2.cell 0
      have c1 := h7.front2.cell 1
      have r0 := h7.cell 0
      have r1 := h7.cell 1
      have f0 := h7.frozen 0
      have f1 := h7.frozen 1
      have h8 := (h7.setCell 0 (.pointer (some ⟨b, 0, none⟩))).setCell 1 (.int .i64 (k : Int))
      have H8 := SL.hid h8
      have D8 := SL.hid (((DB.out.trans d4).setCell ⟨rc, 0, none⟩ (.pointer (some ⟨b, 0, none⟩))).setCell ⟨rc, 1, none⟩ (.int .i64 (k : Int)))
      have hne : rc ≠ sc := Sat.ne h7
      simp at c0 c1 r0 r1
      clear h5 h6 h7 h8 hm e2 DB d4
      go_wp2_with fail
      all_goals
        exact bodyPost_ret (space_results rfl H8.out) rfl (HQ.out _ _ ⟨_, b, rfl, D8.out, H8.out.right.right⟩)
end Go.Proofs.YtaoohjeaaccnfaaGreat.Fs
namespace Go.Proofs.YtaoohjeaaccnfaaGreat.Fs
set_option linter.unusedVariables false
set_option linter.unusedSimpArgs false
open Go.RowKit Go.SL Go.Proofs.YtaoohjeaaccnfaaGreat.Ba
/-- The root alone, with these entries. -/
def tA (L : List Ent) : Nat → Option AF := upO rootA 1 (some (dirF 1 L))
theorem tA_1 (L : List Ent) : tA L 1 = some (dirF 1 L) := by unfold tA upO; exact if_pos rfl
theorem tA_up (L : List Ent) (L' : List Ent) : upO (tA L) 1 (some (dirF 1 L')) = tA L' := upO_up _ _ _ _
theorem tA_nil : rootA = tA [] := by
  funext i
  unfold tA upO rootA
  split
  · rw [dirF_new]
  · rfl
/-- A space of n blocks whose root has these entries. -/
def dS {n : Nat} (x : Fx n) (b : Nat) (L : List Ent) : Assn := fact (okL L ∧ L.length ≤ 3840 ∧ needD L.length ≤ n - 1) * fsA x b (tA L) (n - 1 - needD L.length)
section
variable {n : Nat} {x : Fx n} {b : Nat} {L : List Ent} {w w' : World} {F : Assn} {nm : List UInt8}
theorem dS_open (h : Sat w (dS x b L * F)) : (okL L ∧ L.length ≤ 3840 ∧ needD L.length ≤ n - 1) ∧ Sat w (fsA x b (tA L) (n - 1 - needD L.length) * F) := Sat.fact_iff.1 (h.to (star_assoc _ _ _))
theorem dS_shut (h0 : okL L) (h1 : L.length ≤ 3840) (h2 : needD L.length ≤ n - 1) (h : Sat w (fsA x b (tA L) (n - 1 - needD L.length) * F)) : Sat w (dS x b L * F) :=
  (Sat.fact_iff.2 ⟨⟨h0, h1, h2⟩, h⟩ : Sat w (fact _ * _)).to (star_assoc _ _ _).symm
theorem dS_made (h : Sat w (fsA x b rootA (n - 2) * F)) (h4 : 4 ≤ n) : Sat w (dS x b [] * F) :=
  dS_shut (fun _ h => (by cases h)) (by decide) (by show needD 0 ≤ _; have : needD 0 = 1 := rfl; omega) (by rw [← tA_nil]; exact h)
def TE (x : Fx n) (b : Nat) (L : List Ent) (c : Int) (F : Assn) (w : World) (e : Ending) (w' : World) : Prop := e = .returned (.int .i64 c) ∧ Side w w' ∧ Sat w' (dS x b L * F)
def TI (x : Fx n) (b : Nat) (L : List Ent) (v c : Int) (F : Assn) (w : World) (e : Ending) (w' : World) : Prop := e = .returned (.tuple #[.int .i64 v, .int .i64 c]) ∧ Side w w' ∧ Sat w' (dS x b L * F)
theorem TE.of {L' : List Ent} {k : Nat} {c : Int} {e : Ending} (h : YE x b (tA L') k c F w e w') (h0 : okL L') (h1 : L'.length ≤ 3840) (h2 : needD L'.length ≤ n - 1) (hk : k = n - 1 - needD L'.length) : TE x b L' c F w e w' := by
  subst hk
  obtain ⟨he, d, hs⟩ := h
  exact ⟨he, d, dS_shut h0 h1 h2 hs⟩
variable (h : Sat w (dS x b L * F))
include h
theorem t_addY {child : Nat} (hc1 : 1 ≤ child) (hc2 : child ≤ 3839) (hi : nameOk nm = true) (hp : plc L nm = none) (hl : L.length < 3840) (hk : needD (L.length + 1) ≤ n - 1) :
    Calls Tryz.prog 11 #[spV b n, .int .i64 1, .string (str nm), .int .i64 (child : Int)] w (TE x b (L ++ [⟨child, nm⟩]) 0 F w) := by
  obtain ⟨⟨h0, h1, h2⟩, h3⟩ := dS_open h
  refine (add_yes (id := 1) hc1 hc2 h3 (tA_1 L) h0 hl hi hp (by omega)).mono fun e w' hq => ?_
  rw [tA_up] at hq
  exact TE.of hq (okL_snoc h0 (Ent.ok_iff.2 ⟨hc1, hc2, nameOk_nm hi⟩)) (by rw [List.length_append, List.length_singleton]; omega) (by rw [List.length_append, List.length_singleton]; exact hk) (by rw [List.length_append, List.length_singleton]; omega)
theorem t_addN {child : Nat} (hc1 : 1 ≤ child) (hc2 : child ≤ 3839) (hi : nameOk nm = true) (hp : plc L nm = none) (hl : L.length < 3840) (hk : n - 1 < needD (L.length + 1)) :
    Calls Tryz.prog 11 #[spV b n, .int .i64 1, .string (str nm), .int .i64 (child : Int)] w (TE x b L 7 F w) := by
  obtain ⟨⟨h0, h1, h2⟩, h3⟩ := dS_open h
  exact (add_no (id := 1) hc1 hc2 h3 (tA_1 L) h0 hl hi hp (by omega)).mono fun e w' hq => TE.of hq h0 h1 h2 rfl
theorem t_addX {child i : Nat} (hc1 : 1 ≤ child) (hc2 : child ≤ 3839) (hi : nameOk nm = true) (hp : plc L nm = some i) :
    Calls Tryz.prog 11 #[spV b n, .int .i64 1, .string (str nm), .int .i64 (child : Int)] w (TE x b L 6 F w) := by
  obtain ⟨⟨h0, h1, h2⟩, h3⟩ := dS_open h
  exact (add_exist (id := 1) hc1 hc2 h3 (tA_1 L) h0 h1 hi hp).mono fun e w' hq => TE.of hq h0 h1 h2 rfl
theorem t_addA {child : Nat} (hi : nameOk nm = false) :
    Calls Tryz.prog 11 #[spV b n, .int .i64 1, .string (str nm), .int .i64 (child : Int)] w (TE x b L 1 F w) := by
  obtain ⟨⟨h0, h1, h2⟩, h3⟩ := dS_open h
  exact (add_arg (id := 1) h3 (tA_1 L) h0 h1 hi).mono fun e w' hq => TE.of hq h0 h1 h2 rfl
theorem t_rmY {i : Nat} (hp : plc L nm = some i) :
    Calls Tryz.prog 9 #[spV b n, .int .i64 1, .string (str nm)] w (TE x b (rmE L i) 0 F w) := by
  obtain ⟨⟨h0, h1, h2⟩, h3⟩ := dS_open h
  have hL := plc_lt hp
  have hm : needD (L.length - 1) ≤ needD L.length := by unfold needD; split <;> split <;> omega
  refine (remove_yes (id := 1) h3 (tA_1 L) h0 h1 hp).mono fun e w' hq => ?_
  rw [tA_up] at hq
  exact TE.of hq (okL_rmE h0 hL) (by rw [rmE_length]; omega) (by rw [rmE_length]; omega) (by rw [rmE_length]; omega)
theorem t_rmN (hp : plc L nm = none) :
    Calls Tryz.prog 9 #[spV b n, .int .i64 1, .string (str nm)] w (TE x b L 5 F w) := by
  obtain ⟨⟨h0, h1, h2⟩, h3⟩ := dS_open h
  exact (remove_no (id := 1) h3 (tA_1 L) h0 h1 hp).mono fun e w' hq => TE.of hq h0 h1 h2 rfl
theorem t_findY {i : Nat} {E : Ent} (hp : plc L nm = some i) (hE : L[i]? = some E) :
    Calls Tryz.prog 14 #[spV b n, .int .i64 1, .string (str nm)] w (TI x b L E.nd 0 F w) := by
  obtain ⟨⟨h0, h1, h2⟩, h3⟩ := dS_open h
  have hL := plc_lt hp
  have eE : L[i] = E := by rw [List.getElem?_eq_getElem hL] at hE; exact Option.some.inj hE
  refine (find_yes (id := 1) h3 (tA_1 L) h0 h1 hp hL).mono fun e w' hq => ?_
  obtain ⟨he, d, hs⟩ := hq
  exact ⟨by rw [he, eE], d, dS_shut h0 h1 h2 hs⟩
theorem t_findN (hp : plc L nm = none) :
    Calls Tryz.prog 14 #[spV b n, .int .i64 1, .string (str nm)] w (TI x b L 0 5 F w) := by
  obtain ⟨⟨h0, h1, h2⟩, h3⟩ := dS_open h
  refine (find_no (id := 1) h3 (tA_1 L) h0 h1 hp).mono fun e w' hq => ?_
  obtain ⟨he, d, hs⟩ := hq
  exact ⟨he, d, dS_shut h0 h1 h2 hs⟩
set_option maxRecDepth 100000 in
theorem walk_nil : Calls Tryz.prog 23 #[spV b n, .slice none 0 0] w (TI x b L 1 0 F w) := by
  refine callsQ fun Q HQ => ?_
  have hA := SL.hid (h.alloc (spO b n)).right
  have dA := SL.hid ((Side.refl w).alloc (spO b n))
  clear h
  unfold spV
  go_enter Tryz.func23, Tryz.ntmps23
  go_wp2_with fail
  refine wp_loop_rounds 1 ?_
  rw [rounds_succ]
  go_wp2_with fail
  exact HQ.out _ _ ⟨by simp, dA.out, hA.out⟩
end
end Go.Proofs.YtaoohjeaaccnfaaGreat.Fs
namespace Go.Proofs.YtaoohjeaaccnfaaGreat.Fs
set_option linter.unusedVariables false
set_option linter.unusedSimpArgs false
open Go.RowKit Go.SL Go.Proofs.YtaoohjeaaccnfaaGreat.Ba
set_option maxRecDepth 100000 in
set_option maxHeartbeats 4000000 in
theorem shown18_any (w : World) : Calls Tryz.prog 7 #[] w (LawQ w) := by
  refine callsQ fun Q HQ => ?_
  have hm := space_any 40 (by decide) (by decide) _ w (Sat.whole w)
  go_enter Tryz.func7, Tryz.ntmps7
  go_wp2_with fail
  refine hm.mono ?_
  rintro e w1 ⟨x, b, rfl, d1, h1⟩
  clear hm
  have hA := (dS_made h1 (by decide)).alloc (.cells #[.pointer (some ⟨b, 0, none⟩), .int .i64 40] 26 (0, 0))
  have D := SL.hid (d1.alloc (.cells #[.pointer (some ⟨b, 0, none⟩), .int .i64 40] 26 (0, 0)))
  have H : Hid (Sat (w1.alloc (.cells #[.pointer (some ⟨b, 0, none⟩), .int .i64 40] 26 (0, 0))) (dS x b ([] : List Ent) * (pt w1.heap.size (spO b 40) * whole w))) := hA.to (by ac_rfl)
  clear h1 hA d1
  unfold spV
  go_wp2_with fail
  generalize w1.alloc (.cells #[.pointer (some ⟨b, 0, none⟩), .int .i64 40] 26 (0, 0)) = w0 at *
  generalize w1.heap.size = sc at *
  have hc0 : Calls _ _ _ _ (TE x b ([⟨2, [97]⟩] : List Ent) 0 (pt sc (spO b 40) * whole w) _) := t_addY (x := x) (n := 40) (b := b) (nm := [97]) (child := 2) (L := []) H.out (by decide) (by decide) (by decide) (by decide) (by decide) (by decide)
  refine hc0.mono ?_
  clear hc0
  rintro e w2 ⟨rfl, d, h⟩
  replace D := SL.hid (D.out.trans d)
  replace H := SL.hid h
  clear h d
  have cA0 : w2.cell? ⟨sc, 0, none⟩ = some (.pointer (some ⟨b, 0, none⟩)) := H.out.front2.cell 0
  have cB0 : w2.cell? ⟨sc, 1, none⟩ = some (.int .i64 40) := H.out.front2.cell 1
  go_wp2_with fail
  have hc1 : Calls _ _ _ _ (TE x b ([⟨2, [97]⟩, ⟨3, [98]⟩] : List Ent) 0 (pt sc (spO b 40) * whole w) _) := t_addY (x := x) (n := 40) (b := b) (nm := [98]) (child := 3) (L := [⟨2, [97]⟩]) H.out (by decide) (by decide) (by decide) (by decide) (by decide) (by decide)
  refine hc1.mono ?_
  clear hc1
  rintro e w3 ⟨rfl, d, h⟩
  replace D := SL.hid (D.out.trans d)
  replace H := SL.hid h
  clear h d
  have cA1 : w3.cell? ⟨sc, 0, none⟩ = some (.pointer (some ⟨b, 0, none⟩)) := H.out.front2.cell 0
  have cB1 : w3.cell? ⟨sc, 1, none⟩ = some (.int .i64 40) := H.out.front2.cell 1
  go_wp2_with fail
  have hc2 : Calls _ _ _ _ (TE x b ([⟨2, [97]⟩, ⟨3, [98]⟩] : List Ent) 6 (pt sc (spO b 40) * whole w) _) := t_addX (x := x) (n := 40) (b := b) (nm := [98]) (child := 4) (i := 1) (L := [⟨2, [97]⟩, ⟨3, [98]⟩]) H.out (by decide) (by decide) (by decide) (by decide)
  refine hc2.mono ?_
  clear hc2
  rintro e w4 ⟨rfl, d, h⟩
  replace D := SL.hid (D.out.trans d)
  replace H := SL.hid h
  clear h d
  have cA2 : w4.cell? ⟨sc, 0, none⟩ = some (.pointer (some ⟨b, 0, none⟩)) := H.out.front2.cell 0
  have cB2 : w4.cell? ⟨sc, 1, none⟩ = some (.int .i64 40) := H.out.front2.cell 1
  go_wp2_with fail
  have hc3 : Calls _ _ _ _ (TE x b ([⟨3, [98]⟩] : List Ent) 0 (pt sc (spO b 40) * whole w) _) := t_rmY (x := x) (n := 40) (b := b) (nm := [97]) (i := 0) (L := [⟨2, [97]⟩, ⟨3, [98]⟩]) H.out (by decide)
  refine hc3.mono ?_
  clear hc3
  rintro e w5 ⟨rfl, d, h⟩
  replace D := SL.hid (D.out.trans d)
  replace H := SL.hid h
  clear h d
  have cA3 : w5.cell? ⟨sc, 0, none⟩ = some (.pointer (some ⟨b, 0, none⟩)) := H.out.front2.cell 0
  have cB3 : w5.cell? ⟨sc, 1, none⟩ = some (.int .i64 40) := H.out.front2.cell 1
  go_wp2_with fail
  have hc4 : Calls _ _ _ _ (TI x b ([⟨3, [98]⟩] : List Ent) 3 0 (pt sc (spO b 40) * whole w) _) := t_findY (x := x) (n := 40) (b := b) (nm := [98]) (i := 0) (E := ⟨3, [98]⟩) (L := [⟨3, [98]⟩]) H.out (by decide) (by decide)
  refine hc4.mono ?_
  clear hc4
  rintro e w6 ⟨rfl, d, h⟩
  replace D := SL.hid (D.out.trans d)
  replace H := SL.hid h
  clear h d
  have cA4 : w6.cell? ⟨sc, 0, none⟩ = some (.pointer (some ⟨b, 0, none⟩)) := H.out.front2.cell 0
  have cB4 : w6.cell? ⟨sc, 1, none⟩ = some (.int .i64 40) := H.out.front2.cell 1
  go_wp2_with fail
  have hc5 : Calls _ _ _ _ (TI x b ([⟨3, [98]⟩] : List Ent) 0 5 (pt sc (spO b 40) * whole w) _) := t_findN (x := x) (n := 40) (b := b) (nm := [97]) (L := [⟨3, [98]⟩]) H.out (by decide)
  refine hc5.mono ?_
  clear hc5
  rintro e w7 ⟨rfl, d, h⟩
  replace D := SL.hid (D.out.trans d)
  replace H := SL.hid h
  clear h d
  have cA5 : w7.cell? ⟨sc, 0, none⟩ = some (.pointer (some ⟨b, 0, none⟩)) := H.out.front2.cell 0
  have cB5 : w7.cell? ⟨sc, 1, none⟩ = some (.int .i64 40) := H.out.front2.cell 1
  go_wp2_with fail
  have hc6 : Calls _ _ _ _ (TI x b ([⟨3, [98]⟩] : List Ent) 1 0 (pt sc (spO b 40) * whole w) _) := walk_nil (x := x) (n := 40) (b := b) (L := [⟨3, [98]⟩]) H.out
  refine hc6.mono ?_
  clear hc6
  rintro e w8 ⟨rfl, d, h⟩
  replace D := SL.hid (D.out.trans d)
  replace H := SL.hid h
  clear h d
  have cA6 : w8.cell? ⟨sc, 0, none⟩ = some (.pointer (some ⟨b, 0, none⟩)) := H.out.front2.cell 0
  have cB6 : w8.cell? ⟨sc, 1, none⟩ = some (.int .i64 40) := H.out.front2.cell 1
  go_wp2_with fail
  have hc7 : Calls _ _ _ _ (TE x b ([⟨3, [98]⟩] : List Ent) 1 (pt sc (spO b 40) * whole w) _) := t_addA (x := x) (n := 40) (b := b) (nm := [120, 47, 121]) (child := 4) (L := [⟨3, [98]⟩]) H.out (by decide)
  refine hc7.mono ?_
  clear hc7
  rintro e w9 ⟨rfl, d, h⟩
  replace D := SL.hid (D.out.trans d)
  replace H := SL.hid h
  clear h d
  have cA7 : w9.cell? ⟨sc, 0, none⟩ = some (.pointer (some ⟨b, 0, none⟩)) := H.out.front2.cell 0
  have cB7 : w9.cell? ⟨sc, 1, none⟩ = some (.int .i64 40) := H.out.front2.cell 1
  go_wp2_with fail
  exact HQ.out _ _ ⟨by simp, H.out.right.right, D.out⟩
end Go.Proofs.YtaoohjeaaccnfaaGreat.Fs

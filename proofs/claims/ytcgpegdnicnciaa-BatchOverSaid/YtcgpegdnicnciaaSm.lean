/- same: two lists of writes that are alike. -/
import Derived.Test.YtcgpegdnicnciaaLi
import Derived.Test.YtcgpegdnicnciaaL2
namespace Go.SL
set_option linter.unusedVariables false
set_option linter.unusedSimpArgs false
open Go.RowKit
theorem flatW_get : ∀ (Z : List (Int × Value × List UInt8)) (i : Nat) (h : i < Z.length), (flatW Z)[i * 2]? = some (.int .i64 Z[i].1) ∧ (flatW Z)[i * 2 + 1]? = some Z[i].2.1 := by
  intro Z
  induction Z with
  | nil => intro i h; simp at h
  | cons z Z ih =>
    intro i h
    cases i with
    | zero => simp [flatW]
    | succ i =>
      have := ih i (by simpa using h)
      rw [show (i + 1) * 2 = i * 2 + 1 + 1 by omega]
      simpa [flatW] using this
theorem Sat.writeCells {w : World} {TW : TypeId} {v : Value} {n : Nat} {Z : List (Int × Value × List UInt8)} {F : Assn} (h : Sat w (sl TW 2 v n (flatW Z) * F)) {i : Nat} (hi : i < Z.length) (hn : 0 < n) {g c : Nat} (hv : v = .slice (some ⟨g, 0, none⟩) n c) :
    w.cell? ⟨g, i * 2, none⟩ = some (.int .i64 Z[i].1) ∧ w.cell? ⟨g, i * 2 + 1, none⟩ = some Z[i].2.1 := by
  obtain ⟨a, b⟩ := flatW_get Z i hi
  obtain ⟨_, hr⟩ := h.rds
  rcases hr with ⟨rfl, h0⟩ | ⟨ad, c', he, ha⟩
  · cases hv
  · rw [hv] at he; cases he
    exact ⟨by have := ha _ _ a; rwa [Addr.add_lit, Nat.zero_add] at this, by have := ha _ _ b; rwa [Addr.add_lit, Nat.zero_add] at this⟩
end Go.SL
namespace Go.Proofs.Ytcgpegdnicnciaa
set_option linter.unusedVariables false
set_option linter.unusedSimpArgs false
open Go.RowKit Go.SL
def SameQ (w : World) (e : Ending) (w' : World) : Prop := e = .returned (.bool true) ∧ (∀ X, Sat w X → Sat w' X) ∧ Side w w'
def SameRel (w : World) (n : Nat) (v : Value) (wr : World) : Prop := ∃ i : Nat, i ≤ n ∧ v = .int .i64 i ∧ (∀ X, Sat w X → Sat wr X) ∧ Side w wr
set_option maxRecDepth 100000 in
set_option maxHeartbeats 2000000 in
theorem same_yes (w : World) (S : Hp) (va vb : Value) (L : CB) (F : Assn) (hL : L.length ≤ 1000000)
    (h : Sat w (writesA 61 5 S va L * (writesA 61 5 S vb L * (pool S * F)))) :
    Calls Try.prog 17 #[va, vb] w (SameQ w) := by
  obtain ⟨Z, hZ1, hZ2, h1⟩ := h.writesOpen
  obtain ⟨Y, hY1, hY2, h2⟩ := (h1.front2).writesOpen
  obtain ⟨a1, c1, rfl⟩ := sl_shape h1
  obtain ⟨a2, c2, rfl⟩ := sl_shape h2
  have hb0 : ((L.length : Int) != (L.length : Int)) = false := by simp
  obtain ⟨BIG, hBIG⟩ : ∃ B, B = sl 61 2 (.slice a2 L.length c2) L.length (flatW Y) * (sl 61 2 (.slice a1 L.length c1) L.length (flatW Z) * (pool S * F)) := ⟨_, rfl⟩
  have HB : Hid (∀ w', Sat w' BIG → Sat w' (sl 61 2 (.slice a2 L.length c2) L.length (flatW Y) * (sl 61 2 (.slice a1 L.length c1) L.length (flatW Z) * (pool S * F)))) := fun w' h => hBIG ▸ h
  have H0 : Hid (Sat w BIG) := hBIG ▸ h2
  have HZ1 := hid hZ1; have HZ2 := hid hZ2; have HY1 := hid hY1; have HY2 := hid hY2; have Hh2 := hid h2; have Hh1 := hid h1
  clear hBIG hZ1 hZ2 hY1 hY2 h2 h1 h
  go_enter Try.func17, Try.ntmps17
  go_wp2
  go_loopw [5] (fun v wr => SameRel w L.length v wr) (fun v _ => L.length - (intOf v).toNat)
  case atStart => exact ⟨0, Nat.zero_le _, rfl, fun _ h => h, Side.refl w⟩
  case round =>
    obtain ⟨i, hi, rfl, hkeep, hside⟩ := hrel
    have hi' : (i : Int) ≤ 1000000 := by omega
    by_cases hlt : i < L.length
    · have hlt' : (i : Int) < L.length := by omega
      have hZl : i < Z.length := by have := congrArg List.length HZ1.out; rw [List.length_map] at this; omega
      have hYl : i < Y.length := by have := congrArg List.length HY1.out; rw [List.length_map] at this; omega
      obtain ⟨g1, rfl⟩ : ∃ g, a1 = some ⟨g, 0, none⟩ := by
        rcases Hh1.out.slCases with ⟨_, h0, _, _⟩ | ⟨g, cap, cur, he, _⟩
        · omega
        · cases he; exact ⟨g, rfl⟩
      obtain ⟨g2, rfl⟩ : ∃ g, a2 = some ⟨g, 0, none⟩ := by
        rcases Hh2.out.slCases with ⟨_, h0, _, _⟩ | ⟨g, cap, cur, he, _⟩
        · omega
        · cases he; exact ⟨g, rfl⟩
      have cZ : ∀ w', Sat w' BIG → w'.cell? ⟨g1, i * 2, none⟩ = some (.int .i64 L[i].1) := fun w' h => by
        have := ((HB.out w' h).front2.writeCells hZl (by omega) rfl).1
        rw [this]; congr 2; have := HZ1.out; subst this; simp
      have cZ1 : ∀ w', Sat w' BIG → w'.cell? ⟨g1, i * 2 + 1, none⟩ = some Z[i].2.1 := fun w' h => ((HB.out w' h).front2.writeCells hZl (by omega) rfl).2
      have cY : ∀ w', Sat w' BIG → w'.cell? ⟨g2, i * 2, none⟩ = some (.int .i64 L[i].1) := fun w' h => by
        have := ((HB.out w' h).writeCells hYl (by omega) rfl).1
        rw [this]; congr 2; have := HY1.out; subst this; simp
      have cY1 : ∀ w', Sat w' BIG → w'.cell? ⟨g2, i * 2 + 1, none⟩ = some Y[i].2.1 := fun w' h => ((HB.out w' h).writeCells hYl (by omega) rfl).2
      have eZ : Val 5 S Z[i].2.1 L[i].2 := by have := HZ2.out _ (List.getElem_mem hZl); have e := HZ1.out; subst e; simpa using this
      have eY : Val 5 S Y[i].2.1 L[i].2 := by have := HY2.out _ (List.getElem_mem hYl); have e := HY1.out; subst e; simpa using this
      have xZ : ∀ w', Sat w' BIG → (convert 31 9 Z[i].2.1).run Try.prog w' = .ok (.string (str L[i].2)) w' := fun w' h => run_text w' _ _ (eZ.rd ((HB.out w' h).front3))
      have xY : ∀ w', Sat w' BIG → (convert 31 9 Y[i].2.1).run Try.prog w' = .ok (.string (str L[i].2)) w' := fun w' h => run_text w' _ _ (eY.rd ((HB.out w' h).front3))
      have H9 : Sat wr BIG := hkeep _ H0.out
      have hid0 : (L[i].1 != L[i].1) = false := by simp
      clear eZ eY
      generalize Z[i].2.1 = dz at cZ1 xZ
      generalize Y[i].2.1 = dy at cY1 xY
      generalize L[i].2 = li at xZ xY
      generalize L[i].1 = idi at cZ cY hid0
      go_wp2_with fail
      go_region_held (fun w' => Sat w' BIG) (first | assumption | exact H9.drew) (fail)
      go_wp2
      go_roundw
      case rel => exact ⟨i + 1, by omega, by go_num, fun X hX => (hkeep X hX).drew, hside.drew⟩
      case measure => simp [intOf]; omega
    · obtain rfl : i = L.length := by omega
      go_wp2
      go_ret
      exact ⟨rfl, hkeep, hside⟩
end Go.Proofs.Ytcgpegdnicnciaa

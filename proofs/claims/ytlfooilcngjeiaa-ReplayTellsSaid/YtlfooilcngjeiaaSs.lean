/- The sort of uint32: heapSort (printed by mksort.py). -/
import Derived.Test.YtlfooilcngjeiaaSr
namespace Go.Proofs.Ytlfooilcngjeiaa
set_option linter.unusedVariables false
set_option linter.unusedSimpArgs false
open Go.RowKit Go.SL Go.Sort
def HpRel (g : Nat) (d0 : Array Int) (hi first : Nat) (tl : List Value) (F : Assn) (w : World) (u9 : Value) (wr : World) : Prop :=
  ∃ (k : Nat) (d : Array Int), u9 = .int .i64 ((k : Int) - 1) ∧ k ≤ hi + 1 ∧ (k = 0 ∨ k - 1 ≤ hi) ∧ d.size = d0.size ∧ heapBuild ltInt hi first k d = heapBuild ltInt hi first ((hi - 1) / 2 + 1) d0 ∧ Sat wr (uA g d tl * F) ∧ Side w wr
def HpRel2 (g : Nat) (d0 d1 : Array Int) (hi first : Nat) (tl : List Value) (F : Assn) (w : World) (u10 : Value) (wr : World) : Prop :=
  ∃ (k : Nat) (d : Array Int), u10 = .int .i64 ((k : Int) - 1) ∧ k ≤ hi ∧ d.size = d0.size ∧ heapPop ltInt first k d = heapPop ltInt first hi d1 ∧ Sat wr (uA g d tl * F) ∧ Side w wr
theorem sift_size (lt : Int → Int → Bool) (hi first : Nat) : ∀ (n root : Nat) (d : Array Int), hi - root ≤ n → (siftDown lt hi first root d).size = d.size := by
  intro n
  induction n with
  | zero => intro root d h; rw [siftDown.eq_1, dif_pos (by omega)]
  | succ n ih =>
    intro root d h
    rw [siftDown.eq_1]
    split
    · rfl
    · split
      · split
        · rfl
        · split
          · rw [ih _ _ (by omega)]; simp [swp]
          · rfl
      · split
        · rfl
        · rw [ih _ _ (by omega)]; simp [swp]
set_option maxRecDepth 100000 in
set_option maxHeartbeats 4000000 in
theorem heap_any (g : Nat) (d0 : Array Int) (a b cap : Nat) (tl : List Value) (w : World) (F : Assn) (h : Sat w (uA g d0 tl * F)) (hab : a + 1 ≤ b) (hb : b ≤ d0.size) (hsz : d0.size ≤ 1000000000) (hcap : d0.size ≤ cap) :
    Calls Try.prog 118 #[.slice (some ⟨g, 0, none⟩) d0.size cap, .int .i64 (a : Int), .int .i64 (b : Int)] w (ArrQ g (heapSort ltInt d0 a b) tl F w) := by
  have hs' : (d0.size : Int) ≤ 1000000000 := by omega
  have hb' : (b : Int) ≤ 1000000000 := by omega
  have ha' : (a : Int) ≤ 1000000000 := by omega
  obtain ⟨hi, hhi⟩ : ∃ hi, hi = b - a := ⟨_, rfl⟩
  have e1 : (b : Int) - (a : Int) = (hi : Int) := by omega
  have hh' : (hi : Int) ≤ 1000000000 := by omega
  have hh1 : (1 : Int) ≤ (hi : Int) := by omega
  have e2 : ((hi : Int) - 1) / 2 = (((hi - 1) / 2 + 1 : Nat) : Int) - 1 := by omega
  have e3 : ((hi : Int) - 1).tdiv 2 = (((hi - 1) / 2 + 1 : Nat) : Int) - 1 := by rw [Int.tdiv_eq_ediv_of_nonneg (by omega)]; exact e2
  have hres : heapSort ltInt d0 a b = heapPop ltInt a hi (heapBuild ltInt hi a ((hi - 1) / 2 + 1) d0) := by unfold heapSort; rw [hhi]
  rw [hres]
  have E2 := SL.hid e2; have E3 := SL.hid e3; have Hhi := SL.hid hhi
  clear e2 e3 hres hhi
  go_enter Try.func118, Try.ntmps118
  go_wp2_with fail
  go_loopw [9] (fun u9 wr => HpRel g d0 hi a tl F w u9 wr) (fun u9 _ => (intOf u9 + 1).toNat)
  case atStart => exact ⟨(hi - 1) / 2 + 1, d0, by first | rw [← E2.out] | rw [← E3.out], by omega, by omega, rfl, rfl, h, Side.refl w⟩
  case round =>
    clear h
    obtain ⟨k, d, rfl, hk1, hk2, hds, hr, hsat, hside⟩ := hrel
    match k, hk1, hk2, hr with
    | 0, hk1, hk2, hr =>
      have hr2 : d = heapBuild ltInt hi a ((hi - 1) / 2 + 1) d0 := hr
      have Hb := SL.hid hr2
      have H6 := SL.hid hds; have H4 := SL.hid hsat
      clear hr hr2 hds hsat hk2
      go_wp2_with fail
      go_loopw [10] (fun u10 wr => HpRel2 g d0 d hi a tl F w u10 wr) (fun u10 _ => (intOf u10 + 1).toNat)
      case atStart => exact ⟨hi, d, rfl, Nat.le_refl _, H6.out, rfl, H4.out, hside⟩
      case round =>
        clear H4 H6 hside
        obtain ⟨k, d2, rfl, hk1, hds2, hr2, hsat, hside⟩ := hrel
        match k, hk1, hr2 with
        | 0, hk1, hr2 =>
          have hr3 : d2 = heapPop ltInt a hi d := hr2
          have Hr3 := SL.hid hr3
          clear hr2 hr3
          go_wp2_with fail
          go_end0
          exact ⟨rfl, by rw [← Hb.out, ← Hr3.out]; exact hsat, hside⟩
        | k + 1, hk1, hr2 =>
          have hr3 : heapPop ltInt a k (siftDown ltInt k a 0 (swp d2 a (a + k))) = heapPop ltInt a hi d := hr2
          have hkm : (((k + 1 : Nat) : Int) - 1) = (k : Int) := by omega
          rw [hkm]
          obtain ⟨ak, hak⟩ : ∃ x, x = a + k := ⟨_, rfl⟩
          rw [← hak] at hr3
          have s11 : (a : Int) + (k : Int) = (ak : Int) := by omega
          have s12 : IntKind.i64.wrap ((a : Int) + (k : Int)) = (ak : Int) := by rw [IntKind.wrap_i64]; omega
          have s13 : IntKind.i64.wrap (ak : Int) = (ak : Int) := by rw [IntKind.wrap_i64]; omega
          have k0 : (0 : Int) ≤ (k : Int) := by omega
          have b1 : (ak : Int) < (d0.size : Int) := by have := Hhi.out; omega
          have b2 : (a : Int) < (d0.size : Int) := by omega
          have hds3 : (swp d2 a ak).size = d0.size := by rw [← hds2]; simp [swp]
          have hds4 : (siftDown ltInt k a 0 (swp d2 a ak)).size = d0.size := by rw [sift_size _ _ _ (k - 0) _ _ (Nat.le_refl _)]; exact hds3
          have H3 := SL.hid hr3; have H6 := SL.hid hds2; have H7 := SL.hid hds3; have H8 := SL.hid hds4; have H4 := SL.hid hsat; have Hak := SL.hid hak
          clear hr2 hr3 hds2 hds3 hds4 hsat hak hkm
          obtain ⟨ci, cj, fi, fj, ⟨v, hv⟩, fj2, hs⟩ := uA_swp H4.out (i := a) (j := ak) (by rw [H6.out]; omega) (by rw [H6.out]; have := Hak.out; have := Hhi.out; omega)
          generalize d2[a]! = da at *
          generalize d2[ak]! = dk at *
          have H1 := SL.hid hs
          clear hs
          go_wp2_with fail
          go_region_law (fail)
          all_goals
            have hsf := sift_any g (swp d2 a ak) 0 k a cap tl _ F (H1.out.drew) (by omega) (by rw [H7.out]; have := Hhi.out; omega) (by rw [H7.out]; exact hsz) (by rw [H7.out]; exact hcap)
            rw [H7.out, show ((0 : Nat) : Int) = 0 from rfl] at hsf
            go_wp2_with fail
            (with_reducible refine hsf.mono ?_)
            rintro e w9 ⟨rfl, h9, d9⟩
            have H9 := SL.hid h9
            have D9 := (((hside.setCell ⟨g, a, none⟩ (.int .u32 dk)).setCell ⟨g, ak, none⟩ (.int .u32 da)).drew).trans d9
            clear hsf h9 d9
            go_wp2_with fail
            go_roundw
            case rel => first | exact ⟨k, siftDown ltInt k a 0 (swp d2 a ak), rfl, by omega, H8.out, H3.out, H9.out, D9⟩ | ((repeat apply Exists.intro); exact ⟨⟨k, siftDown ltInt k a 0 (swp d2 a ak), rfl, by omega, H8.out, H3.out, H9.out, D9⟩, rfl⟩)
            case measure => simp [intOf] <;> omega
    | k + 1, hk1, hk2, hr =>
      have hr3 : heapBuild ltInt hi a k (siftDown ltInt hi a k d) = heapBuild ltInt hi a ((hi - 1) / 2 + 1) d0 := hr
      have hkm : (((k + 1 : Nat) : Int) - 1) = (k : Int) := by omega
      rw [hkm]
      have k0 : (0 : Int) ≤ (k : Int) := by omega
      have hkb : (k : Int) ≤ 1000000000 := by omega
      have hds4 : (siftDown ltInt hi a k d).size = d0.size := by rw [sift_size _ _ _ (hi - k) _ _ (Nat.le_refl _)]; exact hds
      have hsf := sift_any g d k hi a cap tl wr F hsat (by omega) (by rw [hds]; have := Hhi.out; omega) (by rw [hds]; exact hsz) (by rw [hds]; exact hcap)
      rw [hds] at hsf
      have H3 := SL.hid hr3; have H8 := SL.hid hds4
      clear hr hr3 hds hds4 hsat hkm hk2
      go_wp2_with fail
      (with_reducible refine hsf.mono ?_)
      rintro e w9 ⟨rfl, h9, d9⟩
      have H9 := SL.hid h9
      have D9 := hside.trans d9
      clear hsf h9 d9
      go_wp2_with fail
      go_roundw
      case rel => exact ⟨k, siftDown ltInt hi a k d, rfl, by omega, by omega, H8.out, H3.out, H9.out, D9⟩
      case measure => simp [intOf] <;> omega
end Go.Proofs.Ytlfooilcngjeiaa

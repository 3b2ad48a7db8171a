/- journal: New of what may not be; State. -/
import Derived.Test.YtlfooilcngjeiaaJd
namespace Go.Proofs.Ytlfooilcngjeiaa
set_option linter.unusedVariables false
set_option linter.unusedSimpArgs false
open Go.RowKit Go.SL
set_option maxRecDepth 100000 in
set_option maxHeartbeats 4000000 in
theorem jnew_no (w : World) (S : Hp) (d : Nat) (D : Dev) (F : Assn) (hd : Sat w (devA S d D * F)) (P : Int) (s : Js) (a : Value) (ha : RdI w a s.at_) (hP0 : -9223372036854775808 ≤ P) (hPs : P + 1 ≤ D.sec.length) (hDn : D.sec.length ≤ 20000) (hl : s.at_.length ≤ 9223372036854775807) (hq : 0 ≤ s.sq) (hr : ¬ (1 ≤ P ∧ s.Right P)) :
    Calls Try.prog 14 #[ptV d, .int .i64 P, s.v a] w (JNewNo w) := by
  obtain ⟨n, hn⟩ : ∃ n, n = s.at_.length := ⟨_, rfl⟩
  have hav : ∃ aa ac, a = .slice aa n ac := by
    rcases ha with ⟨_, _, rfl, h⟩ | ⟨g, o, c, rfl, _⟩
    · rw [hn, h]; exact ⟨_, _, rfl⟩
    · rw [hn]; exact ⟨_, _, rfl⟩
  obtain ⟨aa, ac, rfl⟩ := hav
  have hbox := (Sat.whole w).alloc (.cells #[.int .u32 s.ep, .int .u64 s.st, .int .u64 s.sq, .int .i64 s.hd, .int .i64 s.us, .slice aa n ac] 26 (0, 0))
  have hs1 := (Side.refl w).alloc (.cells #[.int .u32 s.ep, .int .u64 s.st, .int .u64 s.sq, .int .i64 s.hd, .int .i64 s.us, .slice aa n ac] 26 (0, 0))
  have hsec := sectors_any _ S d D _ (hbox.under hd).right
  have hPs' : P ≤ (D.sec.length : Int) - 1 := by omega
  have hDn' : (D.sec.length : Int) ≤ 20000 := by omega
  have hwr : IntKind.i64.wrap ((D.sec.length : Int) - 1) = (D.sec.length : Int) - 1 := by rw [IntKind.wrap_i64]; omega
  have hright := fun h1 : 1 ≤ P => right_any' P s (.slice aa n ac) _ (by omega) (by omega) hq hl (ha.under hbox) false ⟨fun h => (by cases h), fun h => absurd ⟨h1, h⟩ hr⟩
  clear hn hr hd ha hq hl
  unfold Js.v at hright ⊢
  by_cases h1 : P < 1
  · clear hright
    go_enter Try.func14, Try.ntmps14
    go_wp2_with fail
    go_ret2
    exact ⟨rfl, hbox.right, hs1⟩
  · have hright := hright (by omega)
    obtain ⟨bx, hbx⟩ : ∃ bx, bx = w.heap.size := ⟨_, rfl⟩
    go_enter Try.func14, Try.ntmps14
    go_wp2_with fail
    rw [← hbx] at hbox ⊢
    generalize w.alloc (.cells #[.int .u32 s.ep, .int .u64 s.st, .int .u64 s.sq, .int .i64 s.hd, .int .i64 s.us, .slice aa n ac] 26 (0, 0)) = w1 at hbox hs1 hsec hright ⊢
    have c0 : w1.cell? ⟨bx, 0, none⟩ = some (.int .u32 s.ep) := hbox.cell 0
    have c1 : w1.cell? ⟨bx, 1, none⟩ = some (.int .u64 s.st) := hbox.cell 1
    have c2 : w1.cell? ⟨bx, 2, none⟩ = some (.int .u64 s.sq) := hbox.cell 2
    have c3 : w1.cell? ⟨bx, 3, none⟩ = some (.int .i64 s.hd) := hbox.cell 3
    have c4 : w1.cell? ⟨bx, 4, none⟩ = some (.int .i64 s.us) := hbox.cell 4
    have c5 : w1.cell? ⟨bx, 5, none⟩ = some (.slice aa n ac) := hbox.cell 5
    clear hbx
    go_wp2_with fail
    refine hsec.mono ?_
    rintro e w1' ⟨rfl, rfl⟩
    clear hsec
    go_wp2_with fail
    refine hright.mono ?_
    rintro e w2 ⟨rfl, h2, d2⟩
    have H2 := (h2.keepW hbox).right
    have D2 := hs1.trans d2
    clear hright h2 d2 hbox hs1 c0 c1 c2 c3 c4 c5 hwr
    go_wp2
    go_ret2
    exact ⟨rfl, H2, D2⟩
/-- State: what it tells. -/
def Jr.ats (J : Jr) : List Int := (List.range J.T.ps.length).map fun i : Nat => (told J.T.ps (i : Int)).getD (-1)
def atsN (T : Tb) (n : Nat) (ys : List (Int × Int)) : List Int := ys.foldl (fun l p => l.set p.1.toNat p.2) (List.replicate n (-1))
theorem atsN_len (T : Tb) (n : Nat) (ys : List (Int × Int)) : (atsN T n ys).length = n := by
  suffices ∀ (l : List Int), (ys.foldl (fun l p => l.set p.1.toNat p.2) l).length = l.length by
    unfold atsN; rw [this]; simp
  induction ys with
  | nil => intro l; rfl
  | cons y ys ih => intro l; rw [List.foldl_cons, ih, List.length_set]
theorem atsN_snoc (T : Tb) (n : Nat) (ys : List (Int × Int)) (x : Int × Int) : atsN T n (ys ++ [x]) = (atsN T n ys).set x.1.toNat x.2 := by
  unfold atsN; rw [List.foldl_append]; rfl
theorem allN_fst (T : Tb) (k : Nat) : ∀ p ∈ allN T k, ∃ i : Nat, p.1 = (i : Int) ∧ i < k ∧ told T.ps (i : Int) = some p.2 := by
  intro p hp
  obtain ⟨i, hi, h⟩ := List.mem_filterMap.1 hp
  cases ht : told T.ps (i : Int) with
  | none => rw [ht] at h; cases h
  | some q => rw [ht] at h; cases h; exact ⟨i, rfl, List.mem_range.1 hi, ht⟩
theorem ats_all (T : Tb) (k : Nat) (hk : k ≤ T.ps.length) (i : Nat) (hi : i < T.ps.length) :
    (atsN T T.ps.length (allN T k)).getD i 0 = if i < k then (told T.ps (i : Int)).getD (-1) else -1 := by
  induction k with
  | zero => simp [allN, atsN, List.getD, hi]
  | succ k ih =>
    have ih := ih (by omega)
    rw [allN_succ]
    match ht : told T.ps (k : Int) with
    | none =>
      simp only [List.append_nil]
      rw [ih]
      by_cases h : i < k
      · rw [if_pos h, if_pos (by omega)]
      · rw [if_neg h]
        by_cases h2 : i < k + 1
        · obtain rfl : i = k := by omega
          rw [if_pos h2, ht]; rfl
        · rw [if_neg h2]
    | some q =>
      simp only
      rw [atsN_snoc, Int.toNat_natCast, List.getD, List.getElem?_set]
      by_cases h : k = i
      · subst h
        rw [if_pos rfl, if_pos (by rw [atsN_len]; exact hi), if_pos (by omega), ht]; rfl
      · rw [if_neg h]
        have : (atsN T T.ps.length (allN T k))[i]?.getD 0 = _ := ih
        rw [this]
        by_cases h2 : i < k
        · rw [if_pos h2, if_pos (by omega)]
        · rw [if_neg h2, if_neg (by omega)]
theorem ats_eq (T : Tb) : atsN T T.ps.length (tbAll T) = (List.range T.ps.length).map fun i : Nat => (told T.ps (i : Int)).getD (-1) := by
  have e : tbAll T = allN T T.ps.length := rfl
  rw [e]
  apply List.ext_getElem
  · rw [atsN_len]; simp
  · intro i h1 h2
    rw [atsN_len] at h1
    have := ats_all T T.ps.length (Nat.le_refl _) i h1
    rw [if_pos h1, List.getD, List.getElem?_eq_getElem (by rw [atsN_len]; exact h1)] at this
    rw [List.getElem_map, List.getElem_range]
    exact this
end Go.Proofs.Ytlfooilcngjeiaa

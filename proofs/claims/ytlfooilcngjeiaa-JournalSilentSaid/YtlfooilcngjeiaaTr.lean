/- tag: Right. (the ways printed by a small program) -/
import Derived.Test.YtlfooilcngjeiaaTg
namespace Go.Proofs.Ytlfooilcngjeiaa
set_option linter.unusedVariables false
set_option linter.unusedSimpArgs false
open Go.RowKit Go.SL
set_option maxRecDepth 100000 in
set_option maxHeartbeats 4000000 in
theorem right_any (t : Tg) (w : World) : Calls Try.prog 60 #[.agg t.cells] w (Tells (.bool t.ok) w) := by
  simp only [Tg.cells]
  by_cases h0 : 1 ≤ t.ep
  · skip
    by_cases h1 : 1 ≤ t.st
    · skip
      by_cases h2 : t.st ≤ t.sq
      · skip
        by_cases h3 : t.sq ≤ 281474976710655
        · skip
          by_cases h4 : t.fl < t.sq
          · skip
            by_cases h5 : 1 ≤ t.ct
            · skip
              by_cases h6 : t.ct ≤ 72
              · skip
                by_cases h7 : 0 ≤ t.ix
                · skip
                  by_cases h8 : t.ix < t.ct
                  · skip
                    by_cases h9 : 0 ≤ t.id
                    · skip
                      by_cases h10 : t.id < 3840
                      · skip
                        rw [show t.ok = true by simp [Tg.ok, h0, h1, h2, h3, h4, h5, h6, h7, h8, h9, h10]]
                        go_enter Try.func60, Try.ntmps60
                        go_wp2
                        go_ret
                        exact ⟨rfl, SL.Sat.right (SL.Sat.alloc (Sat.whole w) _), (Side.refl w).alloc _⟩
                      · rw [show t.ok = false by simp [Tg.ok, h10]]
                        have hd : decide (t.id < 3840) = false := by simpa using h10
                        go_enter Try.func60, Try.ntmps60
                        go_wp2
                        go_ret
                        exact ⟨rfl, SL.Sat.right (SL.Sat.alloc (Sat.whole w) _), (Side.refl w).alloc _⟩
                    · rw [show t.ok = false by simp [Tg.ok, h9]]
                      have hd : decide (0 ≤ t.id) = false := by simpa using h9
                      go_enter Try.func60, Try.ntmps60
                      go_wp2
                      go_ret
                      exact ⟨rfl, SL.Sat.right (SL.Sat.alloc (Sat.whole w) _), (Side.refl w).alloc _⟩
                  · rw [show t.ok = false by simp [Tg.ok, h8]]
                    have hd : decide (t.ix < t.ct) = false := by simpa using h8
                    go_enter Try.func60, Try.ntmps60
                    go_wp2
                    go_ret
                    exact ⟨rfl, SL.Sat.right (SL.Sat.alloc (Sat.whole w) _), (Side.refl w).alloc _⟩
                · rw [show t.ok = false by simp [Tg.ok, h7]]
                  have hd : decide (0 ≤ t.ix) = false := by simpa using h7
                  go_enter Try.func60, Try.ntmps60
                  go_wp2
                  go_ret
                  exact ⟨rfl, SL.Sat.right (SL.Sat.alloc (Sat.whole w) _), (Side.refl w).alloc _⟩
              · rw [show t.ok = false by simp [Tg.ok, h6]]
                have hd : decide (t.ct ≤ 72) = false := by simpa using h6
                go_enter Try.func60, Try.ntmps60
                go_wp2
                go_ret
                exact ⟨rfl, SL.Sat.right (SL.Sat.alloc (Sat.whole w) _), (Side.refl w).alloc _⟩
            · rw [show t.ok = false by simp [Tg.ok, h5]]
              have hd : decide (1 ≤ t.ct) = false := by simpa using h5
              go_enter Try.func60, Try.ntmps60
              go_wp2
              go_ret
              exact ⟨rfl, SL.Sat.right (SL.Sat.alloc (Sat.whole w) _), (Side.refl w).alloc _⟩
          · rw [show t.ok = false by simp [Tg.ok, h4]]
            have hd : decide (t.fl < t.sq) = false := by simpa using h4
            go_enter Try.func60, Try.ntmps60
            go_wp2
            go_ret
            exact ⟨rfl, SL.Sat.right (SL.Sat.alloc (Sat.whole w) _), (Side.refl w).alloc _⟩
        · rw [show t.ok = false by simp [Tg.ok, h3]]
          have hd : decide (t.sq ≤ 281474976710655) = false := by simpa using h3
          go_enter Try.func60, Try.ntmps60
          go_wp2
          go_ret
          exact ⟨rfl, SL.Sat.right (SL.Sat.alloc (Sat.whole w) _), (Side.refl w).alloc _⟩
      · rw [show t.ok = false by simp [Tg.ok, h2]]
        have hd : decide (t.st ≤ t.sq) = false := by simpa using h2
        go_enter Try.func60, Try.ntmps60
        go_wp2
        go_ret
        exact ⟨rfl, SL.Sat.right (SL.Sat.alloc (Sat.whole w) _), (Side.refl w).alloc _⟩
    · rw [show t.ok = false by simp [Tg.ok, h1]]
      have hd : decide (1 ≤ t.st) = false := by simpa using h1
      go_enter Try.func60, Try.ntmps60
      go_wp2
      go_ret
      exact ⟨rfl, SL.Sat.right (SL.Sat.alloc (Sat.whole w) _), (Side.refl w).alloc _⟩
  · rw [show t.ok = false by simp [Tg.ok, h0]]
    have hd : decide (1 ≤ t.ep) = false := by simpa using h0
    go_enter Try.func60, Try.ntmps60
    go_wp2
    go_ret
    exact ⟨rfl, SL.Sat.right (SL.Sat.alloc (Sat.whole w) _), (Side.refl w).alloc _⟩
end Go.Proofs.Ytlfooilcngjeiaa

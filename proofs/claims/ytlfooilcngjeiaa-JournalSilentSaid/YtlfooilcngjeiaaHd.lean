/- The laws of layer 8: shown. -/
import Derived.Test.YtlfooilcngjeiaaHc
namespace Go.Proofs.Ytlfooilcngjeiaa
set_option linter.unusedVariables false
set_option linter.unusedSimpArgs false
open Go.RowKit Go.SL
def sL1 : Bl := [(3, bj 1), (4, bj 2)]
def sL2 : Bl := [(3, bj 3)]
def sH1 : Has := updB (fun _ => none) sL1
def sJ1 : Jr := (J0 200 10).done sL1 0
def sJ2 : Jr := sJ1.done [(3, bj 3), (4, bj 2)] 2
theorem s_mov1 : movB (J0 200 10) (fun _ => none) sL1 = [] := by rfl
theorem s_own : ownersN sJ1.T 200 0 2 = [(3, 0), (4, 1)] := by kernel_rfl
theorem s_mov2 : movB sJ1 sH1 sL2 = [(4, bj 2)] := by
  have e : movB sJ1 sH1 sL2 = mvL sH1 (ownK sL2) (ownersN sJ1.T 200 0 2) := rfl
  rw [e, s_own]
  rfl
theorem s_at3 : (Jr.ats sJ2).getD 3 0 = 2 ∧ (Jr.ats sJ2).getD 4 0 = 3 ∧ (Jr.ats sJ2).length = 10 ∧ sJ2.sq = 2 ∧ sJ2.hd = 4 ∧ sJ2.us = 2 ∧ sJ2.fr = 2 ∧ sJ2.T.ps.length = 10 := by
  refine ⟨by kernel_rfl, by kernel_rfl, by kernel_rfl, by kernel_rfl, by kernel_rfl, by kernel_rfl, by kernel_rfl, by kernel_rfl⟩
theorem s_b1 : Batch 10 sL1 := ⟨by decide, by decide, by intro x hx; simp [sL1] at hx; rcases hx with rfl | rfl <;> decide, by intro x hx; simp [sL1] at hx; rcases hx with rfl | rfl <;> exact bj_len _, by decide⟩
theorem s_b2 : Batch 10 sL2 := ⟨by decide, by decide, by intro x hx; simp [sL2] at hx; rcases hx with rfl <;> decide, by intro x hx; simp [sL2] at hx; rcases hx with rfl <;> exact bj_len _, by decide⟩
theorem s_c1 : ∃ D', jcommit (J0 200 10) (Dev.fresh 201) true sL1 = (0, sJ1, D') ∧ JInv sJ1 D' sH1 := by
  have hI := fresh_inv (P := 200) (n := 10) (by decide) (by decide) (by decide) (by decide)
  have hn := never_full hI (fresh_bound 200 10) (by decide) (L := sL1) s_b1
  obtain ⟨D', hd⟩ := commit_done hI (L := sL1) s_b1 (by decide) hn
  have h1 := hd.run
  have h2 := hd.inv
  rw [s_mov1] at h1 h2
  exact ⟨D', h1, h2⟩
theorem s_c2 {D : Dev} (hI : JInv sJ1 D sH1) : ∃ D', jcommit sJ1 D true sL2 = (0, sJ2, D') ∧ JInv sJ2 D' (updB sH1 sL2) := by
  have hn : ¬ (sJ1.P : Int) - sJ1.us - sJ1.fr < ((sL2 ++ movB sJ1 sH1 sL2).length : Int) := by rw [s_mov2]; decide
  obtain ⟨D', hd⟩ := commit_done hI (L := sL2) s_b2 (by decide) hn
  have h1 := hd.run
  have h2 := hd.inv
  rw [s_mov2] at h1 h2
  exact ⟨D', h1, h2⟩
theorem s_read {D : Dev} (hI : JInv sJ2 D (updB sH1 sL2)) : ∃ D', sJ2.read D 3 = ((0, bj 3), sJ2, D') ∧ JInv sJ2 D' (updB sH1 sL2) := by
  have h := hI.read (id := 3) (by decide) (by decide)
  have e : (updB sH1 sL2 3).getD (zs 480) = bj 3 := rfl
  rw [e] at h
  refine ⟨_, h, ?_⟩
  split
  · exact hI.cr _
  · exact hI
end Go.Proofs.Ytlfooilcngjeiaa

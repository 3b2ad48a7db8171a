/- file: what the laws of files and trees share: text of bytes, what a law that is right comes to. -/
import Derived.Test.YtaoohjeaaccnfaaGreatVh
namespace Go.Proofs.YtaoohjeaaccnfaaGreat.Fs
set_option linter.unusedVariables false
set_option linter.unusedSimpArgs false
open Go.RowKit Go.SL Go.Proofs.YtaoohjeaaccnfaaGreat.Ba
/-- The text of bytes. -/
theorem run_text (w : World) (v : Value) (l : List UInt8) (h : Rd w v l) : (convert 48 9 v).run Tryz.prog w = .ok (.string (str l)) w := by
  have hfold : ∀ (l : List UInt8) (s : ByteArray), (l.map fun x => (x.toNat : Int)).foldl (fun r n => r.push (UInt8.ofNat n.toNat)) s = ⟨s.data ++ l.toArray⟩ := by
    intro l
    induction l with
    | nil => intro s; simp
    | cons a l ih => intro s; simp only [List.map_cons, List.foldl_cons, ih]; simp [ByteArray.push]
  obtain ⟨_, hr⟩ := h
  rcases hr with ⟨rfl, h0⟩ | ⟨a, c, rfl, ha⟩
  · have : l = [] := List.eq_nil_of_length_eq_zero h0
    subst this
    rw [run_convert_bytes_string w _ _ 5 none 0 0 Tryz.underlying48 Tryz.underlying5 Tryz.underlying9]
    rfl
  · rw [run_convert_bytes_string w _ _ 5 (some a) _ c Tryz.underlying48 Tryz.underlying5 Tryz.underlying9]
    have hl := run_loadCells_list (P := Tryz.prog) (w := w) a (l.map u8) ha
    rw [List.length_map] at hl
    have := run_bytesToString (P := Tryz.prog) w a l.length c (l.map fun x => (x.toNat : Int)) (by
      rw [hl]
      simp [u8, Function.comp_def])
    rw [this, hfold]
    simp [str]
/-- What a law that is right comes to. -/
def LawQ (w : World) (e : Ending) (w' : World) : Prop := e = .returned (.bool true) ∧ Sat w' (whole w) ∧ Side w w'
theorem bs_rd {W : World} {P : Assn} {v : Value} {l : List UInt8} (h : Sat W (bs 5 v l * P)) : Rd W v l := h.rds
/-- The bytes of a literal. -/
def litA (g : Nat) (l : List UInt8) (m : Nat) : Assn := pt g (.cells (u8s l) 5 (m, m + 1))
theorem hD_lit (g : Nat) (l : List UInt8) (m : Nat) : ∀ W P, Sat W (litA g l m * P) → Rd W (.slice (some ⟨g, 0, none⟩) l.length l.length) l := fun W P h =>
  ⟨by simp, .inr ⟨_, _, rfl, fun j u hu => by rw [Addr.add_lit, Nat.zero_add, h.cell, get_u8s]; rwa [List.getElem?_map] at hu⟩⟩
theorem hD_bs (v : Value) (l : List UInt8) : ∀ W P, Sat W (bs 5 v l * P) → Rd W v l := fun W P h => h.rds
end Go.Proofs.YtaoohjeaaccnfaaGreat.Fs

/- journal, plain: what moves reads. -/
import Derived.Test.YtlfooilcngjeiaaJk
namespace Go.SL
set_option linter.unusedVariables false
set_option linter.unusedSimpArgs false
open Go.RowKit
/-- What moving has come to: an error, the blocks, the journal, the device. -/
abbrev Mv := (Int × List (Int × List UInt8)) × Jr × Dev
def Jr.moveStep (own : KV) (s : Mv) (x : Int × Int) : Mv :=
  if s.1.1 ≠ 0 then s else if (kget own x.1).isSome then s else
    if (s.2.1.load s.2.2 x.1 x.2).1.1 = 0 then ((0, s.1.2 ++ [(x.1, (s.2.1.load s.2.2 x.1 x.2).1.2)]), (s.2.1.load s.2.2 x.1 x.2).2)
    else (((s.2.1.load s.2.2 x.1 x.2).1.1, []), (s.2.1.load s.2.2 x.1 x.2).2)
def Jr.moves (J : Jr) (D : Dev) (own : KV) (L : List (Int × Int)) : Mv := L.foldl (Jr.moveStep own) ((0, []), J, D)
theorem Jr.moves_snoc (J : Jr) (D : Dev) (own : KV) (L : List (Int × Int)) (x : Int × Int) : J.moves D own (L ++ [x]) = Jr.moveStep own (J.moves D own L) x := by
  simp [Jr.moves]
theorem Jr.load_ok {J : Jr} {D : Dev} {id p : Int} (h : (J.load D id p).1.1 = 0) : (J.load D id p).2.1 = J := by
  unfold Jr.load at h ⊢
  simp only at h ⊢
  split
  · rename_i h1
    rw [if_pos h1] at h
    split
    · rename_i t b hd
      rw [hd] at h
      simp only at h
      split
      · rfl
      · rename_i h2; rw [if_neg h2] at h; exact absurd h (show (2 : Int) ≠ 0 by decide)
    · rename_i hd
      rw [hd] at h
      exact absurd h (show (2 : Int) ≠ 0 by decide)
  · rename_i h1
    rw [if_neg h1] at h
    exact absurd h (show (2 : Int) ≠ 0 by decide)
theorem Jr.load_dev (J : Jr) (D : Dev) (id p : Int) : (J.load D id p).2.2 = (D.read (p % (J.P : Int) + 1)).2 := by
  unfold Jr.load
  simp only
  split
  · split
    · split <;> rfl
    · rfl
  · rfl
theorem Jr.load_br (J : Jr) (D : Dev) (id p : Int) : (J.load D id p).2.1 = J ∨ (J.load D id p).2.1 = { J with br := true } := by
  unfold Jr.load
  simp only
  split
  · split
    · split
      · exact .inl rfl
      · exact .inr rfl
    · exact .inr rfl
  · exact .inr rfl
theorem Jr.load_keeps (J : Jr) {D : Dev} (h : D.Ok) (id p : Int) : D.Keeps (J.load D id p).2.2 0 := by
  rw [Jr.load_dev]; exact Dev.read_keeps h _
theorem moves_inv {own : KV} (I : Mv → Prop) (h : ∀ s x, I s → I (Jr.moveStep own s x)) : ∀ (L : List (Int × Int)) (s : Mv), I s → I (L.foldl (Jr.moveStep own) s)
  | [], _, hs => hs
  | x :: L, s, hs => moves_inv I h L _ (h s x hs)
theorem Jr.moves_ok {J : Jr} {D : Dev} {own : KV} {L : List (Int × Int)} : (J.moves D own L).1.1 = 0 → (J.moves D own L).2.1 = J := by
  refine moves_inv (fun s => s.1.1 = 0 → s.2.1 = J) ?_ L _ (fun _ => rfl)
  intro s x hs h
  unfold Jr.moveStep at h ⊢
  split
  · rename_i h1; rw [if_pos h1] at h; exact hs h
  · rename_i h1
    rw [if_neg h1] at h
    split
    · rename_i h2; rw [if_pos h2] at h; exact hs h
    · rename_i h2
      rw [if_neg h2] at h
      split
      · rename_i h3
        have := hs (by simpa using h1)
        exact (Jr.load_ok h3).trans this
      · rename_i h3; rw [if_neg h3] at h; exact absurd h h3
theorem Jr.moves_br {J : Jr} {D : Dev} {own : KV} {L : List (Int × Int)} : (J.moves D own L).2.1 = J ∨ (J.moves D own L).2.1 = { J with br := true } := by
  refine moves_inv (fun s => s.2.1 = J ∨ s.2.1 = { J with br := true }) ?_ L _ (.inl rfl)
  intro s x hs
  unfold Jr.moveStep
  split
  · exact hs
  · split
    · exact hs
    · have : (s.2.1.load s.2.2 x.1 x.2).2.1 = J ∨ (s.2.1.load s.2.2 x.1 x.2).2.1 = { J with br := true } := by
        rcases Jr.load_br s.2.1 s.2.2 x.1 x.2 with e | e <;> rcases hs with e' | e' <;> rw [e, e'] <;> first | exact .inl rfl | exact .inr rfl
      split
      · exact this
      · exact this
theorem Jr.moves_keeps (J : Jr) {D : Dev} (hD : D.Ok) (own : KV) (L : List (Int × Int)) : D.Keeps (J.moves D own L).2.2 0 := by
  refine moves_inv (fun s => D.Keeps s.2.2 0) ?_ L _ hD.keeps
  intro s x hs
  have hk := fun (J' : Jr) => hs.trans (Jr.load_keeps J' (hs.ok hD (by have := hD.many; omega)) x.1 x.2)
  unfold Jr.moveStep
  split
  · exact hs
  · split
    · exact hs
    · split
      · exact hk _
      · exact hk _
theorem Jr.moves_stop {J : Jr} {D : Dev} {own : KV} {L L' : List (Int × Int)} (h : (J.moves D own L).1.1 ≠ 0) (hp : L <+: L') : J.moves D own L' = J.moves D own L := by
  obtain ⟨M, rfl⟩ := hp
  unfold Jr.moves at h ⊢
  rw [List.foldl_append]
  generalize L.foldl (Jr.moveStep own) ((0, []), J, D) = s at h ⊢
  induction M with
  | nil => rfl
  | cons x M ih =>
    rw [List.foldl_cons]
    have : Jr.moveStep own s x = s := by unfold Jr.moveStep; rw [if_pos h]
    rw [this]; exact ih
theorem Jr.moves_len {J : Jr} {D : Dev} {own : KV} : ∀ (L : List (Int × Int)), (J.moves D own L).1.2.length ≤ L.length := by
  intro L
  have : ∀ (L : List (Int × Int)) (s : Mv), (L.foldl (Jr.moveStep own) s).1.2.length ≤ s.1.2.length + L.length := by
    intro L
    induction L with
    | nil => intro s; simp
    | cons x L ih =>
      intro s
      rw [List.foldl_cons]
      refine Nat.le_trans (ih _) ?_
      have : (Jr.moveStep own s x).1.2.length ≤ s.1.2.length + 1 := by
        unfold Jr.moveStep
        split
        · omega
        · split
          · omega
          · split
            · simp
            · simp
      simp only [List.length_cons]; omega
  have := this L ((0, []), J, D)
  simpa [Jr.moves] using this
end Go.SL
namespace Go.Proofs.Ytlfooilcngjeiaa
open Go.RowKit Go.SL
theorem ownersN_len (T : Tb) (P first k : Nat) : (ownersN T P first k).length ≤ k := by
  unfold ownersN
  refine Nat.le_trans (List.length_filterMap_le _ _) ?_
  simp
theorem decodeF_len {l b : List UInt8} {t : Tg} (h : decodeF l = some (t, b)) (hl : l.length = 512) : b.length = 480 := by
  unfold decodeF at h
  split at h
  · injection h with h; injection h with _ h; rw [← h, List.length_drop, hl]
  · cases h
theorem load_len {J : Jr} {D : Dev} {id p : Int} (h : (J.load D id p).1.1 = 0) : (J.load D id p).1.2.length = 480 := by
  have hr := read_len D (p % (J.P : Int) + 1)
  unfold Jr.load at h ⊢
  simp only at h ⊢
  split
  · rename_i h1
    rw [if_pos h1] at h
    split
    · rename_i t b hd
      rw [hd] at h
      simp only at h
      split
      · exact decodeF_len hd (hr h1)
      · rename_i h2; rw [if_neg h2] at h; exact absurd h (show (2 : Int) ≠ 0 by decide)
    · rename_i hd
      rw [hd] at h
      exact absurd h (show (2 : Int) ≠ 0 by decide)
  · rename_i h1
    rw [if_neg h1] at h
    exact absurd h (show (2 : Int) ≠ 0 by decide)
theorem moves_480 {J : Jr} {D : Dev} {own : KV} {L : List (Int × Int)} : ∀ x ∈ (J.moves D own L).1.2, x.2.length = 480 := by
  refine moves_inv (fun s => ∀ x ∈ s.1.2, x.2.length = 480) ?_ L _ (by simp)
  intro s x hs
  unfold Jr.moveStep
  split
  · exact hs
  · split
    · exact hs
    · split
      · rename_i h3
        intro y hy
        rcases List.mem_append.1 hy with hy | hy
        · exact hs y hy
        · rw [List.mem_singleton.1 hy]; exact load_len h3
      · intro y hy; cases hy
end Go.Proofs.Ytlfooilcngjeiaa

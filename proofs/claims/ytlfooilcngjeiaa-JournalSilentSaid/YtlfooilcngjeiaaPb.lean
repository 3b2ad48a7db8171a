/- Plain: a device that nothing has failed: what its operations do to what it tells. -/
import Derived.Test.YtlfooilcngjeiaaJh
namespace Go.SL
set_option linter.unusedVariables false
set_option linter.unusedSimpArgs false
open Go.RowKit
/-- Up, and no crash is armed. -/
structure Dev.Calm (D : Dev) : Prop where
  down : D.down = false
  armed : D.armed = false
theorem Dev.Calm.strike {D : Dev} (h : D.Calm) : D.strike = D := by
  unfold Dev.strike
  rw [h.armed]; simp
theorem Dev.Calm.begun {D : Dev} (h : D.Calm) : D.begun = D := by
  unfold Dev.begun
  rw [h.strike, h.down, h.armed]; simp
theorem Dev.Calm.begins {D : Dev} (h : D.Calm) : D.begins = 0 := by
  unfold Dev.begins
  rw [h.strike, h.down]; simp
theorem Dev.Calm.read {D : Dev} (h : D.Calm) {a : Int} (ha : D.has a) : D.read a = (D.tells a, { D with cr := i64w (D.cr + 1) }) := by
  unfold Dev.read
  rw [if_pos ha, if_pos h.begins, h.begun]
theorem Dev.Calm.write {D : Dev} (h : D.Calm) {a : Int} (ha : D.has a) {l : List UInt8} (hl : l.length = 512) : D.write a l = (0, { D with cw := i64w (D.cw + 1), wait := D.wait ++ [(a, l)] }) := by
  unfold Dev.write
  rw [if_pos ⟨ha, hl⟩, if_pos h.begins, h.begun]
theorem Dev.Calm.flush {D : Dev} (h : D.Calm) : D.flush = (0, D.flushed) := by
  unfold Dev.flush
  rw [if_pos h.begins, h.begun]
theorem doneAll_same (D : Dev) (l : List (Int × List UInt8)) : (D.doneAll l).down = D.down ∧ (D.doneAll l).armed = D.armed ∧ (D.doneAll l).cr = D.cr ∧ (D.doneAll l).cw = D.cw ∧ (D.doneAll l).cf = D.cf ∧ (D.doneAll l).left = D.left ∧ (D.doneAll l).keep = D.keep ∧ (D.doneAll l).wait = D.wait := by
  unfold Dev.doneAll
  induction l generalizing D with
  | nil => exact ⟨rfl, rfl, rfl, rfl, rfl, rfl, rfl, rfl⟩
  | cons x l ih => rw [List.foldl_cons]; exact ih _
theorem newest_nil (a : Int) : newest [] a = none := rfl
theorem newest_snoc (l : List (Int × List UInt8)) (x : Int × List UInt8) (a : Int) : newest (l ++ [x]) a = if x.1 = a then some x.2 else newest l a := by
  unfold newest
  rw [List.reverse_append, List.reverse_cons, List.reverse_nil, List.nil_append, List.singleton_append, List.find?_cons]
  by_cases h : x.1 = a
  · rw [if_pos h]; simp [h]
  · rw [if_neg h]
    have : (x.1 == a) = false := by simpa using h
    rw [this]
theorem newest_cons (l : List (Int × List UInt8)) (x : Int × List UInt8) (a : Int) : newest (x :: l) a = match newest l a with | some y => some y | none => if x.1 = a then some x.2 else none := by
  unfold newest
  rw [List.reverse_cons, List.find?_append]
  cases h : l.reverse.find? (fun x => x.1 == a) with
  | some y => simp
  | none =>
    by_cases e : x.1 = a
    · simp [e]
    · have : (x.1 == a) = false := by simpa using e
      simp [e]
theorem kget_cons {α : Type} (p : Int × α) (M : List (Int × α)) (y : Int) : kget (p :: M) y = if p.1 = y then some p.2 else kget M y := by
  unfold kget
  rw [List.find?_cons]
  by_cases h : p.1 = y
  · simp [h]
  · have : (p.1 == y) = false := by simpa using h
    rw [this, if_neg h]
theorem kget_del {α : Type} (M : List (Int × α)) (x y : Int) : kget (del M x) y = if y = x then none else kget M y := by
  induction M with
  | nil => simp [del, kget]
  | cons p M ih =>
    have e : del (p :: M) x = if p.1 = x then del M x else p :: del M x := by
      unfold del
      rw [List.filter_cons]
      by_cases h : p.1 = x
      · simp [h]
      · have : (p.1 == x) = false := by simpa using h
        simp [this, h]
    rw [e]
    by_cases h : p.1 = x
    · rw [if_pos h, ih, kget_cons]
      by_cases h2 : y = x
      · rw [if_pos h2, if_pos h2]
      · rw [if_neg h2, if_neg h2, if_neg (by rw [h]; exact fun q => h2 q.symm)]
    · rw [if_neg h, kget_cons, kget_cons, ih]
      by_cases h2 : p.1 = y
      · rw [if_pos h2, if_pos h2, if_neg (by rw [← h2]; exact h)]
      · rw [if_neg h2, if_neg h2]
/-- What a sector tells behind writes for good. -/
theorem done_tells (D : Dev) (x : Int × List UInt8) (hx : D.has x.1) (hw : D.wait = []) (a : Int) (ha : D.has a) : (D.done x).tells a = if x.1 = a then (0, padTo 512 x.2) else D.tells a := by
  have hwd : (D.done x).wait = [] := (D.done_sec x).2.1.trans hw
  have ht : kget (D.done x).torn a = if a = x.1 then none else kget D.torn a := kget_del D.torn x.1 a
  have hs : (D.done x).sec = D.sec.set x.1.toNat x.2 := rfl
  unfold Dev.tells
  simp only [hwd, hw, newest_nil, ht, hs]
  clear ht hs hwd
  obtain ⟨a0, a1⟩ := ha
  obtain ⟨x0, x1⟩ := hx
  obtain ⟨k, rfl⟩ := Int.eq_ofNat_of_zero_le a0
  obtain ⟨j, hj⟩ := Int.eq_ofNat_of_zero_le x0
  rw [hj, Int.toNat_natCast, Int.toNat_natCast]
  by_cases e : j = k
  · subst e
    rw [if_pos rfl, if_pos rfl]
    have : j < D.sec.length := by omega
    simp [List.getD, List.getElem?_set, this]
  · have e' : ¬ (k : Int) = (j : Int) := by omega
    have e'' : ¬ (j : Int) = (k : Int) := by omega
    rw [if_neg e', if_neg e'']
    have hset : (D.sec.set j x.2).getD k [] = D.sec.getD k [] := by
      simp only [List.getD, List.getElem?_set]
      rw [if_neg e]
    rw [hset]
theorem done_has (D : Dev) (x : Int × List UInt8) (a : Int) : (D.done x).has a ↔ D.has a := by unfold Dev.has; rw [(D.done_sec x).1]
theorem doneAll_tells (l : List (Int × List UInt8)) : ∀ (D : Dev), D.wait = [] → (∀ x ∈ l, D.has x.1) → ∀ a, D.has a → (D.doneAll l).tells a = match newest l a with | some y => (0, padTo 512 y) | none => D.tells a := by
  induction l with
  | nil => intro D _ _ a _; rfl
  | cons x l ih =>
    intro D hw hl a ha
    have h1 := ih (D.done x) ((D.done_sec x).2.1.trans hw) (fun y hy => (done_has D x _).2 (hl y (List.mem_cons_of_mem _ hy))) a ((done_has D x a).2 ha)
    show (Dev.doneAll (D.done x) l).tells a = _
    rw [h1, newest_cons]
    cases hn : newest l a with
    | some y => rfl
    | none =>
      simp only
      rw [done_tells D x (hl x List.mem_cons_self) hw a ha]
      split <;> rfl
/-- Behind a flush each sector tells what it told. -/
theorem flushed_tells {D : Dev} (hD : D.Ok) (a : Int) (ha : D.has a) : D.flushed.tells a = D.tells a := by
  have h := doneAll_tells D.wait { D with cf := i64w (D.cf + 1), wait := [] } rfl (fun x hx => hD.wait x hx) a ha
  have e : D.flushed = ({ D with cf := i64w (D.cf + 1), wait := [] } : Dev).doneAll D.wait := by
    unfold Dev.flushed Dev.doneAll
    have : ∀ (l : List (Int × List UInt8)) (A B : Dev), A.sec = B.sec → A.torn = B.torn → A.cr = B.cr → A.cw = B.cw → A.cf = B.cf → A.down = B.down → A.armed = B.armed → A.left = B.left → A.keep = B.keep → B.wait = [] →
        ({ l.foldl Dev.done A with wait := [] } : Dev) = l.foldl Dev.done B := by
      intro l
      induction l with
      | nil =>
        intro A B h1 h2 h3 h4 h5 h6 h7 h8 h9 h10
        obtain ⟨a1, a2, a3, a4, a5, a6, a7, a8, a9, a10⟩ := A
        obtain ⟨b1, b2, b3, b4, b5, b6, b7, b8, b9, b10⟩ := B
        simp only at h1 h2 h3 h4 h5 h6 h7 h8 h9 h10
        subst h1 h2 h3 h4 h5 h6 h7 h8 h9 h10
        rfl
      | cons x l ih =>
        intro A B h1 h2 h3 h4 h5 h6 h7 h8 h9 h10
        exact ih _ _ (by simp [Dev.done, h1]) (by simp [Dev.done, h2]) h3 h4 h5 h6 h7 h8 h9 h10
    exact this _ _ _ rfl rfl rfl rfl rfl rfl rfl rfl rfl rfl
  rw [e, h]
  unfold Dev.tells
  cases hn : newest D.wait a with
  | some y => rfl
  | none => rfl
theorem flushed_calm {D : Dev} (h : D.Calm) : D.flushed.Calm := by
  have := doneAll_same { D with cf := i64w (D.cf + 1) } D.wait
  exact ⟨this.1.trans h.down, this.2.1.trans h.armed⟩
theorem flushed_counts (D : Dev) : D.flushed.cr = D.cr ∧ D.flushed.cw = D.cw ∧ D.flushed.cf = i64w (D.cf + 1) ∧ D.flushed.sec.length = D.sec.length := by
  have := doneAll_same { D with cf := i64w (D.cf + 1) } D.wait
  exact ⟨this.2.2.1, this.2.2.2.1, this.2.2.2.2.1, (Dev.doneAll_sec _ _).1⟩
theorem write_tells (D : Dev) (a : Int) (l : List UInt8) (n : Int) (b : Int) : ({ D with cw := n, wait := D.wait ++ [(a, l)] } : Dev).tells b = if a = b then (0, padTo 512 l) else D.tells b := by
  unfold Dev.tells
  simp only [newest_snoc]
  by_cases h : a = b
  · simp [h]
  · simp [h]
end Go.SL

/- journal, plain: a device stays right; what a batch writes. -/
import Derived.Test.YtlfooilcngjeiaaJg
namespace Go.SL
set_option linter.unusedVariables false
set_option linter.unusedSimpArgs false
open Go.RowKit
/-- As right as before, as many sectors, at most n more that wait. -/
structure Dev.Keeps (D D' : Dev) (n : Nat) : Prop where
  sec : D'.sec.length = D.sec.length
  wait : ∀ x ∈ D'.wait, D.has x.1
  many : D'.wait.length ≤ D.wait.length + n
  keep : D'.keep.length ≤ 1000000
theorem Dev.Ok.keeps {D : Dev} (h : D.Ok) : D.Keeps D 0 := ⟨rfl, h.wait, by omega, h.keep⟩
theorem Dev.Keeps.ok {D D' : Dev} {n : Nat} (k : D.Keeps D' n) (h : D.Ok) (hn : D.wait.length + n ≤ 1000000) : D'.Ok :=
  ⟨by rw [k.sec]; exact h.n, fun x hx => by unfold Dev.has; rw [k.sec]; exact k.wait x hx, by have := k.many; omega, k.keep⟩
theorem Dev.Keeps.trans {D D1 D2 : Dev} {n m : Nat} (h : D.Keeps D1 n) (g : D1.Keeps D2 m) : D.Keeps D2 (n + m) :=
  ⟨g.sec.trans h.sec, fun x hx => by have := g.wait x hx; unfold Dev.has at this ⊢; rw [← h.sec]; exact this, by have := h.many; have := g.many; omega, g.keep⟩
theorem Dev.done_sec (D : Dev) (x : Int × List UInt8) : (D.done x).sec.length = D.sec.length ∧ (D.done x).wait = D.wait ∧ (D.done x).keep = D.keep := by simp [Dev.done]
theorem Dev.fate_sec (D : Dev) (f : Int) (x : Int × List UInt8) : (D.fate f x).sec.length = D.sec.length := by
  unfold Dev.fate
  split
  · exact (D.done_sec x).1
  · split <;> rfl
theorem Dev.fates_sec (D : Dev) (keep : List Int) (k : Nat) : (D.fates keep k).sec.length = D.sec.length := by
  induction k with
  | zero => rfl
  | succ k ih =>
    rw [Dev.fates]
    split
    · rw [Dev.fate_sec]; exact ih
    · exact ih
theorem Dev.strike_keeps {D : Dev} (h : D.Ok) : D.Keeps D.strike 0 := by
  unfold Dev.strike
  split
  · exact ⟨by simp only [Dev.crash]; exact Dev.fates_sec _ _ _, by simp [Dev.crash], by simp [Dev.crash], by simp [Dev.crash]⟩
  · exact h.keeps
theorem Dev.begun_keeps {D : Dev} (h : D.Ok) : D.Keeps D.begun 0 := by
  have hs := Dev.strike_keeps h
  unfold Dev.begun
  split
  · exact hs
  · split
    · exact ⟨hs.sec, hs.wait, hs.many, hs.keep⟩
    · exact hs
theorem Dev.write_keeps {D : Dev} (h : D.Ok) (a : Int) (l : List UInt8) : D.Keeps (D.write a l).2 1 := by
  have hb := Dev.begun_keeps h
  unfold Dev.write
  split
  · rename_i hc
    split
    · refine ⟨hb.sec, fun x hx => ?_, by simp only [List.length_append, List.length_cons, List.length_nil]; have := hb.many; omega, hb.keep⟩
      rcases List.mem_append.1 hx with hx | hx
      · exact hb.wait x hx
      · rw [List.mem_singleton.1 hx]; exact hc.1
    · exact ⟨hb.sec, hb.wait, Nat.le_trans hb.many (Nat.le_succ _), hb.keep⟩
  · exact ⟨rfl, h.wait, Nat.le_succ _, h.keep⟩
theorem Dev.read_keeps {D : Dev} (h : D.Ok) (a : Int) : D.Keeps (D.read a).2 0 := by
  have hb := Dev.begun_keeps h
  unfold Dev.read
  split
  · split
    · exact ⟨hb.sec, hb.wait, hb.many, hb.keep⟩
    · exact hb
  · exact h.keeps
theorem Dev.doneAll_sec (D : Dev) (l : List (Int × List UInt8)) : (D.doneAll l).sec.length = D.sec.length ∧ (D.doneAll l).keep = D.keep := by
  unfold Dev.doneAll
  induction l generalizing D with
  | nil => exact ⟨rfl, rfl⟩
  | cons x l ih => rw [List.foldl_cons, (ih _).1, (ih _).2]; exact ⟨(D.done_sec x).1, (D.done_sec x).2.2⟩
theorem Dev.flush_keeps {D : Dev} (h : D.Ok) : D.Keeps D.flush.2 0 := by
  have hb := Dev.begun_keeps h
  unfold Dev.flush
  split
  · unfold Dev.flushed
    have hd := Dev.doneAll_sec ({ D.begun with cf := i64w (D.begun.cf + 1) } : Dev) D.begun.wait
    exact ⟨hd.1.trans hb.sec, by simp, by simp, by simp only [hd.2]; exact hb.keep⟩
  · exact hb
/-- The tag of the i-th of n that a batch writes. -/
def Jr.tag (J : Jr) (i n : Nat) (id : Int) : Tg := ⟨J.ep, J.st, J.sq + 1, J.sq, i, n, id⟩
/-- What the first k writes do: 0, or 2, and the device then. -/
def Jr.writeN (J : Jr) (D : Dev) (Z : List Wr) : Nat → Int × Dev
  | 0 => (0, D)
  | k + 1 => if (Jr.writeN J D Z k).1 = 0 then
      (let R := (Jr.writeN J D Z k).2.write ((J.hd + (k : Int)) % (J.P : Int) + 1) (enc (J.tag k Z.length (Z.getD k Wr.nil).1) ++ (Z.getD k Wr.nil).2.2)
       (if R.1 = 0 then 0 else 2, R.2))
    else Jr.writeN J D Z k
theorem Jr.writeN_keeps (J : Jr) {D : Dev} (h : D.Ok) (Z : List Wr) (k : Nat) (hk : D.wait.length + k ≤ 1000000) : D.Keeps (J.writeN D Z k).2 k := by
  induction k with
  | zero => exact h.keeps
  | succ k ih =>
    have ih := ih (by omega)
    rw [Jr.writeN]
    split
    · exact ih.trans (Dev.write_keeps (ih.ok h (by omega)) _ _)
    · exact ⟨ih.sec, ih.wait, by have := ih.many; omega, ih.keep⟩
/-- An error stays. -/
theorem Jr.writeN_stop (J : Jr) (D : Dev) (Z : List Wr) (k n : Nat) (hn : k ≤ n) (h : (J.writeN D Z k).1 ≠ 0) : J.writeN D Z n = J.writeN D Z k := by
  obtain ⟨m, rfl⟩ := Nat.le.dest hn
  clear hn
  induction m with
  | zero => rfl
  | succ m ih =>
    rw [show k + (m + 1) = (k + m) + 1 by omega, Jr.writeN, if_neg (by rw [ih]; exact h), ih]
structure Jr.Numbers (J : Jr) : Prop where
  ep0 : 1 ≤ J.ep
  ep1 : J.ep < 4294967296
  st0 : 1 ≤ J.st
  st1 : J.st ≤ J.sq + 1
  sq0 : 0 ≤ J.sq
  sq1 : J.sq < 281474976710655
theorem Jr.tag_ok {J : Jr} (h : J.Numbers) {i n : Nat} {id : Int} (hi : i < n) (hn : n ≤ 72) (h0 : 0 ≤ id) (h1 : id < 3840) : (J.tag i n id).ok = true := by
  obtain ⟨a, b, c, d, e, f⟩ := h
  unfold Tg.ok
  simp only [Bool.and_eq_true, decide_eq_true_eq, and_assoc]
  exact ⟨a, c, d, (show J.sq + 1 ≤ 281474976710655 by omega), (show J.sq < J.sq + 1 by omega), (show (1 : Int) ≤ (n : Int) by omega), (show (n : Int) ≤ 72 by omega), (show (0 : Int) ≤ (i : Int) by omega), (show (i : Int) < (n : Int) by omega), h0, h1⟩
theorem Jr.tag_fit {J : Jr} (h : J.Numbers) (i n : Nat) (id : Int) : (J.tag i n id).Fit := by
  obtain ⟨a, b, c, d, e, f⟩ := h
  exact ⟨(show 0 ≤ J.ep by omega), b, (show 0 ≤ J.st by omega), (show J.st < 18446744073709551616 by omega), (show 0 ≤ J.sq + 1 by omega), (show J.sq + 1 < 18446744073709551616 by omega), e, (show J.sq < 18446744073709551616 by omega)⟩
end Go.SL

/- tag: what may not be encoded; bytes.Equal. -/
import Derived.Test.YtlfooilcngjeiaaTs
import Derived.Laws.BytesString
namespace Go.Proofs.Ytlfooilcngjeiaa
set_option linter.unusedVariables false
set_option linter.unusedSimpArgs false
open Go.RowKit Go.SL
theorem toList_loop (l : List UInt8) : ∀ (n i : Nat) (acc : List UInt8), l.length - i = n → ByteArray.toList.loop ⟨l.toArray⟩ i acc = acc.reverse ++ l.drop i := by
  intro n
  induction n with
  | zero =>
    intro i acc h
    rw [ByteArray.toList.loop]
    have : ¬ i < ByteArray.size ⟨l.toArray⟩ := by show ¬ i < l.toArray.size; simp; omega
    rw [if_neg this, List.drop_of_length_le (by omega)]; simp
  | succ n ih =>
    intro i acc h
    rw [ByteArray.toList.loop]
    have hi : i < l.length := by omega
    have : i < ByteArray.size ⟨l.toArray⟩ := by show i < l.toArray.size; simpa using hi
    rw [if_pos this, ih (i + 1) _ (by omega), List.drop_eq_getElem_cons hi]
    simp [ByteArray.get!, hi]
theorem toList_str (l : List UInt8) : (str l).toList = l := by
  show ByteArray.toList.loop ⟨l.toArray⟩ 0 [] = l
  rw [toList_loop l _ 0 [] rfl]; rfl
/-- The text of bytes. -/
theorem run_text (w : World) (v : Value) (l : List UInt8) (h : Rd w v l) : (convert 51 9 v).run Try.prog w = .ok (.string (str l)) w := by
  have hfold : ∀ (l : List UInt8) (s : ByteArray), (l.map fun x => (x.toNat : Int)).foldl (fun r n => r.push (UInt8.ofNat n.toNat)) s = ⟨s.data ++ l.toArray⟩ := by
    intro l
    induction l with
    | nil => intro s; simp
    | cons a l ih => intro s; simp only [List.map_cons, List.foldl_cons, ih]; simp [ByteArray.push]
  obtain ⟨_, hr⟩ := h
  rcases hr with ⟨rfl, h0⟩ | ⟨a, c, rfl, ha⟩
  · have : l = [] := List.eq_nil_of_length_eq_zero h0
    subst this
    rw [run_convert_bytes_string w _ _ 5 none 0 0 Try.underlying51 Try.underlying5 Try.underlying9]
    rfl
  · rw [run_convert_bytes_string w _ _ 5 (some a) _ c Try.underlying51 Try.underlying5 Try.underlying9]
    have hl := run_loadCells_list (P := Try.prog) (w := w) a (l.map u8) ha
    rw [List.length_map] at hl
    have := run_bytesToString (P := Try.prog) w a l.length c (l.map fun x => (x.toNat : Int)) (by
      rw [hl]
      simp [u8, Function.comp_def])
    rw [this, hfold]
    simp [str]
set_option maxRecDepth 100000 in
theorem encode_no (t : Tg) (hok : t.ok = false) (bv : Value) (l : List UInt8) (w : World) (hr : Rd w bv l) :
    Calls Try.prog 30 #[.agg t.cells, bv] w (Tells (.tuple #[.slice none 0 0, .int .i64 1]) w) := by
  obtain ⟨ba, bc, rfl⟩ := hr.shape
  have hri := right_any t
  rw [hok] at hri
  have hA := (Sat.whole w).alloc (.cells t.cells 74 (0, 0))
  have hs := (Side.refl w).alloc (.cells t.cells 74 (0, 0))
  clear hr hok
  go_enter Try.func30, Try.ntmps30
  simp only [Tg.cells] at hA hri ⊢
  go_wp2_with fail
  refine (hri _).mono ?_
  rintro e w2 ⟨rfl, h2, d2⟩
  have H2 := (h2.keepW hA).right
  have D2 := Side.trans hs d2
  clear hri hA hs h2 d2
  go_wp2
  go_ret2
  exact ⟨rfl, H2, D2⟩
theorem equal_any (w : World) (v1 v2 : Value) (l1 l2 : List UInt8) (h1 : Rd w v1 l1) (h2 : Rd w v2 l2) :
    Calls Try.prog 101 #[v1, v2] w (BoolIs (decide (l1 = l2)) w) := by
  have k1 := run_text w v1 l1 h1
  have k2 := run_text w v2 l2 h2
  by_cases he : l1 = l2
  · subst he
    rw [show decide (l1 = l1) = true by simp]
    clear h1 h2
    go_enter Try.func101, Try.ntmps101
    go_wp2
    go_ret
    exact ⟨rfl, rfl⟩
  · rw [show decide (l1 = l2) = false by simpa using he]
    have hne : ((str l1).toList == (str l2).toList) = false := by
      rw [toList_str, toList_str]; simpa using he
    clear h1 h2 he
    go_enter Try.func101, Try.ntmps101
    go_wp2
    go_ret
    exact ⟨rfl, rfl⟩
end Go.Proofs.Ytlfooilcngjeiaa

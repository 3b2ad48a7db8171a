/- batch over rows: Read in one contract; what a block tells as a text. -/
import Derived.Test.YtcgpegdnicnciaaW9
namespace Go.Proofs.Ytcgpegdnicnciaa
set_option linter.unusedVariables false
set_option linter.unusedSimpArgs false
open Go.RowKit Go.SL
def rdA (err : Int) (W D : CB) (gs : List (Nat × List UInt8)) (id : Int) : Int × List UInt8 :=
  if err = 0 then match kget W id with | some l => (0, l) | none => match kget D id with | some l => (0, l) | none => rowAns gs id else (err, [])
def rdD (err : Int) (W D : CB) (gs : List (Nat × List UInt8)) (id : Int) : CB :=
  if err = 0 ∧ kget W id = none ∧ kget D id = none ∧ (rowAns gs id).1 = 0 then SL.upd D id (rowAns gs id).2 else D
theorem rows_method (v : Value) (k : Nat) (w : World) : (method (k + 1) 27 v "Read").run Try.prog w = .ok (20, v) w := by kernel_rfl
theorem rows_call (args : Array Value) (w : World) : (callFunc 20 args).run Try.prog w = .ok (.enter 20 args) w := by kernel_rfl
theorem rowAns_ne (gs : List (Nat × List UInt8)) (id : Int) (hs : allSmall gs) : (rowAns gs id).1 = 0 → small (rowAns gs id).2 := by
  unfold rowAns
  split
  · split
    · rename_i p hp; intro _; exact hs p (List.mem_of_getElem? hp)
    · intro h; cases h
  · intro h; cases h
theorem read_rows (w : World) (S : Hp) (b : Nat) (v : Value) (gs : List (Nat × List UInt8)) (err : Int) (W D : CB) (id : Int) (F : Assn) (hs : allSmall gs) (hlen : gs.length ≤ 1000)
    (h : Sat w (batchA 54 5 S b (.iface 27 v) err W D * (pool S * (rowsR v gs * F)))) :
    Calls Try.prog 13 #[.pointer (some ⟨b, 0, none⟩), .int .i64 id] w
      (ReadQ b S (.iface 27 v) (rdA err W D gs id) (rdA err W D gs id).1 W (rdD err W D gs id) (rowsR v gs * F) w) := by
  by_cases he : err = 0
  · subst he
    cases hW : kget W id with
    | some l =>
      have e1 : rdA 0 W D gs id = (0, l) := by simp [rdA, hW]
      have e2 : rdD 0 W D gs id = D := by simp [rdD, hW]
      rw [e1, e2]
      exact read_W w S b _ W D id l _ h hW
    | none =>
      cases hD : kget D id with
      | some l =>
        have e1 : rdA 0 W D gs id = (0, l) := by simp [rdA, hW, hD]
        have e2 : rdD 0 W D gs id = D := by simp [rdD, hD]
        rw [e1, e2]
        exact read_D w S b _ W D id l _ h hW hD
      | none =>
        have e1 : rdA 0 W D gs id = rowAns gs id := by simp [rdA, hW, hD]
        by_cases ha : (rowAns gs id).1 = 0
        · have e2 : rdD 0 W D gs id = SL.upd D id (rowAns gs id).2 := by simp [rdD, hW, hD, ha]
          have e3 : rowAns gs id = (0, (rowAns gs id).2) := Prod.ext ha rfl
          rw [e1, e2, ha]
          rw [show ReadQ b S (.iface 27 v) (rowAns gs id) = ReadQ b S (.iface 27 v) (0, (rowAns gs id).2) from by rw [← e3]]
          exact read_ok w S b _ v _ W D id (rowAns gs id).2 _ _ F (rows_method v) rows_call (fun F w h => by rw [← e3]; exact rowsRead_any w v gs id F hs hlen h) h hW hD (rowAns_ne gs id hs ha)
        · have e2 : rdD 0 W D gs id = D := by simp [rdD, ha]
          rw [e1, e2]
          exact read_no w S b _ v _ W D id (rowAns gs id).1 (rowAns gs id).2 _ _ F (rows_method v) rows_call (fun F w h => rowsRead_any w v gs id F hs hlen h) ha h hW hD
  · have e1 : rdA err W D gs id = (err, []) := by simp [rdA, he]
    have e2 : rdD err W D gs id = D := by simp [rdD, he]
    rw [e1, e2]
    exact read_err w S b _ err W D id _ h he
/-- The text of bytes. -/
theorem run_text (w : World) (v : Value) (l : List UInt8) (h : Rd w v l) : (convert 31 9 v).run Try.prog w = .ok (.string (str l)) w := by
  have hfold : ∀ (l : List UInt8) (s : ByteArray), (l.map fun x => (x.toNat : Int)).foldl (fun r n => r.push (UInt8.ofNat n.toNat)) s = ⟨s.data ++ l.toArray⟩ := by
    intro l
    induction l with
    | nil => intro s; simp
    | cons a l ih => intro s; simp only [List.map_cons, List.foldl_cons, ih]; simp [ByteArray.push]
  obtain ⟨_, hr⟩ := h
  rcases hr with ⟨rfl, h0⟩ | ⟨a, c, rfl, ha⟩
  · have : l = [] := List.eq_nil_of_length_eq_zero h0
    subst this
    rw [run_convert_bytes_string w _ _ 5 none 0 0 Try.underlying31 Try.underlying5 Try.underlying9]
    rfl
  · rw [run_convert_bytes_string w _ _ 5 (some a) _ c Try.underlying31 Try.underlying5 Try.underlying9]
    have hl := run_loadCells_list (P := Try.prog) (w := w) a (l.map u8) ha
    rw [List.length_map] at hl
    have := run_bytesToString (P := Try.prog) w a l.length c (l.map fun x => (x.toNat : Int)) (by
      rw [hl]
      simp [u8, Function.comp_def])
    rw [this, hfold]
    simp [str]
/-- What the rows of 'rows' answer. -/
theorem rowAns_yes {gs : List (Nat × List UInt8)} {n : Nat} (h : gs.map Prod.snd = rowBlks n) {id : Int} (h0 : 0 ≤ id) (h1 : id < n) : rowAns gs id = (0, blk (1000 + id)) := by
  obtain ⟨i, rfl⟩ := Int.eq_ofNat_of_zero_le h0
  have hi : i < n := by omega
  have hl : gs.length = n := by have := congrArg List.length h; simpa [rowBlks] using this
  have : gs[i]?.map Prod.snd = some (blk (1000 + (i : Int))) := by
    have := congrArg (fun l => l[i]?) h
    simpa [rowBlks, hi] using this
  obtain ⟨p, hp, hp2⟩ := Option.map_eq_some_iff.1 this
  simp [rowAns, hp, hp2]
theorem rowAns_no {gs : List (Nat × List UInt8)} {n : Nat} (h : gs.map Prod.snd = rowBlks n) {id : Int} (h1 : id < 0 ∨ (n : Int) ≤ id) : rowAns gs id = (1, []) := by
  have hl : gs.length = n := by have := congrArg List.length h; simpa [rowBlks] using this
  unfold rowAns
  split
  · rw [List.getElem?_eq_none (by omega)]
  · rfl
theorem rows_small {gs : List (Nat × List UInt8)} {n : Nat} (h : gs.map Prod.snd = rowBlks n) : allSmall gs := by
  intro p hp
  have : p.2 ∈ gs.map Prod.snd := List.mem_map_of_mem hp
  rw [h] at this
  obtain ⟨i, _, hi⟩ := List.mem_map.1 this
  unfold small; rw [← hi, blk_len]; decide
theorem rows_length {gs : List (Nat × List UInt8)} {n : Nat} (h : gs.map Prod.snd = rowBlks n) : gs.length = n := by
  have := congrArg List.length h; simpa [rowBlks] using this
end Go.Proofs.Ytcgpegdnicnciaa

/- dir, names: entries; Right, Name; a reader's next bytes. dir: a reader's next bytes; slot. dir: slots, as an iterator. dir: DecodeBlock of a block of entries, and places with nothing behind them. -/
import Derived.Test.YtaoohjeaaccnfaaGreatVo
import Derived.Test.YtaoohjeaaccnfaaGreatSh
import Derived.Lib.IndexLaws
import Derived.Test.YtaoohjeaaccnfaaGreatFe
import Derived.Deep.MidRow
import Derived.Deep.DeepCutAuto
import Derived.Laws.StructEq
import Derived.OwnWalkIn
import Derived.TacticsInMore
import Derived.LoopNIn
import Derived.LoopIn
import Derived.Deep.LoopGhost
import Derived.Test.YtaoohjeaaccnfaaGreatRf
import Derived.Test.YtaoohjeaaccnfaaGreatFh
import Derived.Test.YtaoohjeaaccnfaaGreatBl
namespace Go.SL
set_option linter.unusedVariables false
set_option linter.unusedSimpArgs false
open Go.RowKit
/-- An entry of a directory: a node, and a name. -/
structure Ent where
  nd : Nat
  nm : List UInt8
deriving DecidableEq
/-- Is a text a right name of an entry? -/
def nmOk (l : List UInt8) : Bool := decide (1 ≤ l.length) && (decide (l.length ≤ 28) && !l.contains 0)
def Ent.ok (e : Ent) : Bool := decide (1 ≤ e.nd) && (decide (e.nd ≤ 3839) && nmOk e.nm)
def Ent.no : Ent := ⟨0, []⟩
/-- The 32 bytes of an entry. -/
def Ent.enc (e : Ent) : List UInt8 := leN e.nd 2 ++ (leN e.nm.length 1 ++ (e.nm ++ zs (29 - e.nm.length)))
def Ent.v (e : Ent) : Value := .agg #[.int .i64 (e.nd : Int), .string (str e.nm)]
def Ent.cells (e : Ent) : List Value := [.int .i64 (e.nd : Int), .string (str e.nm)]
theorem nmOk_iff {l : List UInt8} : nmOk l = true ↔ 1 ≤ l.length ∧ l.length ≤ 28 ∧ (0 : UInt8) ∉ l := by
  unfold nmOk; simp
theorem Ent.ok_iff {e : Ent} : e.ok = true ↔ 1 ≤ e.nd ∧ e.nd ≤ 3839 ∧ nmOk e.nm = true := by
  unfold Ent.ok; simp
theorem Ent.enc_length {e : Ent} (h : e.ok = true) : e.enc.length = 32 := by
  have := nmOk_iff.1 (Ent.ok_iff.1 h).2.2
  unfold Ent.enc
  simp only [List.length_append, leN_length, length_zs]
  omega
theorem Ent.no_enc : Ent.no.enc = zs 32 := by decide +kernel
theorem index_mem (l : List UInt8) (c : UInt8) : Lib.indexByte l c < 0 ↔ c ∉ l := by
  have hge := Lib.indexByte_ge l c
  constructor
  · intro h hm
    have : Lib.indexByte l c = -1 := by omega
    obtain ⟨k, hk, hk2⟩ := List.getElem_of_mem hm
    exact Lib.indexByte_none this k (by rw [List.getElem?_eq_getElem hk, hk2])
  · intro h
    refine Int.not_le.1 fun h0 => ?_
    obtain ⟨o, ho⟩ := Int.eq_ofNat_of_zero_le h0
    have := (Lib.indexByte_some ho).1
    exact h (List.mem_of_getElem? this)
/-- Is a text a name of a path? -/
def nameOk (l : List UInt8) : Bool := nmOk l && (!l.contains 47 && (decide (l ≠ [46]) && decide (l ≠ [46, 46])))
theorem nameOk_nm {l : List UInt8} (h : nameOk l = true) : nmOk l = true := by
  unfold nameOk at h; simp only [Bool.and_eq_true] at h; exact h.1
end Go.SL
namespace Go.Proofs.YtaoohjeaaccnfaaGreat.Fs
set_option linter.unusedVariables false
set_option linter.unusedSimpArgs false
open Go.RowKit Go.SL Go.Proofs.YtaoohjeaaccnfaaGreat.Ba
theorem size_str (l : List UInt8) : (str l).size = l.length := by simp [str, ByteArray.size]
theorem dRight_any (w : World) (e : Ent) : Calls Tryz.prog 99 #[e.v] w fun r w' => r = .returned (.bool e.ok) ∧ Sat w' (whole w) ∧ Side w w' := by
  refine callsQ fun Q HQ => ?_
  obtain ⟨n, l⟩ := e
  have hA := ((Sat.whole w).alloc (.cells #[.int .i64 (n : Int), .string (str l)] 47 (0, 0)))
  have dA := SL.hid ((Side.refl w).alloc (.cells #[.int .i64 (n : Int), .string (str l)] 47 (0, 0)))
  have HA := SL.hid hA.right
  have hix := index_mem l 0
  have hib := Tryz.strings_IndexByte (str l) 0
  have e0 : (0 : Int).toNat.toUInt8 = (0 : UInt8) := rfl
  have e1 : (str l).data.toList = l := rfl
  rw [e0, e1] at hib
  have hsz := size_str l
  obtain ⟨ix, hi⟩ : ∃ ix, Lib.indexByte l 0 = ix := ⟨_, rfl⟩
  rw [hi] at hib hix
  have Hib := SL.hid hib
  have HX := SL.hid hix
  have hok : Hid ((Ent.mk n l).ok = (decide (1 ≤ n) && (decide (n ≤ 3839) && (decide (1 ≤ l.length) && (decide (l.length ≤ 28) && !l.contains 0))))) := rfl
  clear hA hib hix hi e0 e1
  obtain ⟨m, hm⟩ : ∃ m, l.length = m := ⟨_, rfl⟩
  rw [hm] at hsz hok
  have HM := SL.hid hm
  clear hm
  unfold Ent.v
  by_cases h1 : (n : Int) < 1
  · have hr : Hid ((Ent.mk n l).ok = false) := by show _ = _; rw [hok.out, decide_eq_false (by omega)]; rfl
    go_enter Tryz.func99, Tryz.ntmps99
    go_wp2_with fail
    exact HQ.out _ _ ⟨by rw [hr.out]; try (first | rfl | simp), HA.out, dA.out⟩
  by_cases h2 : (3839 : Int) < (n : Int)
  · have hr : Hid ((Ent.mk n l).ok = false) := by show _ = _; rw [hok.out, decide_eq_false (p := n ≤ 3839) (by omega), Bool.false_and, Bool.and_false]
    go_enter Tryz.func99, Tryz.ntmps99
    go_wp2_with fail
    exact HQ.out _ _ ⟨by rw [hr.out]; try (first | rfl | simp), HA.out, dA.out⟩
  by_cases h3 : (m : Int) < 1
  · have hr : Hid ((Ent.mk n l).ok = false) := by show _ = _; rw [hok.out, decide_eq_false (p := 1 ≤ m) (by omega), Bool.false_and, Bool.and_false, Bool.and_false]
    go_enter Tryz.func99, Tryz.ntmps99
    go_wp2_with fail
    exact HQ.out _ _ ⟨by rw [hr.out]; try (first | rfl | simp), HA.out, dA.out⟩
  by_cases h4 : (28 : Int) < (m : Int)
  · have hr : Hid ((Ent.mk n l).ok = false) := by show _ = _; rw [hok.out, decide_eq_false (p := m ≤ 28) (by omega), Bool.false_and, Bool.and_false, Bool.and_false, Bool.and_false]
    go_enter Tryz.func99, Tryz.ntmps99
    go_wp2_with fail
    exact HQ.out _ _ ⟨by rw [hr.out]; try (first | rfl | simp), HA.out, dA.out⟩
  have hr : Hid ((Ent.mk n l).ok = decide (ix < 0)) := by
    show _ = _
    rw [hok.out, decide_eq_true (p := 1 ≤ n) (by omega), decide_eq_true (p := n ≤ 3839) (by omega), decide_eq_true (p := 1 ≤ m) (by omega), decide_eq_true (p := m ≤ 28) (by omega), Bool.true_and, Bool.true_and, Bool.true_and, Bool.true_and]
    rw [Bool.eq_iff_iff]
    simp only [Bool.not_eq_true', decide_eq_true_eq, HX.out]
    simp
  go_enter Tryz.func99, Tryz.ntmps99
  go_wp2_with fail
  refine (Hib.out _).mono ?_
  rintro e w2 ⟨rfl, rfl⟩
  go_wp2_with fail
  exact HQ.out _ _ ⟨by rw [hr.out]; try (first | rfl | simp), HA.out, dA.out⟩
theorem name_any (w : World) (l : List UInt8) : Calls Tryz.prog 32 #[.string (str l)] w fun r w' => r = .returned (.bool (nameOk l)) ∧ w = w' := by
  refine callsQ fun Q HQ => ?_
  have hib0 := Tryz.strings_IndexByte (str l) 0
  have hib1 := Tryz.strings_IndexByte (str l) 47
  have e0 : (0 : Int).toNat.toUInt8 = (0 : UInt8) := rfl
  have e47 : (47 : Int).toNat.toUInt8 = (47 : UInt8) := rfl
  have e1 : (str l).data.toList = l := rfl
  rw [e0, e1] at hib0
  rw [e47, e1] at hib1
  have hx0 := index_mem l 0
  have hx1 := index_mem l 47
  have hsz := size_str l
  obtain ⟨ix, hi⟩ : ∃ ix, Lib.indexByte l 0 = ix := ⟨_, rfl⟩
  obtain ⟨iy, hj⟩ : ∃ ix, Lib.indexByte l 47 = ix := ⟨_, rfl⟩
  rw [hi] at hib0 hx0
  rw [hj] at hib1 hx1
  have Hib0 := SL.hid hib0; have Hib1 := SL.hid hib1
  have hok : Hid (nameOk l = ((decide (1 ≤ l.length) && (decide (l.length ≤ 28) && decide (ix < 0))) && (decide (iy < 0) && (decide (l ≠ [46]) && decide (l ≠ [46, 46]))))) := by
    show _ = _
    unfold nameOk nmOk
    congr 1
    · congr 2
      rw [Bool.eq_iff_iff]
      simp [hx0]
    · congr 1
      rw [Bool.eq_iff_iff]
      simp [hx1]
  have s1 : ((str l).toList == [46]) = !decide (l ≠ [46]) := by
    rw [Lib.toList_data, Bool.eq_iff_iff, beq_iff_eq]; simp [str]
  have s2 : ((str l).toList == [46, 46]) = !decide (l ≠ [46, 46]) := by
    rw [Lib.toList_data, Bool.eq_iff_iff, beq_iff_eq]; simp [str]
  obtain ⟨m, hm⟩ : ∃ m, l.length = m := ⟨_, rfl⟩
  rw [hm] at hsz hok
  have HM := SL.hid hm
  have S1 := SL.hid s1; have S2 := SL.hid s2
  clear hm hi hj hib0 hib1 hx0 hx1 e0 e1 e47 s1 s2
  by_cases h3 : (m : Int) < 1
  · have hr : Hid (nameOk l = false) := by show _ = _; rw [hok.out, decide_eq_false (p := 1 ≤ m) (by omega), Bool.false_and, Bool.false_and]
    go_enter Tryz.func32, Tryz.ntmps32
    go_wp2_with fail
    exact HQ.out _ _ ⟨by rw [hr.out]; try (first | rfl | simp), rfl⟩
  by_cases h4 : (28 : Int) < (m : Int)
  · have hr : Hid (nameOk l = false) := by show _ = _; rw [hok.out, decide_eq_false (p := m ≤ 28) (by omega), Bool.false_and, Bool.and_false, Bool.false_and]
    go_enter Tryz.func32, Tryz.ntmps32
    go_wp2_with fail
    exact HQ.out _ _ ⟨by rw [hr.out]; try (first | rfl | simp), rfl⟩
  have hok2 : Hid (nameOk l = (decide (ix < 0) && (decide (iy < 0) && (decide (l ≠ [46]) && decide (l ≠ [46, 46]))))) := by
    show _ = _
    rw [hok.out, decide_eq_true (p := 1 ≤ m) (by omega), decide_eq_true (p := m ≤ 28) (by omega), Bool.true_and, Bool.true_and]
  clear hok
  by_cases h5 : (0 : Int) ≤ iy
  · have hr : Hid (nameOk l = false) := by show _ = _; rw [hok2.out, decide_eq_false (p := iy < 0) (by omega), Bool.false_and, Bool.and_false]
    go_enter Tryz.func32, Tryz.ntmps32
    go_wp2_with fail
    refine (Hib1.out _).mono ?_
    rintro e w2 ⟨rfl, rfl⟩
    go_wp2_with fail
    exact HQ.out _ _ ⟨by rw [hr.out]; try (first | rfl | simp), rfl⟩
  by_cases h6 : (0 : Int) ≤ ix
  · have hr : Hid (nameOk l = false) := by show _ = _; rw [hok2.out, decide_eq_false (p := ix < 0) (by omega), Bool.false_and]
    go_enter Tryz.func32, Tryz.ntmps32
    go_wp2_with fail
    refine (Hib1.out _).mono ?_
    rintro e w2 ⟨rfl, rfl⟩
    go_wp2_with fail
    refine (Hib0.out _).mono ?_
    rintro e w3 ⟨rfl, rfl⟩
    go_wp2_with fail
    exact HQ.out _ _ ⟨by rw [hr.out]; try (first | rfl | simp), rfl⟩
  have hok3 : Hid (nameOk l = (decide (l ≠ [46]) && decide (l ≠ [46, 46]))) := by
    show _ = _
    rw [hok2.out, decide_eq_true (p := ix < 0) (by omega), decide_eq_true (p := iy < 0) (by omega), Bool.true_and, Bool.true_and]
  clear hok2
  have n1 := S1.out; have n2 := S2.out
  clear S1 S2
  generalize decide (l ≠ [46]) = p at *
  generalize decide (l ≠ [46, 46]) = q at *
  cases p <;> cases q
  all_goals
    go_enter Tryz.func32, Tryz.ntmps32
    go_wp2_with fail
    refine (Hib1.out _).mono ?_
    rintro e w2 ⟨rfl, rfl⟩
    go_wp2_with fail
    refine (Hib0.out _).mono ?_
    rintro e w3 ⟨rfl, rfl⟩
    go_wp2_with fail
    exact HQ.out _ _ ⟨by rw [hok3.out]; try (first | rfl | simp), rfl⟩
end Go.Proofs.YtaoohjeaaccnfaaGreat.Fs
namespace Go.SL
set_option linter.unusedVariables false
set_option linter.unusedSimpArgs false
open Go.RowKit
/-- A place of a block: an entry, or nothing. -/
def Ent.may (e : Ent) : Prop := e.ok = true ∨ e = Ent.no
theorem Ent.may_len {e : Ent} (h : e.may) : e.nm.length ≤ 28 ∧ e.nd ≤ 3839 := by
  rcases h with h | rfl
  · have := Ent.ok_iff.1 h
    have h2 := nmOk_iff.1 this.2.2
    exact ⟨h2.2.1, this.2.1⟩
  · exact ⟨by decide, by decide⟩
theorem leV_pre {a : Int} {s : Nat} (rest : List UInt8) (h0 : 0 ≤ a) (h1 : a < (256 : Int) ^ s) : leV (leN a s ++ rest) s = a := by
  rw [leV_leN a s rest s (Nat.le_refl _), Int.emod_eq_of_lt h0 h1]
theorem Ent.parts {e : Ent} (hm : e.may) {L rest : List UInt8} {o : Nat} (h : L.drop o = e.enc ++ rest) :
    leV (L.drop o) 2 = (e.nd : Int) ∧ leV (L.drop (o + 2)) 1 = (e.nm.length : Int) ∧ (L.drop (o + 3)).take 29 = e.nm ++ zs (29 - e.nm.length) := by
  obtain ⟨h1, h2⟩ := Ent.may_len hm
  have e2 : L.drop (o + 2) = leN e.nm.length 1 ++ ((e.nm ++ zs (29 - e.nm.length)) ++ rest) := by
    rw [← List.drop_drop, h]
    unfold Ent.enc
    rw [List.append_assoc, List.drop_left' (leN_length _ _)]
    simp only [List.append_assoc]
  have e3 : L.drop (o + 3) = (e.nm ++ zs (29 - e.nm.length)) ++ rest := by
    rw [show o + 3 = (o + 2) + 1 by omega, ← List.drop_drop, e2, List.drop_left' (leN_length _ _)]
  refine ⟨?_, ?_, ?_⟩
  · rw [h]; unfold Ent.enc; rw [List.append_assoc]; exact leV_pre _ (by omega) (by omega)
  · rw [e2]; exact leV_pre _ (by omega) (by omega)
  · rw [e3, List.take_left']
    rw [List.length_append, length_zs]; omega
end Go.SL
namespace Go.Proofs.YtaoohjeaaccnfaaGreat.Fs
set_option linter.unusedVariables false
set_option linter.unusedSimpArgs false
open Go.RowKit Go.SL Go.Proofs.YtaoohjeaaccnfaaGreat.Ba
def BytesRQ (r g cap : Nat) (cur : Array Value) (L : List UInt8) (o n : Nat) (w : World) (F : Assn) (e : Ending) (w' : World) : Prop :=
  ∃ v, e = .returned v ∧ Sat w' (bs 5 v ((L.drop o).take n) * (readerA r g cap cur L (o + n) * F)) ∧ Side w w'
set_option maxRecDepth 100000 in
set_option maxHeartbeats 2000000 in
theorem bytesP_any (w : World) (r g cap : Nat) (cur : Array Value) (L : List UInt8) (o n : Nat) (F : Assn) (h : Sat w (readerA r g cap cur L o * F)) (ho : o < L.length) (hn : o + n ≤ L.length) (hl : L.length ≤ 1000000) :
    Calls Tryz.prog 106 #[ptV r, .int .i64 (n : Int)] w (BytesRQ r g cap cur L o n w F) := by
  have hnx := next_any w r g cap cur L o n F h ho hn hl
  have hm : (n : Int) ≤ 1000000 := by omega
  clear h
  go_enter Tryz.func106, Tryz.ntmps106
  go_wp2_with fail
  (with_reducible refine hnx.mono ?_)
  rintro e w2 ⟨c, rfl, h2, d2⟩
  have hlen : ((L.drop o).take n).length = n := by rw [List.length_take, List.length_drop]; omega
  have hrd := reader_rd h2 o n c (by omega)
  have hN : Sat w2 (bs 5 (.slice none 0 0) [] * (readerA r g cap cur L (o + n) * F)) := h2.slNil _ _
  obtain ⟨v', w3, hrun, h3, d3, a3, c3, rfl⟩ := append_bytes hN hrd (by simp) (by omega)
  simp only [List.length_nil, Nat.zero_add, hlen] at hrun h3
  have Hrun := SL.hid hrun
  rw [List.nil_append] at h3
  clear hnx hrun h2 hrd hlen hN
  go_wp2_with (at_builtin; refine wpList_append_run Hrun.out _ _ rfl rfl rfl rfl rfl ?_)
  go_ret
  exact ⟨_, rfl, h3, d2.trans d3⟩
theorem info_ent : (Tryz.prog.info? 47).map (·.size) = some 2 := by kernel_rfl
def SlotQ (r g cap : Nat) (cur : Array Value) (L : List UInt8) (o : Nat) (x : Ent) (w : World) (F : Assn) (e : Ending) (w' : World) : Prop :=
  e = .returned (.tuple #[x.v, .bool true]) ∧ Sat w' (readerA r g cap cur L (o + 32) * F) ∧ Side w w'
def SlRel (m : Nat) (u : Value) : Prop := ∃ k : Nat, k ≤ 29 - m ∧ u = .int .i64 (k : Int)
theorem slot_results {w : World} {tmps : Array Value} {a : Nat} {e : Value} {X : Array Value} {F : Assn} (h2 : tmps[2]? = some (ptV a)) (h3 : tmps[3]? = some e) (ha : Sat w (pt a (.cells X 47 (0, 0)) * F)) (hX : X.size = 2) :
    (results Tryz.f153 tmps).run Tryz.prog w = .ok (.tuple #[.agg X, e]) w := by
  have hl := run_loadVar_row (P := Tryz.prog) w a 47 47 X (0, 0) _ ha.heap Tryz.underlying47 rfl (by rw [hX]; exact info_ent)
  have hp : tmps.getD 2 undef = .pointer (some ⟨a, 0, none⟩) := by simp [h2]
  have hp3 : tmps.getD 3 undef = e := by simp [h3]
  simp [results, Tryz.results153, h2, h3, asAddr, hl]
set_option maxRecDepth 100000 in
set_option maxHeartbeats 4000000 in
theorem slot_any (w : World) (r g cap : Nat) (cur : Array Value) (L rest : List UInt8) (o : Nat) (x : Ent) (F : Assn) (h : Sat w (readerA r g cap cur L o * F)) (hx : x.may) (ho : o + 32 ≤ L.length) (hL : L.drop o = x.enc ++ rest) (hl : L.length ≤ 1000000) :
    Calls Tryz.prog 153 #[ptV r] w (SlotQ r g cap cur L o x w F) := by
  refine callsQ fun Q HQ => ?_
  obtain ⟨p1, p2, p3⟩ := Ent.parts hx hL
  obtain ⟨q1, q2⟩ := Ent.may_len hx
  have hA := h.alloc (.cells #[.int .i64 0, .string ⟨#[]⟩] 47 (0, 0))
  have dA := SL.hid ((Side.refl w).alloc (.cells #[.int .i64 0, .string ⟨#[]⟩] 47 (0, 0)))
  have HX := SL.hid hx; have HP1 := SL.hid p1; have HP2 := SL.hid p2; have HP3 := SL.hid p3
  have hB := hA.to (by ac_rfl : _ = readerA r g cap cur L o * (pt w.heap.size (.cells #[.int .i64 0, .string ⟨#[]⟩] 47 (0, 0)) * F))
  have hn1 := number_any _ r g cap cur L o 2 _ hB (by omega) (by omega) (by decide) hl
  have Hn1 := SL.hid hn1
  clear hn1 hB hA h hx p1 p2 p3 hL
  go_enter Tryz.func153, Tryz.ntmps153
  go_wp2_with fail
  refine Hn1.out.mono ?_
  generalize w.heap.size = rc at *
  generalize (w.alloc (.cells #[.int .i64 0, .string ⟨#[]⟩] 47 (0, 0))) = w1 at *
  rintro e w2 ⟨rfl, h2, d2⟩
  have D2 := SL.hid (dA.out.trans d2)
  have hn2 := number_any _ r g cap cur L (o + 2) 1 _ h2 (by omega) (by omega) (by decide) hl
  have Hn2 := SL.hid hn2
  have q2' : (x.nd : Int) ≤ 3839 := by omega
  have q1' : (x.nm.length : Int) ≤ 28 := by omega
  have q0' : (0 : Int) ≤ (x.nd : Int) := by omega
  rw [HP1.out]
  clear Hn1 hn2 h2 dA d2
  go_wp2_with fail
  refine Hn2.out.mono ?_
  rintro e w3 ⟨rfl, h3, d3⟩
  have D3 := SL.hid (D2.out.trans d3)
  have hb := bytesP_any _ r g cap cur L (o + 2 + 1) 29 _ h3 (by omega) (by omega) hl
  have Hb := SL.hid hb
  rw [HP2.out]
  obtain ⟨m, hm⟩ : ∃ m, x.nm.length = m := ⟨_, rfl⟩
  have HM := SL.hid hm
  rw [hm] at q1 q1'
  rw [hm]
  clear Hn2 hb h3 D2 d3 hm
  go_wp2_with fail
  refine Hb.out.mono ?_
  rintro e w4 ⟨v, rfl, h4, d4⟩
  have D4 := SL.hid (D3.out.trans d4)
  have h4' : Sat w4 (bs 5 v (x.nm ++ zs (29 - m)) * (readerA r g cap cur L (o + 32) * (pt rc (.cells #[.int .i64 0, .string ⟨#[]⟩] 47 (0, 0)) * F))) := by
    rw [HP3.out, HM.out] at h4; exact h4
  have hlen : (x.nm ++ zs (29 - m)).length = 29 := by rw [List.length_append, length_zs, HM.out]; omega
  obtain ⟨g2, c2, rfl, k1, k2, k3, -, -⟩ := bs_set h4' (i := 0) (by omega)
  rw [hlen]
  rw [hlen] at k1 k3
  have hz : ∀ k, k < 29 - m → w4.cell? ⟨g2, m + k, none⟩ = some (.int .u8 0) := fun k hk => by
    rw [k3 (m + k) (by omega), List.getD, List.getElem?_append_right (by rw [HM.out]; omega), HM.out]
    unfold zs
    rw [List.getElem?_replicate, if_pos (by omega)]; rfl
  have hrd : Rd w4 (.slice (some ⟨g2, 0, none⟩) 29 c2) (x.nm ++ zs (29 - m)) := by have := h4'.rds; rw [hlen] at this; exact ⟨by rw [hlen]; exact this.1, by rw [hlen]; exact this.2⟩
  have hnm : Rd w4 (.slice (some ⟨g2, 0, none⟩) m c2) x.nm := by
    rcases hrd.2 with ⟨e, -⟩ | ⟨a, c, e, ha⟩
    · cases e
    · simp only [Value.slice.injEq, Option.some.injEq] at e
      obtain ⟨rfl, -, rfl⟩ := e
      refine ⟨by simp, .inr ⟨_, _, by rw [HM.out], fun j u hu => ha j u ?_⟩⟩
      rw [List.map_append, List.getElem?_append_left (by have := (List.getElem?_eq_some_iff.1 hu).1; exact this)]; exact hu
  have t1 := run_text w4 _ _ hnm
  have H4 := SL.hid h4'
  have Hz := SL.hid hz
  have k1' : (29 : Int) ≤ (c2 : Int) := by omega
  have k2' : (c2 : Int) ≤ 9223372036854775807 := by unfold maxLen at k2; omega
  have T1 := SL.hid t1
  clear Hb h4 h4' hlen k1 k2 k3 hz hrd hnm D3 d4 t1
  go_wp2_with fail
  go_loop [27] (fun u => SlRel m u) (fun u => 29 - m - (intOf u).toNat)
  case atStart => exact ⟨0, Nat.zero_le _, rfl⟩
  case round =>
    obtain ⟨k, hk, rfl⟩ := hrel
    by_cases hlt : k < 29 - m
    · have hlt' : (k : Int) < 29 - (m : Int) := by omega
      have hck := Hz.out k hlt
      have hmk : ((29 - m : Nat) : Int) = 29 - (m : Int) := by omega
      go_wp2_with fail
      go_round
      case rel => exact ⟨k + 1, by omega, by go_num⟩
      case measure => simp [intOf]; omega
    · obtain rfl : k = 29 - m := by omega
      have hmk : ((29 - m : Nat) : Int) = 29 - (m : Int) := by omega
      have t1 := T1.out
      clear T1
      go_upto_region 13 with (fail)
      have hB := (H4.out.alloc (.cells #[.int .i64 (x.nd : Int), .string (str x.nm)] 47 (0, 0))).to (by ac_rfl : _ = pt w4.heap.size (.cells #[.int .i64 (x.nd : Int), .string (str x.nm)] 47 (0, 0)) * (pt rc (.cells #[.int .i64 0, .string ⟨#[]⟩] 47 (0, 0)) * (readerA r g cap cur L (o + 32) * (F * bs 5 (.slice (some ⟨g2, 0, none⟩) (x.nm ++ zs (29 - m)).length c2) (x.nm ++ zs (29 - m))))))
      have dB := SL.hid (D4.out.alloc (.cells #[.int .i64 (x.nd : Int), .string (str x.nm)] 47 (0, 0)))
      generalize w4.alloc (.cells #[.int .i64 (x.nd : Int), .string (str x.nm)] 47 (0, 0)) = w5 at *
      generalize w4.heap.size = ec at *
      have HB := SL.hid hB
      have e0 : w5.cell? ⟨ec, 0, none⟩ = some (.int .i64 (x.nd : Int)) := hB.cell 0
      have e1 : w5.cell? ⟨ec, 1, none⟩ = some (.string (str x.nm)) := hB.cell 1
      have hne : rc ≠ ec := fun e => Sat.ne hB e.symm
      clear hB t1 hmk
      rcases HX.out with hok | hno
      · have h1 : ¬ (x.nd : Int) = 0 := by have := (Ent.ok_iff.1 hok).1; omega
        have hr := dRight_any w5 x
        rw [hok] at hr
        have Hr := SL.hid hr
        clear hok hr
        go_wp2_with fail
        refine Hr.out.mono ?_
        rintro e w6 ⟨rfl, h6, d6⟩
        have hB := h6.keepW HB.out
        have e0 : w6.cell? ⟨ec, 0, none⟩ = some (.int .i64 (x.nd : Int)) := hB.cell 0
        have e1 : w6.cell? ⟨ec, 1, none⟩ = some (.string (str x.nm)) := hB.cell 1
        have r0 : w6.cell? ⟨rc, 0, none⟩ = some (.int .i64 0) := hB.front2.cell 0
        have r1 : w6.cell? ⟨rc, 1, none⟩ = some (.string ⟨#[]⟩) := hB.front2.cell 1
        have f0 := hB.front2.frozen 0
        have f1 := hB.front2.frozen 1
        have HC := SL.hid ((hB.front2.setCell 0 (.int .i64 (x.nd : Int))).setCell 1 (.string (str x.nm)))
        have dC := SL.hid (((dB.out.trans d6).setCell ⟨rc, 0, none⟩ (.int .i64 (x.nd : Int))).setCell ⟨rc, 1, none⟩ (.string (str x.nm)))
        clear hB h6 Hr HB
        go_wp2_with fail
        exact bodyPost_ret (slot_results rfl rfl HC.out rfl) rfl (HQ.out _ _ ⟨rfl, (HC.out.right.right.to (star_assoc _ _ _).symm).left, dC.out⟩)
      · subst hno
        have r0 : w5.cell? ⟨rc, 0, none⟩ = some (.int .i64 0) := HB.out.front2.cell 0
        have r1 : w5.cell? ⟨rc, 1, none⟩ = some (.string ⟨#[]⟩) := HB.out.front2.cell 1
        have f0 := HB.out.front2.frozen 0
        have f1 := HB.out.front2.frozen 1
        have HC := SL.hid ((HB.out.front2.setCell 0 (.int .i64 0)).setCell 1 (.string ⟨#[]⟩))
        have dC := SL.hid ((dB.out.setCell ⟨rc, 0, none⟩ (.int .i64 0)).setCell ⟨rc, 1, none⟩ (.string ⟨#[]⟩))
        have e0' : w5.cell? ⟨ec, 0, none⟩ = some (.int .i64 0) := e0
        have e1' : w5.cell? ⟨ec, 1, none⟩ = some (.string ⟨#[]⟩) := e1
        clear HB e0 e1
        go_wp2_with fail
        exact bodyPost_ret (slot_results rfl rfl HC.out rfl) rfl (HQ.out _ _ ⟨rfl, (HC.out.right.right.to (star_assoc _ _ _).symm).left, dC.out⟩)
end Go.Proofs.YtaoohjeaaccnfaaGreat.Fs
namespace Go.SL
set_option linter.unusedVariables false
set_option linter.unusedSimpArgs false
open Go.RowKit
/-- The bytes of places. -/
def encs (Es : List Ent) : List UInt8 := Es.flatMap Ent.enc
theorem Ent.may_enc {e : Ent} (h : e.may) : e.enc.length = 32 := by
  rcases h with h | rfl
  · exact Ent.enc_length h
  · rw [Ent.no_enc]; exact length_zs 32
theorem encs_length : ∀ {Es : List Ent}, (∀ e ∈ Es, e.may) → (encs Es).length = 32 * Es.length
  | [], _ => rfl
  | e :: Es, h => by
    have := encs_length (Es := Es) fun x hx => h x (List.mem_cons_of_mem _ hx)
    unfold encs at this ⊢
    rw [List.flatMap_cons, List.length_append, this, Ent.may_enc (h e (List.mem_cons_self ..)), List.length_cons]
    omega
theorem encs_append (A B : List Ent) : encs (A ++ B) = encs A ++ encs B := by unfold encs; rw [List.flatMap_append]
theorem encs_drop {Es : List Ent} (h : ∀ e ∈ Es, e.may) {k : Nat} (hk : k < Es.length) : (encs Es).drop (32 * k) = (Es[k]).enc ++ encs (Es.drop (k + 1)) := by
  have e : Es = Es.take k ++ (Es[k] :: Es.drop (k + 1)) := by
    rw [List.getElem_cons_drop hk, List.take_append_drop]
  have hl : (encs (Es.take k)).length = 32 * k := by
    rw [encs_length fun x hx => h x (List.mem_of_mem_take hx), List.length_take]; omega
  conv => lhs; rw [e]
  rw [encs_append, List.drop_left' hl]
  rfl
end Go.SL
namespace Go.Proofs.YtaoohjeaaccnfaaGreat.Fs
set_option linter.unusedVariables false
set_option linter.unusedSimpArgs false
open Go.RowKit Go.SL Go.Proofs.YtaoohjeaaccnfaaGreat.Ba
attribute [local go_sem] Oper.semAt_some
/-- A place comes, and that it is one. -/
def slT (e : Ent) (vs : Array Value) : Assn := fact (vs = #[e.v, .bool true])
def SlIt (bx : Nat) (v : Value) (Es : List Ent) : Assn := pt bx (.cells #[v] 48 (0, 0)) * bs 5 v (encs Es)
def SltRel (r g cap : Nat) (cur : Array Value) (A : List Ent → Assn) (Es : List Ent) (X : Assn) (w0 : World) (k : Nat) (wr : World) : Prop :=
  ∃ j : Nat, j ≤ Es.length ∧ Es.length ≤ j + k ∧ Side w0 wr ∧ Sat wr (readerA r g cap cur (encs Es) (32 * j) * (A (Es.take j) * X))
theorem take_snocE {Es : List Ent} {k : Nat} (h : k < Es.length) : Es.take k ++ [Es[k]] = Es.take (k + 1) := by
  rw [List.take_succ_eq_append_getElem h]
set_option maxRecDepth 100000 in
set_option maxHeartbeats 2000000 in
theorem slots_iter (n : Nat) (bx : Nat) (v : Value) (Es : List Ent) (hm : ∀ e ∈ Es, e.may) (h0 : 0 < Es.length) (hl : Es.length ≤ 15) :
    Iterates Fence.wide n Tryz.prog 152 #[.pointer (some ⟨bx, 0, none⟩)] (SlIt bx v Es) slT (fun ys => ys = Es) (fun ys => ys <+: Es) := by
  intro lp A Ax G w0 w hY hs h
  have hlen := encs_length hm
  have hB : Sat w (pt bx (.cells #[v] 48 (0, 0)) * (bs 5 v (encs Es) * (A [] * G))) := h.to (by unfold SlIt; ac_rfl)
  have c0 : w.cell? ⟨bx, 0, none⟩ = some v := hB.cell 0
  have hr := read_any w v (encs Es) hB.front2.rds (by omega) (by omega)
  have H := SL.hid h; have HM := SL.hid hm; have HL := SL.hid hlen
  clear h hB hm hlen
  refine callsIn_of_wp Tryz.func152 rfl trivial ?_ rfl
  simp only [Tryz.ntmps152, List.size_toArray, List.length_cons, List.length_nil, Nat.reduceAdd, Nat.reduceSub, Array.replicate_succ, Array.replicate_zero, List.push_toArray, List.append_toArray, List.nil_append, List.cons_append]
  gi_wp2_with fail
  refine callW hr ?_
  rintro e w1 ⟨r, g, cap, cur, rfl, h1, d1⟩
  have hst : Sat w1 (readerA r g cap cur (encs Es) (32 * 0) * (A (Es.take 0) * (SlIt bx v Es * G))) := h1.under H.out
  have ds := hs.trans d1
  clear hr h1 c0 H hs d1
  gi_wp2
  gi_loopw [] (fun wr => ∃ k, SltRel r g cap cur A Es (SlIt bx v Es * G) w0 k wr) (fun wr => leastOf (fun k => SltRel r g cap cur A Es (SlIt bx v Es * G) w0 k wr))
  case atStart => exact ⟨Es.length, 0, Nat.zero_le _, by omega, ds, hst⟩
  case round =>
    obtain ⟨hk, hmin⟩ := leastOf_spec hrel
    generalize leastOf (fun k => SltRel r g cap cur A Es (SlIt bx v Es * G) w0 k wr) = gk at hk hmin ⊢
    obtain ⟨j, hj, hjk, hside, hsat⟩ := hk
    have hleft := left_any wr r g cap cur (encs Es) (32 * j) _ hsat
    rw [HL.out] at hleft
    clear hst ds hmin hrel
    by_cases hlt : j < Es.length
    · obtain ⟨q, hq⟩ : ∃ q, 32 * Es.length - 32 * j = q := ⟨_, rfl⟩
      rw [hq] at hleft
      have hq1 : (32 : Int) ≤ (q : Int) := by omega
      have hmay := HM.out _ (List.getElem_mem hlt)
      have hdr := encs_drop HM.out hlt
      have hsl := slot_any wr r g cap cur (encs Es) (encs (Es.drop (j + 1))) (32 * j) Es[j] _ hsat hmay (by rw [HL.out]; omega) hdr (by rw [HL.out]; omega)
      have hsn := take_snocE hlt
      have hpre : Es.take j ++ [Es[j]] <+: Es := by rw [hsn]; exact List.take_prefix _ _
      have Hsl := SL.hid hsl; have Hsn := SL.hid hsn; have Hpre := SL.hid hpre; have HJ := SL.hid hjk
      clear hsl hsn hpre hdr hmay hsat hq hjk
      generalize Es[j] = x at *
      gi_wp2_with fail
      refine callW hleft ?_
      rintro e w2 ⟨rfl, rfl⟩
      clear hleft
      gi_wp2_with fail
      refine callW Hsl.out ?_
      rintro e w3 ⟨rfl, h3, d3⟩
      clear Hsl
      have hA := h3.alloc (.cells #[.int .i64 (x.nd : Int), .string (str x.nm)] 47 (0, 0))
      have dA := (hside.trans d3).alloc (.cells #[.int .i64 (x.nd : Int), .string (str x.nm)] 47 (0, 0))
      unfold Ent.v
      have e0 : (w3.alloc (.cells #[.int .i64 (x.nd : Int), .string (str x.nm)] 47 (0, 0))).cell? ⟨w3.heap.size, 0, none⟩ = some (.int .i64 (x.nd : Int)) := hA.cell 0
      have hB : Sat (w3.alloc (.cells #[.int .i64 (x.nd : Int), .string (str x.nm)] 47 (0, 0))) (A (Es.take j) * (slT x #[.agg #[.int .i64 (x.nd : Int), .string (str x.nm)], .bool true] * (readerA r g cap cur (encs Es) (32 * j + 32) * (SlIt bx v Es * G)))) := by
        have h9 := hA.right
        have h10 := h9.to (by ac_rfl : _ = A (Es.take j) * (readerA r g cap cur (encs Es) (32 * j + 32) * (SlIt bx v Es * G)))
        exact Sat.front2 (Sat.fact_iff.2 ⟨rfl, h10⟩)
      obtain ⟨fn, tmps, assign, body, hy, hR⟩ := hY (Es.take j) x #[.agg #[.int .i64 (x.nd : Int), .string (str x.nm)], .bool true] _ _ Hpre.out dA hB
      clear hA hB dA h3 hY
      gi_wp2
      refine ⟨fun h => (by cases h), hR.mono ?_⟩
      rintro e W' (⟨rfl, hs5, hsat5⟩ | ⟨rfl, hs5, hsat5⟩)
      · have hrel' : SltRel r g cap cur A Es (SlIt bx v Es * G) w0 (gk - 1) W' :=
          ⟨j + 1, hlt, by have := HJ.out; omega, hs5, by rw [← Hsn.out, Nat.mul_add]; exact hsat5.front2⟩
        gi_wp2
        go_roundw
        case rel => exact ⟨_, hrel'⟩
        case measure => exact Nat.lt_of_le_of_lt ((leastOf_spec ⟨_, hrel'⟩).2 _ hrel') (by have := HJ.out; omega)
      · gi_wp2
        refine bodyPost_ret (results_none rfl _ _ _) rfl ?_
        exact ⟨⟨_, rfl⟩, hs5, .inr ⟨_, Hpre.out, hsat5.drop2⟩⟩
    · obtain rfl : j = Es.length := by omega
      rw [Nat.sub_self] at hleft
      have hleft2 : Calls Tryz.prog 107 #[ptV r] wr (IntIs 0 wr) := hleft
      rw [List.take_length] at hsat
      have HS := SL.hid hsat.right
      clear hleft hsat
      gi_wp2_with fail
      refine callW hleft2 ?_
      rintro e w2 ⟨rfl, rfl⟩
      clear hleft2
      gi_wp2
      go_end0
      exact ⟨⟨_, rfl⟩, hside, .inl ⟨_, rfl, HS.out⟩⟩
end Go.Proofs.YtaoohjeaaccnfaaGreat.Fs
namespace Go.SL
set_option linter.unusedVariables false
set_option linter.unusedSimpArgs false
open Go.RowKit
/-- Entries in cells. -/
def flatE (P : List Ent) : List Value := P.flatMap Ent.cells
theorem flatE_length (P : List Ent) : (flatE P).length = P.length * 2 := by
  unfold flatE
  induction P with
  | nil => rfl
  | cons e P ih => rw [List.flatMap_cons, List.length_append, ih, List.length_cons]; show 2 + _ = _; omega
theorem flatE_append (A B : List Ent) : flatE (A ++ B) = flatE A ++ flatE B := by unfold flatE; rw [List.flatMap_append]
theorem flatE_get {P : List Ent} {k : Nat} (hk : k < P.length) : (flatE P)[k * 2]? = some (.int .i64 ((P[k]).nd : Int)) ∧ (flatE P)[k * 2 + 1]? = some (.string (str (P[k]).nm)) := by
  have e : P = P.take k ++ (P[k] :: P.drop (k + 1)) := by rw [List.getElem_cons_drop hk, List.take_append_drop]
  have hl : (flatE (P.take k)).length = k * 2 := by rw [flatE_length, List.length_take]; omega
  have e2 : flatE P = flatE (P.take k) ++ (.int .i64 ((P[k]).nd : Int) :: .string (str (P[k]).nm) :: flatE (P.drop (k + 1))) := by
    conv => lhs; rw [e]
    rw [flatE_append]; rfl
  rw [e2]
  constructor
  · rw [List.getElem?_append_right (by omega), hl, Nat.sub_self]; rfl
  · rw [List.getElem?_append_right (by omega), hl, show k * 2 + 1 - k * 2 = 1 by omega]; rfl
theorem flatE_one (P : List Ent) : ∀ u ∈ flatE P, u.oneCell' = true := by
  intro u hu
  obtain ⟨e, _, h⟩ := List.mem_flatMap.1 hu
  simp only [Ent.cells, List.mem_cons, List.not_mem_nil, or_false] at h
  rcases h with rfl | rfl <;> rfl
/-- The places of a block that has these entries. -/
def placesOf (P : List Ent) : List Ent := P ++ List.replicate (15 - P.length) Ent.no
theorem placesOf_may {P : List Ent} (h : ∀ e ∈ P, e.ok = true) : ∀ e ∈ placesOf P, e.may := by
  intro e he
  rcases List.mem_append.1 he with h1 | h1
  · exact .inl (h e h1)
  · exact .inr (List.eq_of_mem_replicate h1)
def entsOf (ys : List Ent) : List Ent := ys.filter fun e => e.ok
def endedOf (ys : List Ent) : Bool := ys.any fun e => !e.ok
theorem no_ok : Ent.no.ok = false := by decide
theorem entsOf_places {P : List Ent} (h : ∀ e ∈ P, e.ok = true) : entsOf (placesOf P) = P := by
  unfold entsOf placesOf
  rw [List.filter_append, List.filter_eq_self.2 h, List.filter_eq_nil_iff.2 (fun e he => by rw [List.eq_of_mem_replicate he, no_ok]; exact Bool.noConfusion), List.append_nil]
/-- Behind nothing there is no entry. -/
theorem places_pre {P : List Ent} (h : ∀ e ∈ P, e.ok = true) {pre : List Ent} {x : Ent} (hp : pre ++ [x] <+: placesOf P) (hx : x.ok = true) : endedOf pre = false ∧ pre.length < P.length := by
  obtain ⟨t, ht⟩ := hp
  have hlt : pre.length < P.length := by
    refine Nat.lt_of_not_le fun hle => ?_
    have e1 : (placesOf P)[pre.length]? = some x := by
      rw [← ht, List.append_assoc, List.getElem?_append_right (Nat.le_refl _), Nat.sub_self]; rfl
    unfold placesOf at e1
    rw [List.getElem?_append_right hle, List.getElem?_replicate] at e1
    split at e1
    · injection e1 with e1
      rw [← e1, no_ok] at hx; cases hx
    · cases e1
  refine ⟨?_, hlt⟩
  unfold endedOf
  rw [List.any_eq_false]
  intro e he
  have : e ∈ P := by
    obtain ⟨i, hi, hie⟩ := List.getElem_of_mem he
    have e1 : (placesOf P)[i]? = some e := by
      rw [← ht, List.append_assoc, List.getElem?_append_left hi, List.getElem?_eq_getElem hi, hie]
    unfold placesOf at e1
    rw [List.getElem?_append_left (by omega)] at e1
    exact List.mem_of_getElem? e1
  rw [h e this]; decide
theorem places_mem {P : List Ent} (h : ∀ e ∈ P, e.ok = true) {pre : List Ent} {x : Ent} (hp : pre ++ [x] <+: placesOf P) : x.may := by
  obtain ⟨t, ht⟩ := hp
  exact placesOf_may h x (by rw [← ht]; simp)
end Go.SL
namespace Go.Proofs.YtaoohjeaaccnfaaGreat.Fs
set_option linter.unusedVariables false
set_option linter.unusedSimpArgs false
open Go.RowKit Go.SL Go.Proofs.YtaoohjeaaccnfaaGreat.Ba
attribute [local go_sem] Oper.semAt_some
def SlotsFQ (v : Value) (w : World) (e : Ending) (w' : World) : Prop := e = .returned (.func (.func 152) #[] #[.pointer (some ⟨w.heap.size, 0, none⟩)]) ∧ w' = w.alloc (.cells #[v] 48 (0, 0))
theorem slotsF_any (w : World) (a : Option Addr) (n c : Nat) : Calls Tryz.prog 137 #[.slice a n c] w (SlotsFQ (.slice a n c) w) := by
  go_enter Tryz.func137, Tryz.ntmps137
  go_wp2
  go_ret
  exact ⟨rfl, rfl⟩
theorem info_ent2 : (Tryz.prog.info? 47).map (fun i => (i.zero, i.size, i.bytes)) = some (some (.agg #[.int .i64 0, .string ⟨#[]⟩]), 2, 24) := by kernel_rfl
/-- The list that grows, and whether it ended. -/
def DecDA (lc ec : Nat) (ys : List Ent) : Assn := ex fun v => pt lc (.cells #[v] 43 (0, 0)) * (sl 47 2 v (entsOf ys).length (flatE (entsOf ys)) * pt ec (.cells #[.bool (endedOf ys)] 4 (0, 0)))
/-- What a round begins with. -/
def DecB (va : Option Addr) (vc r0 r1 lc ec bx : Nat) (pre : List Ent) (x : Ent) (a' : Act) : Assn := ex fun c : Nat =>
  fact (a' = { tmps := #[.slice va 480 vc, undef, ptV r0, ptV r1, ptV lc, ptV ec, ptV c, .bool true, .slice va 480 vc, .int .i64 480, .bool false, .slice va 480 vc, .func (.func 152) #[] #[ptV bx], x.v, .bool true, undef, undef, undef, undef, undef, undef, undef, undef, undef, undef, undef, undef, undef, undef], defers := [] }) *
    (pt c (.cells #[.int .i64 (x.nd : Int), .string (str x.nm)] 47 (0, 0)) * DecDA lc ec pre)
theorem entsOf_no (pre : List Ent) : entsOf (pre ++ [Ent.no]) = entsOf pre ∧ endedOf (pre ++ [Ent.no]) = true := by
  unfold entsOf endedOf
  rw [List.filter_append, List.any_append]
  refine ⟨?_, ?_⟩
  · rw [show List.filter (fun e : Ent => e.ok) [Ent.no] = [] from by rw [List.filter_cons_of_neg (by rw [no_ok]; exact Bool.noConfusion)]; rfl, List.append_nil]
  · rw [show List.any [Ent.no] (fun e : Ent => !e.ok) = true from by rw [List.any_cons, no_ok]; rfl, Bool.or_true]
theorem entsOf_ok (pre : List Ent) {x : Ent} (h : x.ok = true) : entsOf (pre ++ [x]) = entsOf pre ++ [x] ∧ endedOf (pre ++ [x]) = endedOf pre := by
  unfold entsOf endedOf
  rw [List.filter_append, List.any_append]
  refine ⟨?_, ?_⟩
  · rw [show List.filter (fun e : Ent => e.ok) [x] = [x] from List.filter_cons_of_pos h]
  · rw [show List.any [x] (fun e : Ent => !e.ok) = false from by rw [List.any_cons, h]; rfl, Bool.or_false]
theorem ents_le (ys : List Ent) : (entsOf ys).length ≤ ys.length := List.length_filter_le _ _
theorem decodeB_results {w : World} {tmps : Array Value} {a b : Nat} {v e : Value} {F : Assn} (h2 : tmps[2]? = some (ptV a)) (h3 : tmps[3]? = some (ptV b)) (h : Sat w (pt a (.cells #[v] 43 (0, 0)) * (pt b (.cells #[e] 29 (0, 0)) * F))) :
    (results Tryz.f126 tmps).run Tryz.prog w = .ok (.tuple #[v, e]) w := by
  have c0 := h.cell 0
  have c1 := h.front2.cell 0
  have hp : tmps.getD 2 undef = ptV a := by simp [h2]
  have hp3 : tmps.getD 3 undef = ptV b := by simp [h3]
  simp at c0 c1
  simp [results, Tryz.results126, h2, h3, asAddr, ptV, go_sem, c0, c1]
def DecDQ (v : Value) (P : List Ent) (F : Assn) (w : World) (e : Ending) (w' : World) : Prop :=
  ∃ u, e = .returned (.tuple #[u, .int .i64 0]) ∧ Sat w' (sl 47 2 u P.length (flatE P) * (bs 5 v (encs (placesOf P)) * F)) ∧ Side w w'
set_option maxRecDepth 100000 in
set_option maxHeartbeats 2000000 in
theorem decodeB_any (w : World) (v : Value) (P : List Ent) (hP : ∀ e ∈ P, e.ok = true) (hl : P.length ≤ 15) (F : Assn) (h : Sat w (bs 5 v (encs (placesOf P)) * F)) :
    Calls Tryz.prog 126 #[v] w (DecDQ v P F w) := by
  obtain ⟨i0, hi, hz, hs0, hb0⟩ := info_parts info_ent2
  have hpl : (placesOf P).length = 15 := by unfold placesOf; rw [List.length_append, List.length_replicate]; omega
  have hlen : (encs (placesOf P)).length = 480 := by rw [encs_length (placesOf_may hP), hpl]
  obtain ⟨va, vc, rfl⟩ := sl_shape h
  have hA := (((h.alloc (.cells #[.slice none 0 0] 43 (0, 0))).alloc (.cells #[.int .i64 0] 29 (0, 0))).alloc (.cells #[.slice none 0 0] 43 (0, 0))).alloc (.cells #[.bool false] 4 (0, 0))
  have dA := ((((Side.refl w).alloc (.cells #[.slice none 0 0] 43 (0, 0))).alloc (.cells #[.int .i64 0] 29 (0, 0))).alloc (.cells #[.slice none 0 0] 43 (0, 0))).alloc (.cells #[.bool false] 4 (0, 0))
  simp only [World.size_alloc] at hA
  rw [hlen] at hA ⊢
  refine (callsIn_wide (n := 9)).1 ?_
  refine callsIn_of_wp_marks Tryz.func126 rfl trivial ?_ rfl
  simp only [Tryz.ntmps126, List.size_toArray, List.length_cons, List.length_nil, Nat.reduceAdd, Nat.reduceSub, Array.replicate_succ, Array.replicate_zero, List.push_toArray, List.append_toArray, List.nil_append, List.cons_append]
  gi_wp2_with fail
  generalize (((w.alloc (.cells #[.slice none 0 0] 43 (0, 0))).alloc (.cells #[.int .i64 0] 29 (0, 0))).alloc (.cells #[.slice none 0 0] 43 (0, 0))).alloc (.cells #[.bool false] 4 (0, 0)) = w1 at *
  refine callV (slotsF_any w1 va 480 vc) ?_
  rintro en w2 ⟨rfl, rfl⟩
  have hB := hA.alloc (.cells #[.slice va 480 vc] 48 (0, 0))
  have dB := dA.alloc (.cells #[.slice va 480 vc] 48 (0, 0))
  clear hA dA
  gi_wp2_with fail
  generalize w1.alloc (.cells #[.slice va 480 vc] 48 (0, 0)) = w2 at *
  generalize w1.heap.size = bx at *
  generalize w.heap.size + 1 + 1 + 1 = ec at *
  generalize w.heap.size + 1 + 1 = lc at *
  generalize w.heap.size + 1 = r1 at *
  generalize w.heap.size = r0 at *
  have hst : Sat w2 (DecDA lc ec [] * (SlIt bx (.slice va 480 vc) (placesOf P) * (pt r0 (.cells #[.slice none 0 0] 43 (0, 0)) * (pt r1 (.cells #[.int .i64 0] 29 (0, 0)) * F)))) :=
    Sat.ex_star_iff.2 ⟨.slice none 0 0, by
      have := (hB.slNil 47 2)
      exact this.to (by unfold SlIt; show _ = _ * (sl _ 2 _ 0 [] * pt ec (.cells #[.bool false] _ _)) * _; ac_rfl)⟩
  clear hB h
  refine wpIn_range (w0 := w) rfl (by decide) (gf := 152) (lb := #[.pointer (some ⟨bx, 0, none⟩)]) rfl trivial (enters Tryz.func152 (by kernel_rfl) rfl)
    (slots_iter _ bx (.slice va 480 vc) (placesOf P) (placesOf_may hP) (by omega) (by omega)) (DecDA lc ec) (fun _ _ => fact False) (DecB va vc r0 r1 lc ec bx)
    (pt r0 (.cells #[.slice none 0 0] 43 (0, 0)) * (pt r1 (.cells #[.int .i64 0] 29 (0, 0)) * F)) ?hps dB hst ?assign ?body ?done ?stop
  case hps =>
    intro x vs Fr W h
    unfold slT at h
    obtain ⟨rfl, _⟩ := Sat.fact_iff.1 h
    rfl
  case assign =>
    intro lp r pre x vs Fr W K _ hsd H hK
    have H1 : Sat W (slT x vs * (DecDA lc ec pre * (pt lp (.loop r) * Fr))) := H.front2
    unfold slT at H1
    obtain ⟨rfl, H2⟩ := Sat.fact_iff.1 H1
    have hA := H2.alloc (.cells #[.int .i64 (x.nd : Int), .string (str x.nm)] 47 (0, 0))
    have hd := hsd.alloc (.cells #[.int .i64 (x.nd : Int), .string (str x.nm)] 47 (0, 0))
    clear H H1 H2
    have hk := hK { tmps := #[.slice va 480 vc, undef, ptV r0, ptV r1, ptV lc, ptV ec, ptV W.heap.size, .bool true, .slice va 480 vc, .int .i64 480, .bool false, .slice va 480 vc, .func (.func 152) #[] #[ptV bx], x.v, .bool true, undef, undef, undef, undef, undef, undef, undef, undef, undef, undef, undef, undef, undef, undef], defers := [] } _ hd
      (by
        unfold DecB
        refine (Sat.ex_star_iff.2 ⟨W.heap.size, ?_⟩)
        exact (Sat.fact_iff.2 ⟨rfl, hA⟩ : Sat _ (fact _ * _)).to (by ac_rfl))
    clear hA hd hK
    unfold Ent.v at *
    gi_wp2
    exact hk
  case body =>
    intro lp r pre x a' Fr W hp hsd H
    unfold DecB at H
    obtain ⟨c, H1⟩ := Sat.ex_star_iff.1 H
    obtain ⟨rfl, H2⟩ := Sat.fact_iff.1 (H1.to (star_assoc _ _ _))
    clear H H1
    have hmay := places_mem hP hp
    have H3 : Sat W (DecDA lc ec pre * (pt c (.cells #[.int .i64 (x.nd : Int), .string (str x.nm)] 47 (0, 0)) * (pt lp (.loop r) * Fr))) := H2.to (by ac_rfl)
    obtain ⟨v, H4⟩ := Sat.ex_star_iff.1 H3
    have H5 : Sat W (pt lc (.cells #[v] 43 (0, 0)) * (pt ec (.cells #[.bool (endedOf pre)] 4 (0, 0)) * (pt c (.cells #[.int .i64 (x.nd : Int), .string (str x.nm)] 47 (0, 0)) * (sl 47 2 v (entsOf pre).length (flatE (entsOf pre)) * (pt lp (.loop r) * Fr))))) := H4.to (by ac_rfl)
    clear H2 H3 H4
    have c0 : W.cell? ⟨lc, 0, none⟩ = some v := H5.cell 0
    have c1 : W.cell? ⟨ec, 0, none⟩ = some (.bool (endedOf pre)) := H5.front2.cell 0
    have c2 : W.cell? ⟨c, 0, none⟩ = some (.int .i64 (x.nd : Int)) := H5.front3.cell 0
    have c3 : W.cell? ⟨c, 1, none⟩ = some (.string (str x.nm)) := H5.front3.cell 1
    have f0 := H5.frozen 0
    have f1 := H5.front2.frozen 0
    rcases hmay with hok | rfl
    · obtain ⟨e1, e2⟩ := places_pre hP hp hok
      obtain ⟨o1, o2⟩ := entsOf_ok pre hok
      have h1 : ¬ (x.nd : Int) = 0 := by have := (Ent.ok_iff.1 hok).1; omega
      rw [e1] at c1 o2
      have hle := ents_le pre
      have hA := H5.alloc (.cells #[.int .i64 (x.nd : Int), .string (str x.nm)] 47 (0, 0))
      have hR : Rds (W.alloc (.cells #[.int .i64 (x.nd : Int), .string (str x.nm)] 47 (0, 0))) 2 (.slice (some ⟨W.heap.size, 0, none⟩) 1 1) 1 [.int .i64 (x.nd : Int), .string (str x.nm)] :=
        ⟨rfl, .inr ⟨_, _, rfl, fun j u hu => by
          rw [Addr.add_lit, Nat.zero_add]
          exact (hA.cell j).trans (by simpa using hu)⟩⟩
      have hA2 := hA.to (by ac_rfl : _ = sl 47 2 v (entsOf pre).length (flatE (entsOf pre)) * (pt lc (.cells #[v] 43 (0, 0)) * (pt ec (.cells #[.bool (endedOf pre)] 4 (0, 0)) * (pt c (.cells #[.int .i64 (x.nd : Int), .string (str x.nm)] 47 (0, 0)) * (pt W.heap.size (.cells #[.int .i64 (x.nd : Int), .string (str x.nm)] 47 (0, 0)) * (pt lp (.loop r) * Fr))))))
      obtain ⟨v', w', hrun, hsat', hside'⟩ := Sat.append (P := Tryz.prog) (ty := 43) Tryz.underlying43 hi hz hs0 hb0 rfl hA2 hR (by intro u hu; simp only [List.mem_cons, List.not_mem_nil, or_false] at hu; rcases hu with rfl | rfl <;> rfl) (by unfold maxLen; omega) (by omega)
      obtain ⟨aa, ac, rfl⟩ := sl_shape hsat'
      have c0' : w'.cell? ⟨lc, 0, none⟩ = some v := hsat'.front2.cell 0
      have f0' := hsat'.front2.frozen 0
      have hset := hsat'.front2.setCell 0 (.slice aa ((entsOf pre).length + 1) ac)
      have Hset := SL.hid hset; have Hrun := SL.hid hrun; have O1 := SL.hid o1; have O2 := SL.hid o2; have E1 := SL.hid e1
      have Hsd := SL.hid (((hsd.alloc (.cells #[.int .i64 (x.nd : Int), .string (str x.nm)] 47 (0, 0))).trans hside').setCell ⟨lc, 0, none⟩ (.slice aa ((entsOf pre).length + 1) ac))
      clear hA hR hA2 hi hz hs0 hb0 hset hrun o1 o2 e1 H5 hok hsat' hle e2 hP hp hlen hpl
      unfold Ent.v
      gi_wp2_with (gi_at_builtin; refine wpListIn_append_run Hrun.out _ _ rfl rfl rfl rfl rfl ?_)
      refine ⟨Hsd.out, ?_⟩
      refine Sat.ex_star_iff.2 ⟨.slice aa ((entsOf pre).length + 1) ac, ?_⟩
      rw [O1.out, O2.out, List.length_append, flatE_append]
      have h6 := Hset.out
      simp only [List.setIfInBounds_toArray, List.set_cons_zero] at h6
      rw [E1.out] at h6
      have h7 := h6.to (by ac_rfl : _ = (pt c (.cells #[.int .i64 (x.nd : Int), .string (str x.nm)] 47 (0, 0)) * pt W.heap.size (.cells #[.int .i64 (x.nd : Int), .string (str x.nm)] 47 (0, 0))) * (pt lc (.cells #[.slice aa ((entsOf pre).length + 1) ac] 43 (0, 0)) * (sl 47 2 (.slice aa ((entsOf pre).length + 1) ac) ((entsOf pre).length + 1) (flatE (entsOf pre) ++ [.int .i64 (x.nd : Int), .string (str x.nm)]) * pt ec (.cells #[.bool false] 4 (0, 0)) * (pt lp (.loop r) * Fr))))
      exact h7.right.to (by
        have e : flatE [x] = [.int .i64 (x.nd : Int), .string (str x.nm)] := rfl
        rw [e, List.length_singleton]; ac_rfl)
    · obtain ⟨o1, o2⟩ := entsOf_no pre
      have hset := H5.front2.setCell 0 (.bool true)
      have Hset := SL.hid hset; have O1 := SL.hid o1; have O2 := SL.hid o2
      have Hsd := SL.hid (hsd.setCell ⟨ec, 0, none⟩ (.bool true))
      have c2' : W.cell? ⟨c, 0, none⟩ = some (.int .i64 0) := c2
      have c3' : W.cell? ⟨c, 1, none⟩ = some (.string ⟨#[]⟩) := c3
      have ev : Ent.no.v = .agg #[.int .i64 0, .string ⟨#[]⟩] := rfl
      clear hi hz hs0 hb0 hset o1 o2 H5 hP hp hlen hpl c2 c3
      rw [ev]
      clear ev
      gi_wp2_with fail
      refine ⟨Hsd.out, Sat.ex_star_iff.2 ⟨v, ?_⟩⟩
      rw [O1.out, O2.out]
      have h6 := Hset.out
      simp only [List.setIfInBounds_toArray, List.set_cons_zero] at h6
      exact (h6.to (by ac_rfl : _ = pt c (.cells #[.int .i64 (Ent.no.nd : Int), .string (str Ent.no.nm)] 47 (0, 0)) * (pt lc (.cells #[v] 43 (0, 0)) * (sl 47 2 v (entsOf pre).length (flatE (entsOf pre)) * pt ec (.cells #[.bool true] 4 (0, 0)) * (pt lp (.loop r) * Fr))))).right.to (by ac_rfl)
  case done =>
    intro D2 ys W hS hsd H
    subst hS
    obtain ⟨v, H1⟩ := Sat.ex_star_iff.1 H
    rw [entsOf_places hP] at H1
    obtain ⟨aa, ac, rfl⟩ := sl_shape (H1.to (by ac_rfl : _ = sl 47 2 v P.length (flatE P) * (pt lc (.cells #[v] 43 (0, 0)) * (pt ec (.cells #[.bool (endedOf (placesOf P))] 4 (0, 0)) * (SlIt bx (.slice va 480 vc) (placesOf P) * (pt D2 (.deferred (some [])) * (pt r0 (.cells #[.slice none 0 0] 43 (0, 0)) * (pt r1 (.cells #[.int .i64 0] 29 (0, 0)) * F))))))))
    have H2 : Sat W (pt D2 (.deferred (some [])) * (pt lc (.cells #[.slice aa P.length ac] 43 (0, 0)) * (pt r0 (.cells #[.slice none 0 0] 43 (0, 0)) * (pt r1 (.cells #[.int .i64 0] 29 (0, 0)) * (sl 47 2 (.slice aa P.length ac) P.length (flatE P) * (bs 5 (.slice va 480 vc) (encs (placesOf P)) * (F * (pt bx (.cells #[.slice va 480 vc] 48 (0, 0)) * pt ec (.cells #[.bool (endedOf (placesOf P))] 4 (0, 0)))))))))) := H1.to (by unfold SlIt; ac_rfl)
    have c0 : W.cell? ⟨lc, 0, none⟩ = some (.slice aa P.length ac) := H2.front2.cell 0
    have z0 : W.cell? ⟨r0, 0, none⟩ = some (.slice none 0 0) := H2.front3.cell 0
    have z1 : W.cell? ⟨r1, 0, none⟩ = some (.int .i64 0) := H2.front4.cell 0
    have f0 := H2.front3.frozen 0
    have f1 := H2.front4.frozen 0
    have H3 := H2.front3.setCell 0 (.slice aa P.length ac)
    have z1' : (W.setCell ⟨r0, 0, none⟩ (.slice aa P.length ac)).cell? ⟨r1, 0, none⟩ = some (.int .i64 0) := H3.front4.cell 0
    have f1' := H3.front4.frozen 0
    have H4 := H3.front4.setCell 0 (.int .i64 0)
    have H5 := SL.hid H4
    have Hsd := SL.hid ((hsd.setCell ⟨r0, 0, none⟩ (.slice aa P.length ac)).setCell ⟨r1, 0, none⟩ (.int .i64 0))
    clear H H1 H2 H3 H4 hst dB hi hz hs0 hb0
    gi_wp2
    have h6 := H5.out
    simp only [List.setIfInBounds_toArray, List.set_cons_zero] at h6
    have h7 := h6.to (by ac_rfl : _ = pt D2 (.deferred (some [])) * (pt r0 (.cells #[.slice aa P.length ac] 43 (0, 0)) * (pt r1 (.cells #[.int .i64 0] 29 (0, 0)) * (sl 47 2 (.slice aa P.length ac) P.length (flatE P) * (bs 5 (.slice va 480 vc) (encs (placesOf P)) * (F * (pt lc (.cells #[.slice aa P.length ac] 43 (0, 0)) * (pt bx (.cells #[.slice va 480 vc] 48 (0, 0)) * pt ec (.cells #[.bool (endedOf (placesOf P))] 4 (0, 0))))))))))
    have hK := h7.heap
    have h8 := (h7.putObj (.deferred none)).right
    clear h6 h7
    refine ⟨by simp, .inl ⟨_, _, rfl, run_takeDeferred hK, ?_⟩⟩
    refine ⟨_, decodeB_results rfl rfl h8, ⟨.slice aa P.length ac, rfl, ?_, Hsd.out.putObj _ _⟩⟩
    exact (h8.right.right.to (by ac_rfl : _ = (sl 47 2 (.slice aa P.length ac) P.length (flatE P) * (bs 5 (.slice va 480 vc) (encs (placesOf P)) * F)) * (pt lc (.cells #[.slice aa P.length ac] 43 (0, 0)) * (pt bx (.cells #[.slice va 480 vc] 48 (0, 0)) * pt ec (.cells #[.bool (endedOf (placesOf P))] 4 (0, 0)))))).left
  case stop =>
    intro D c ys W _ _ H
    exact (Sat.fact_iff.1 H).1.elim
end Go.Proofs.YtaoohjeaaccnfaaGreat.Fs

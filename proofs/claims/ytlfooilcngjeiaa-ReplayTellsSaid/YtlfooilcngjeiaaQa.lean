/- Replay: what a scan finds (tags, each with its place), as cells of a slice; the scan of a device, plain. -/
import Derived.Test.YtlfooilcngjeiaaDe
import Derived.Test.YtlfooilcngjeiaaJb
namespace Go.SL
set_option linter.unusedVariables false
set_option linter.unusedSimpArgs false
open Go.RowKit
/-- A tag, and the place that has it. -/
abbrev Fnd := Tg × Nat
def fdC (x : Fnd) : Array Value := #[.int .u32 x.1.ep, .int .u64 x.1.st, .int .u64 x.1.sq, .int .u64 x.1.fl, .int .i64 x.1.ix, .int .i64 x.1.ct, .int .i64 x.1.id, .int .i64 (x.2 : Int)]
def flatF (L : List Fnd) : List Value := L.flatMap fun x => (fdC x).toList
theorem flatF_snoc (L : List Fnd) (x : Fnd) : flatF (L ++ [x]) = flatF L ++ (fdC x).toList := by simp [flatF]
theorem flatF_length (L : List Fnd) : (flatF L).length = L.length * 8 := by
  induction L with
  | nil => rfl
  | cons x L ih => rw [flatF, List.flatMap_cons, List.length_append]; show 8 + (flatF L).length = _; rw [ih, List.length_cons]; omega
theorem flatF_get : ∀ (L : List Fnd) (i j : Nat) (h : i < L.length), j < 8 → (flatF L)[i * 8 + j]? = (fdC L[i])[j]? := by
  intro L
  induction L with
  | nil => intro i j h; simp at h
  | cons x L ih =>
    intro i j h hj
    rw [flatF, List.flatMap_cons]
    cases i with
    | zero =>
      rw [List.getElem?_append_left (by show _ < 8; omega)]
      simp
    | succ i =>
      rw [List.getElem?_append_right (by show 8 ≤ _; omega)]
      show (flatF L)[(i + 1) * 8 + j - 8]? = _
      rw [show (i + 1) * 8 + j - 8 = i * 8 + j by omega, ih i j (by simpa using h) hj]
      simp
/-- A slice that reads as these. -/
def RdF (w : World) (v : Value) (L : List Fnd) : Prop := Rds w 8 v L.length (flatF L)
theorem RdF.cells {w : World} {v : Value} {L : List Fnd} (h : RdF w v L) {i : Nat} (hi : i < L.length) :
    ∃ g off c, v = .slice (some ⟨g, off, none⟩) L.length c ∧ ∀ j, j < 8 → w.cell? ⟨g, off + i * 8 + j, none⟩ = (fdC L[i])[j]? := by
  rcases h.2 with ⟨_, h0⟩ | ⟨a, c, rfl, ha⟩
  · omega
  · obtain ⟨x, hx⟩ : ∃ x, (flatF L)[0 * 8 + 0]? = some x := ⟨_, by rw [flatF_get L 0 0 (by omega) (by omega)]; rfl⟩
    obtain ⟨g, off, p⟩ := a
    have hp : p = none := by
      have := ha _ _ hx
      cases p with
      | none => rfl
      | some q =>
        simp only [World.cell?, Addr.add] at this
        split at this
        · simp at this
        · cases this
    subst hp
    refine ⟨g, off, c, rfl, fun j hj => ?_⟩
    have hget := flatF_get L i j hi hj
    obtain ⟨y, hy⟩ : ∃ y, (fdC L[i])[j]? = some y := ⟨(fdC L[i])[j]'(by show j < 8; exact hj), Array.getElem?_eq_getElem (by show j < 8; exact hj)⟩
    rw [hy] at hget ⊢
    have := ha _ _ hget
    rw [Addr.add_lit] at this
    rw [Nat.add_assoc]; exact this
theorem RdF.keep {w w' : World} {v : Value} {L : List Fnd} {P : Assn} (h : RdF w v L) (s : Sat w' (P * whole w)) : RdF w' v L := Rds.carry h fun a u hu => s.cellOld hu
theorem RdF.shape {w : World} {v : Value} {L : List Fnd} (h : RdF w v L) : ∃ a c, v = .slice a L.length c := by
  rcases h.2 with ⟨rfl, h0⟩ | ⟨a, c, rfl, _⟩
  · exact ⟨none, 0, by rw [h0]⟩
  · exact ⟨_, _, rfl⟩
/-- What is found, and one more, if it is a tag of one of these blocks. -/
def fndAdd (B : Int) (k : Nat) (L : List Fnd) (o : Option (Tg × List UInt8)) : List Fnd :=
  match o with
  | some p => if p.1.id < B then L ++ [(p.1, k)] else L
  | none => L
theorem fndAdd_none (B : Int) (k : Nat) (L : List Fnd) : fndAdd B k L none = L := rfl
theorem fndAdd_yes {B : Int} {t : Tg} (h : t.id < B) (k : Nat) (L : List Fnd) (r : List UInt8) : fndAdd B k L (some (t, r)) = L ++ [(t, k)] := if_pos h
theorem fndAdd_no {B : Int} {t : Tg} (h : ¬ t.id < B) (k : Nat) (L : List Fnd) (r : List UInt8) : fndAdd B k L (some (t, r)) = L := if_neg h
/-- One place more: what is found, and the device behind it. The number: 0, or 2. -/
def scanS (B : Int) (k : Nat) (R : Int × List Fnd × Dev) : Int × List Fnd × Dev :=
  if R.1 = 0 then
    (if (R.2.2.read ((k : Int) + 1)).1.1 = 3 then ((0 : Int), R.2.1, (R.2.2.read ((k : Int) + 1)).2)
    else if (R.2.2.read ((k : Int) + 1)).1.1 = 0 then ((0 : Int), fndAdd B k R.2.1 (decodeF (R.2.2.read ((k : Int) + 1)).1.2), (R.2.2.read ((k : Int) + 1)).2)
    else ((2 : Int), [], (R.2.2.read ((k : Int) + 1)).2))
  else R
def scanN (B : Int) (D : Dev) : Nat → Int × List Fnd × Dev
  | 0 => ((0 : Int), [], D)
  | k + 1 => scanS B k (scanN B D k)
theorem scanN_zero (B : Int) (D : Dev) : scanN B D 0 = ((0 : Int), [], D) := rfl
theorem scanN_succ (B : Int) (D : Dev) (k : Nat) : scanN B D (k + 1) = scanS B k (scanN B D k) := rfl
theorem decode_ok {l : List UInt8} {t : Tg} {b : List UInt8} (h : decodeF l = some (t, b)) : t.ok = true ∧ t.Fit := by
  have hf := decT_fit l 9
  unfold decodeF at h
  generalize decT l 9 = u at *
  split at h
  · rename_i hc
    cases h
    exact ⟨hc.1, hf⟩
  · cases h
/-- What is found. -/
structure FndOk (B : Int) (P : Nat) (x : Fnd) : Prop where
  ok : x.1.ok = true
  fit : x.1.Fit
  id : x.1.id < B
  place : x.2 < P
theorem scanN_found (B : Int) (D : Dev) (k : Nat) : (∀ x ∈ (scanN B D k).2.1, FndOk B k x) ∧ (scanN B D k).2.1.length ≤ k ∧ ((scanN B D k).2.1.map Prod.snd).Pairwise (· < ·) := by
  induction k with
  | zero => exact ⟨fun x hx => by simp [scanN] at hx, by simp [scanN], by simp [scanN]⟩
  | succ k ih =>
    obtain ⟨i1, i2, i3⟩ := ih
    have wk : ∀ x ∈ (scanN B D k).2.1, FndOk B (k + 1) x := fun x hx => ⟨(i1 x hx).ok, (i1 x hx).fit, (i1 x hx).id, Nat.lt_succ_of_lt (i1 x hx).place⟩
    rw [scanN_succ]
    unfold scanS
    split
    · split
      · exact ⟨wk, by dsimp only; omega, i3⟩
      · split
        · generalize hd : decodeF ((scanN B D k).2.2.read ((k : Int) + 1)).1.2 = o
          match o, hd with
          | some p, hp =>
            dsimp only [fndAdd]
            split
            · rename_i hid
              obtain ⟨o1, o2⟩ := decode_ok (t := p.1) (b := p.2) hp
              refine ⟨fun x hx => ?_, by simp; omega, ?_⟩
              · rcases List.mem_append.1 hx with hx | hx
                · exact wk x hx
                · obtain rfl : x = (p.1, k) := by simpa using hx
                  exact ⟨o1, o2, hid, Nat.lt_succ_self k⟩
              · rw [List.map_append, List.pairwise_append]
                refine ⟨i3, by simp, fun a ha b hb => ?_⟩
                obtain ⟨x, hx, rfl⟩ := List.mem_map.1 ha
                obtain rfl : b = k := by simpa using hb
                exact (i1 x hx).place
            · exact ⟨wk, by omega, i3⟩
          | none, hp => exact ⟨wk, by dsimp only [fndAdd]; omega, i3⟩
        · exact ⟨by simp, by simp, by simp⟩
    · exact ⟨wk, by omega, i3⟩
theorem scanN_code (B : Int) (D : Dev) (k : Nat) : (scanN B D k).1 = 0 ∨ ((scanN B D k).1 = 2 ∧ (scanN B D k).2.1 = []) := by
  induction k with
  | zero => exact .inl rfl
  | succ k ih =>
    rw [scanN_succ]
    unfold scanS
    split
    · split
      · exact .inl rfl
      · split
        · exact .inl rfl
        · exact .inr ⟨rfl, rfl⟩
    · exact ih
theorem scanN_stay {B : Int} {D : Dev} {k n : Nat} (h : (scanN B D k).1 ≠ 0) (hk : k ≤ n) : scanN B D n = scanN B D k := by
  induction n with
  | zero => obtain rfl : k = 0 := by omega
            rfl
  | succ n ih =>
    by_cases hkn : k = n + 1
    · rw [hkn]
    · have := ih (by omega)
      rw [scanN_succ]
      unfold scanS
      rw [this, if_neg h]
end Go.SL
namespace Go.Proofs.Ytlfooilcngjeiaa
set_option linter.unusedVariables false
set_option linter.unusedSimpArgs false
open Go.RowKit Go.SL
theorem strike_ok {D : Dev} (h : D.Ok) : D.strike.Ok := by
  unfold Dev.strike
  split
  · refine ⟨?_, by simp [Dev.crash], by simp [Dev.crash], by simp [Dev.crash]⟩
    show (D.fates D.keep D.wait.length).sec.length ≤ 20000
    rw [(fates_keep D D.keep D.wait.length).2.2]; exact h.n
  · exact h
theorem begun_ok {D : Dev} (h : D.Ok) : D.begun.Ok := by
  have := strike_ok h
  unfold Dev.begun
  split
  · exact this
  · split
    · exact ⟨this.n, this.wait, this.many, this.keep⟩
    · exact this
theorem strike_len (D : Dev) : D.strike.sec.length = D.sec.length := by
  unfold Dev.strike
  split
  · exact (fates_keep D D.keep D.wait.length).2.2
  · rfl
theorem begun_len (D : Dev) : D.begun.sec.length = D.sec.length := by
  have := strike_len D
  unfold Dev.begun
  split
  · exact this
  · split
    · exact this
    · exact this
theorem read_ok {D : Dev} (h : D.Ok) (a : Int) : (D.read a).2.Ok := by
  unfold Dev.read
  split
  · split
    · have := begun_ok h
      exact ⟨this.n, this.wait, this.many, this.keep⟩
    · exact begun_ok h
  · exact h
theorem read_secs (D : Dev) (a : Int) : (D.read a).2.sec.length = D.sec.length := by
  unfold Dev.read
  split
  · split
    · exact begun_len D
    · exact begun_len D
  · rfl
theorem scanN_dev {B : Int} {D : Dev} (h : D.Ok) (k : Nat) : (scanN B D k).2.2.Ok ∧ (scanN B D k).2.2.sec.length = D.sec.length := by
  induction k with
  | zero => exact ⟨h, rfl⟩
  | succ k ih =>
    have h1 := read_ok ih.1 ((k : Int) + 1)
    have h2 := (read_secs (scanN B D k).2.2 ((k : Int) + 1)).trans ih.2
    rw [scanN_succ]
    unfold scanS
    split
    · split
      · exact ⟨h1, h2⟩
      · split
        · exact ⟨h1, h2⟩
        · exact ⟨h1, h2⟩
    · exact ih
theorem read_codes {D : Dev} {a : Int} (h : D.has a) : (D.read a).1.1 = 0 ∨ (D.read a).1.1 = 2 ∨ (D.read a).1.1 = 3 := by
  unfold Dev.read
  rw [if_pos h]
  split
  · unfold Dev.tells
    split
    · exact .inl rfl
    · split
      · exact .inr (.inr rfl)
      · exact .inl rfl
  · exact .inr (.inl rfl)
theorem info_found : (Try.prog.info? 119).map (fun i => (i.zero, i.size, i.bytes)) = some (some (.agg #[.int .u32 0, .int .u64 0, .int .u64 0, .int .u64 0, .int .i64 0, .int .i64 0, .int .i64 0, .int .i64 0]), 8, 64) := by kernel_rfl
theorem append_found {w : World} {v : Value} {L : List Fnd} {F : Assn} (h : Sat w (sl 119 8 v L.length (flatF L) * F)) (x : Fnd) (hl : L.length ≤ 1000000) :
    ∃ a c w', (Builtin.append_ #[115, 115] 115 #[v, .slice (some ⟨w.heap.size, 0, none⟩) 1 1]).run Try.prog (w.alloc (.cells (fdC x) 119 (0, 0))) = .ok (.slice a (L.length + 1) c) w' ∧
      Sat w' (sl 119 8 (.slice a (L.length + 1) c) (L ++ [x]).length (flatF (L ++ [x])) * F) ∧ Side w w' := by
  obtain ⟨i0, hi, hz, hs0, hb0⟩ := info_parts info_found
  have hA := h.alloc (.cells (fdC x) 119 (0, 0))
  have hR : Rds (w.alloc (.cells (fdC x) 119 (0, 0))) 8 (.slice (some ⟨w.heap.size, 0, none⟩) 1 1) 1 (fdC x).toList :=
    ⟨rfl, .inr ⟨_, _, rfl, fun j u hu => by
      rw [Addr.add_lit, Nat.zero_add]
      exact (hA.cell j).trans (by simpa using hu)⟩⟩
  obtain ⟨v', w', hrun, hsat', hside'⟩ := Sat.append (P := Try.prog) (ty := 115) Try.underlying115 hi hz hs0 hb0 rfl hA.right hR (by simp [fdC, Value.oneCell']) (by unfold maxLen; omega) (by omega)
  obtain ⟨a, c, rfl⟩ := sl_shape hsat'
  exact ⟨a, c, w', hrun, by rw [flatF_snoc, List.length_append, List.length_singleton]; exact hsat', ((Side.refl w).alloc _).trans hside'⟩
end Go.Proofs.Ytlfooilcngjeiaa

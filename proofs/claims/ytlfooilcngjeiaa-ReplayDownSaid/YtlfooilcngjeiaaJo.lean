/- slices.Grow and slices.Concat of two slices of writes. journal, plain: what a batch does. -/
import Derived.Test.YtlfooilcngjeiaaJn
import Derived.Lib.AppendZeros
namespace Go.Proofs.Ytlfooilcngjeiaa
set_option linter.unusedVariables false
set_option linter.unusedSimpArgs false
open Go.RowKit Go.SL
def GrowQ (w : World) (e : Ending) (w' : World) : Prop := ∃ v, e = .returned v ∧ Sat w' (sl 53 2 v 0 [] * whole w) ∧ Side w w'
set_option maxRecDepth 100000 in
theorem grow_any (w : World) (n : Nat) (hn : n ≤ 1000000) : Calls Try.prog 77 #[.slice none 0 0, .int .i64 (n : Int)] w (GrowQ w) := by
  obtain ⟨i0, hi, hz, hs0, hb0⟩ := info_parts info_write2
  by_cases h0 : n = 0
  · subst h0
    go_enter Try.func77, Try.ntmps77
    go_wp2
    go_ret
    exact ⟨_, rfl, (Sat.whole w).slNil _ _, Side.refl w⟩
  · have happ := fun w => Lib.run_append_nil_zeros (P := Try.prog) w 45 3 45 53 i0 _ .i64 .i64 Try.underlying45 Try.underlying3 hi hz n (by omega) (by rw [hs0]; decide) (by omega) (by rw [hb0]; omega)
    have hge := grownCap_ge w n 0 53
    have hle := grownCap_le_maxLen w n 0 53 (by unfold maxLen; omega)
    have happ := happ w
    generalize hcap : grownCap w n 0 53 = cap at happ hge hle
    generalize hZ : Builtin.zeroCells (Value.agg #[.int .i64 0, .slice none 0 0]).cells n ++ Builtin.zeroCells (Value.agg #[.int .i64 0, .slice none 0 0]).cells (cap - n) = Zc at happ
    have hZs : Zc.size = cap * 2 := by rw [← hZ]; simp [size_zeroCells, Value.cells]; omega
    have hfin : Sat (w.drew.alloc (.cells Zc 53)) (sl 53 2 (.slice (some ⟨w.heap.size, 0, none⟩) 0 cap) 0 [] * whole w) := by
      have h1 := ((Sat.whole w).drew.alloc (.cells Zc 53 (0, 0))).slOf (n := 0) (sz := 2) (by omega) hle hZs
      simpa using h1
    have dfin := (Side.refl w).drew.alloc (.cells Zc 53 (0, 0))
    have h0' : (0 : Int) < (n : Int) := by omega
    have hn' : (n : Int) ≤ 1000000 := by omega
    have HF := SL.hid hfin; have DF := SL.hid dfin
    clear hcap hZ hZs hfin dfin hi hz hs0 hb0 h0 hge
    go_enter Try.func77, Try.ntmps77
    go_wp2_with (at_builtin; refine Lib.wpList_append_run _ rfl _ _ _ _ rfl _ _ rfl rfl _ _ happ ?_)
    go_ret
    exact ⟨_, rfl, HF.out, DF.out⟩
def upto {α : Type} (k : Nat) (x y z : α) : α := if k = 0 then x else if k = 1 then y else z
def ConcatQ (n : Nat) (xs : List Value) (w : World) (e : Ending) (w' : World) : Prop := ∃ v, e = .returned v ∧ Sat w' (sl 53 2 v n xs * whole w) ∧ Side w w'
def ConcatRel (n m : Nat) (xs ys : List Value) (w : World) (u i : Value) (wr : World) : Prop :=
  ∃ k : Nat, k ≤ 2 ∧ i = .int .i64 (k : Int) ∧ Sat wr (sl 53 2 u (upto k 0 n (n + m)) (upto k [] xs (xs ++ ys)) * whole w) ∧ Side w wr
set_option maxRecDepth 100000 in
set_option maxHeartbeats 1000000 in
theorem concat_any (w : World) (g n m : Nat) (a1 a2 : Option Addr) (c1 c2 : Nat) (xs ys : List Value) (h0 : w.cell? ⟨g, 0, none⟩ = some (.slice a1 n c1)) (h1 : w.cell? ⟨g, 1, none⟩ = some (.slice a2 m c2))
    (hx : Rds w 2 (.slice a1 n c1) n xs) (hy : Rds w 2 (.slice a2 m c2) m ys) (ox : ∀ u ∈ xs, u.oneCell' = true) (oy : ∀ u ∈ ys, u.oneCell' = true) (hn : n ≤ 500000) (hm : m ≤ 500000) :
    Calls Try.prog 48 #[.slice (some ⟨g, 0, none⟩) 2 2] w (ConcatQ (n + m) (xs ++ ys) w) := by
  obtain ⟨i0, hi, hz, hs0, hb0⟩ := info_parts info_write2
  have hgr := grow_any w (n + m) (by omega)
  rw [show ((n + m : Nat) : Int) = (n : Int) + (m : Int) by omega] at hgr
  have hn' : (n : Int) ≤ 500000 := by omega
  have hm' : (m : Int) ≤ 500000 := by omega
  have HX := SL.hid hx; have HY := SL.hid hy; have OX := SL.hid ox; have OY := SL.hid oy; have HI := SL.hid hi; have HZ := SL.hid hz; have HS0 := SL.hid hs0; have HB0 := SL.hid hb0
  clear hx hy ox oy hi hz hs0 hb0
  go_enter Try.func48, Try.ntmps48
  go_wp2_with fail
  go_loop [3, 11] (fun u i => ∃ k : Nat, k ≤ 2 ∧ i = .int .i64 (k : Int) ∧ u = .int .i64 (upto k 0 (n : Int) ((n : Int) + (m : Int)))) (fun _ i => 2 - (intOf i).toNat)
  case atStart => exact ⟨0, by omega, rfl, rfl⟩
  case round =>
    obtain ⟨k, hk, rfl, rfl⟩ := hrel
    obtain rfl | rfl | rfl : k = 0 ∨ k = 1 ∨ k = 2 := by omega
    · simp only [upto, if_true]
      go_wp2_with fail
      go_round
      case rel => exact ⟨1, by omega, by go_num, by simp [upto]⟩
      case measure => simp [intOf]
    · simp only [upto, if_true, if_neg (show ¬ (1 : Nat) = 0 by decide)]
      go_wp2_with fail
      go_round
      case rel => exact ⟨2, by omega, by go_num, by simp [upto]⟩
      case measure => simp [intOf]
    · simp only [upto, if_neg (show ¬ (2 : Nat) = 0 by decide), if_neg (show ¬ (2 : Nat) = 1 by decide)]
      go_wp2_with fail
      (with_reducible refine hgr.mono ?_)
      rintro e w1 ⟨v, rfl, h2, d2⟩
      clear hgr
      go_wp2_with fail
      go_loopw [6, 27] (fun u i wr => ConcatRel n m xs ys w u i wr) (fun _ i _ => 2 - (intOf i).toNat)
      case atStart => exact ⟨0, by omega, rfl, h2, d2⟩
      case round =>
        clear h2 d2
        obtain ⟨k, hk, rfl, hsat, hside⟩ := hrel
        have k0 : wr.cell? ⟨g, 0, none⟩ = some (.slice a1 n c1) := hsat.cellOld h0
        have k1 : wr.cell? ⟨g, 1, none⟩ = some (.slice a2 m c2) := hsat.cellOld h1
        obtain rfl | rfl | rfl : k = 0 ∨ k = 1 ∨ k = 2 := by omega
        · simp only [upto, if_true] at hsat
          obtain ⟨va, vc, rfl⟩ := sl_shape hsat
          obtain ⟨v', w', hrun, hsat', hside'⟩ := Sat.append (P := Try.prog) (ty := 45) Try.underlying45 HI.out HZ.out HS0.out HB0.out rfl hsat (HX.out.carry fun a u h => hsat.cellOld h) OX.out (by unfold maxLen; omega) (by omega)
          have Hs := SL.hid hsat'; have Hd := SL.hid (hside.trans hside')
          obtain ⟨ba, bc, rfl⟩ := sl_shape hsat'
          clear hsat hsat' hside hside'
          go_wp2_with (at_builtin; refine wpList_append_run hrun _ _ rfl rfl rfl rfl rfl ?_)
          go_roundw
          case rel => exact ⟨1, by omega, by go_num, by simpa [upto] using Hs.out, Hd.out⟩
          case measure => simp [intOf]
        · simp only [upto, if_true, if_neg (show ¬ (1 : Nat) = 0 by decide)] at hsat
          obtain ⟨va, vc, rfl⟩ := sl_shape hsat
          obtain ⟨v', w', hrun, hsat', hside'⟩ := Sat.append (P := Try.prog) (ty := 45) Try.underlying45 HI.out HZ.out HS0.out HB0.out rfl hsat (HY.out.carry fun a u h => hsat.cellOld h) OY.out (by unfold maxLen; omega) (by omega)
          have Hs := SL.hid hsat'; have Hd := SL.hid (hside.trans hside')
          obtain ⟨ba, bc, rfl⟩ := sl_shape hsat'
          clear hsat hsat' hside hside'
          go_wp2_with (at_builtin; refine wpList_append_run hrun _ _ rfl rfl rfl rfl rfl ?_)
          go_roundw
          case rel => exact ⟨2, by omega, by go_num, by simpa [upto] using Hs.out, Hd.out⟩
          case measure => simp [intOf]
        · simp only [upto, if_neg (show ¬ (2 : Nat) = 0 by decide), if_neg (show ¬ (2 : Nat) = 1 by decide)] at hsat
          have Hs := SL.hid hsat; have Hd := SL.hid hside
          clear hsat hside
          go_wp2
          go_ret
          exact ⟨_, rfl, Hs.out, Hd.out⟩
end Go.Proofs.Ytlfooilcngjeiaa
namespace Go.SL
set_option linter.unusedVariables false
set_option linter.unusedSimpArgs false
open Go.RowKit
/-- Blocks, each with its number. -/
abbrev Bl := List (Int × List UInt8)
def plainW (Z : List Wr) : Bl := Z.map fun z => (z.1, z.2.2)
def wrOf (L : Bl) : List Wr := L.map fun x => (x.1, .slice none 0 0, x.2)
theorem plain_wrOf (L : Bl) : plainW (wrOf L) = L := by
  unfold plainW wrOf
  rw [List.map_map]
  exact List.map_id L
theorem plain_len (Z : List Wr) : (plainW Z).length = Z.length := by simp [plainW]
theorem plain_get (Z : List Wr) (k : Nat) : (Z.getD k Wr.nil).1 = ((plainW Z).getD k (0, [])).1 ∧ (Z.getD k Wr.nil).2.2 = ((plainW Z).getD k (0, [])).2 := by
  simp only [plainW, List.getD, List.getElem?_map]
  cases Z[k]? <;> simp [Wr.nil]
theorem Jr.writeN_plain (J : Jr) (D : Dev) {Z Z' : List Wr} (h : plainW Z = plainW Z') (k : Nat) : J.writeN D Z k = J.writeN D Z' k := by
  have hl : Z.length = Z'.length := by rw [← plain_len, h, plain_len]
  induction k with
  | zero => rfl
  | succ k ih =>
    rw [Jr.writeN, Jr.writeN, ih, (plain_get Z k).1, (plain_get Z k).2, (plain_get Z' k).1, (plain_get Z' k).2, h, hl]
theorem ownN_plain {Z Z' : List Wr} (h : plainW Z = plainW Z') (k : Nat) : ownN Z k = ownN Z' k := by
  induction k with
  | zero => rfl
  | succ k ih => rw [ownN, ownN, ih, (plain_get Z k).1, (plain_get Z' k).1, h]
/-- The table behind the first k of a batch. -/
def Jr.putN (J : Jr) (L : Bl) : Nat → Tb
  | 0 => J.T
  | k + 1 => ((Jr.putN J L k).put (L.getD k (0, [])).1 ((J.hd + (k : Int)) % (J.P : Int))).2
def Jr.cleaned (J : Jr) (n : Nat) : Int := if J.us < 2 * (n : Int) then J.us else 2 * (n : Int)
def Jr.done (J : Jr) (L : Bl) (c : Int) : Jr :=
  { J with T := J.putN L L.length, sq := J.sq + 1, hd := (J.hd + (L.length : Int)) % (J.P : Int), us := J.us + ((L.length : Int) - c), fr := c }
structure Tb.Owns (T : Tb) : Prop where
  os : ∀ v ∈ T.os, v = -1 ∨ (0 ≤ v ∧ v < T.ps.length)
theorem mem_set {l : List Int} {i : Nat} {x v : Int} (h : v ∈ l.set i x) : v = x ∨ v ∈ l := by
  rcases List.mem_or_eq_of_mem_set h with h | h
  · exact .inr h
  · exact .inl h
theorem Tb.put_owns {T : Tb} (h : T.Owns) (id p : Int) : (T.put id p).2.Owns := by
  refine ⟨fun v hv => ?_⟩
  rw [(T.put_len id p).1]
  unfold Tb.put at hv
  split at hv
  · rename_i hc
    rcases mem_set hv with hv | hv
    · exact .inr ⟨by omega, by omega⟩
    · unfold Tb.drop at hv
      split at hv
      · rcases mem_set hv with hv | hv
        · exact .inl hv
        · exact h.os v hv
      · exact h.os v hv
  · exact h.os v hv
theorem Jr.putN_len (J : Jr) (L : Bl) (k : Nat) : (J.putN L k).ps.length = J.T.ps.length ∧ (J.putN L k).os.length = J.T.os.length := by
  induction k with
  | zero => exact ⟨rfl, rfl⟩
  | succ k ih => exact ⟨((Jr.putN J L k).put_len _ _).1.trans ih.1, ((Jr.putN J L k).put_len _ _).2.trans ih.2⟩
theorem Jr.putN_owns {J : Jr} (h : J.T.Owns) (L : Bl) (k : Nat) : (J.putN L k).Owns := by
  induction k with
  | zero => exact h
  | succ k ih => exact Tb.put_owns ih _ _
structure Jr.Nums (J : Jr) : Prop where
  ep0 : 1 ≤ J.ep
  ep1 : J.ep < 4294967296
  st0 : 1 ≤ J.st
  st1 : J.st ≤ J.sq + 1
  sq0 : 0 ≤ J.sq
  sq1 : J.sq ≤ 281474976710655
  n1 : J.n ≤ 3840
  own : J.T.Owns
theorem Jr.Nums.numbers {J : Jr} (h : J.Nums) (hs : J.sq < 281474976710655) : J.Numbers := ⟨h.ep0, h.ep1, h.st0, h.st1, h.sq0, hs⟩
theorem Jr.cleaned_range {J : Jr} (h0 : 0 ≤ J.us) (n : Nat) : 0 ≤ J.cleaned n ∧ J.cleaned n ≤ J.us ∧ J.cleaned n ≤ 2 * n := by
  unfold Jr.cleaned
  split <;> omega
end Go.SL
namespace Go.Proofs.Ytlfooilcngjeiaa
set_option linter.unusedVariables false
set_option linter.unusedSimpArgs false
open Go.RowKit Go.SL
theorem putN_ok {J : Jr} (h : J.T.Ok) (L : Bl) (k : Nat) : (J.putN L k).Ok := by
  induction k with
  | zero => exact h
  | succ k ih => exact Tb.put_ok ih _ _
/-- What is moved with a batch. -/
def jmoved (J : Jr) (D : Dev) (L : Bl) : Mv := J.moves D (ownN (wrOf L) L.length) (ownersN J.T J.P (Jr.tail J) (J.cleaned L.length).toNat)
/-- What a batch that may be does, behind the flush. -/
def jcommit2 (J : Jr) (D : Dev) (L : Bl) : Int × Jr × Dev :=
  if (jmoved J D L).1.1 ≠ 0 then ((jmoved J D L).1.1, (jmoved J D L).2)
  else if (J.P : Int) - J.us - J.fr < ((L ++ (jmoved J D L).1.2).length : Int) then (9, J, (jmoved J D L).2.2)
  else if (J.writeN (jmoved J D L).2.2 (wrOf (L ++ (jmoved J D L).1.2)) (L ++ (jmoved J D L).1.2).length).1 ≠ 0 then
    ((J.writeN (jmoved J D L).2.2 (wrOf (L ++ (jmoved J D L).1.2)) (L ++ (jmoved J D L).1.2).length).1, { J with br := true }, (J.writeN (jmoved J D L).2.2 (wrOf (L ++ (jmoved J D L).1.2)) (L ++ (jmoved J D L).1.2).length).2)
  else (0, J.done (L ++ (jmoved J D L).1.2) (J.cleaned L.length), (J.writeN (jmoved J D L).2.2 (wrOf (L ++ (jmoved J D L).1.2)) (L ++ (jmoved J D L).1.2).length).2)
/-- What a batch does: an error, the journal, the device. -/
def jcommit (J : Jr) (D : Dev) (ok : Bool) (L : Bl) : Int × Jr × Dev :=
  if ok = false then (1, J, D)
  else if 281474976710655 ≤ J.sq then (12, J, D)
  else if (J.flush D).1 ≠ 0 then J.flush D
  else jcommit2 J (J.flush D).2.2 L
theorem jflush_ok {J : Jr} {D : Dev} (h : (J.flush D).1 = 0) : (J.flush D).2.1 = J ∧ (J.flush D).2.2 = D.flush.2 ∧ J.br = false ∧ D.flush.1 = 0 := by
  unfold Jr.flush at h ⊢
  split
  · rename_i h1; rw [if_pos h1] at h; exact absurd h (show (2 : Int) ≠ 0 by decide)
  · rename_i h1
    rw [if_neg h1] at h
    split
    · rename_i h2; exact ⟨rfl, rfl, by simpa using h1, h2⟩
    · rename_i h2; rw [if_neg h2] at h; exact absurd h (show (2 : Int) ≠ 0 by decide)
theorem moved_ids {J : Jr} (hJ : J.Ok) (hN : J.Nums) {D : Dev} {own : KV} {P first m : Nat} : ∀ x ∈ (J.moves D own (ownersN J.T P first m)).1.2, 0 ≤ x.1 ∧ x.1 < 3840 := by
  have hown : ∀ y ∈ ownersN J.T P first m, 0 ≤ y.1 ∧ y.1 < 3840 := by
    intro y hy
    unfold ownersN at hy
    obtain ⟨p, _, hp⟩ := List.mem_filterMap.1 hy
    cases ht : told J.T.os (p : Int) with
    | none => rw [ht] at hp; cases hp
    | some id =>
      rw [ht] at hp
      injection hp with hp
      obtain ⟨k, _, hk, hv, hne⟩ := told_some ht
      have hm : id ∈ J.T.os := by rw [← hv, List.getD, List.getElem?_eq_getElem hk]; exact List.getElem_mem hk
      have := hN.n1
      have := hJ.ps
      rcases hN.own.os id hm with e | ⟨e1, e2⟩
      · exact absurd e hne
      · rw [← hp]; exact ⟨e1, by show id < 3840; omega⟩
  have : ∀ (L : List (Int × Int)) (s : Mv), (∀ y ∈ L, 0 ≤ y.1 ∧ y.1 < 3840) → (∀ x ∈ s.1.2, 0 ≤ x.1 ∧ x.1 < 3840) → ∀ x ∈ (L.foldl (Jr.moveStep own) s).1.2, 0 ≤ x.1 ∧ x.1 < 3840 := by
    intro L
    induction L with
    | nil => intro s _ h; exact h
    | cons y L ih =>
      intro s hL h
      rw [List.foldl_cons]
      refine ih _ (fun z hz => hL z (List.mem_cons_of_mem _ hz)) ?_
      unfold Jr.moveStep
      split
      · exact h
      · split
        · exact h
        · split
          · intro x hx
            rcases List.mem_append.1 hx with hx | hx
            · exact h x hx
            · rw [List.mem_singleton.1 hx]; exact hL y List.mem_cons_self
          · intro x hx; cases hx
  exact this _ _ hown (by simp)
end Go.Proofs.Ytlfooilcngjeiaa

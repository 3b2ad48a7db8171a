/- inode: take, Decode, DecodeRow. -/
import Derived.Test.YtaoohjeaaccnfaaFd
namespace Go.SL
set_option linter.unusedVariables false
set_option linter.unusedSimpArgs false
open Go.RowKit
/-- Pointers out of bytes. -/
def ptrsOf (l : List UInt8) (o m : Nat) : List Int := (List.range m).map fun i => leV (l.drop (o + 2 * i)) 2
theorem ptrsOf_succ (l : List UInt8) (o m : Nat) : ptrsOf l o (m + 1) = ptrsOf l o m ++ [leV (l.drop (o + 2 * m)) 2] := by simp [ptrsOf, List.range_succ]
theorem ptrsOf_length (l : List UInt8) (o m : Nat) : (ptrsOf l o m).length = m := by simp [ptrsOf]
def ndOf (l : List UInt8) : Nd := ⟨leV l 1, leV (l.drop 1) 2, leV (l.drop 3) 4, ptrsOf l 7 16, leV (l.drop 39) 2⟩
def decNd (l : List UInt8) : Option Nd := if l.length = 480 ∧ (ndOf l).ok = true ∧ (l.drop 41).all (· == 0) = true then some (ndOf l) else none
def decRow (l : List UInt8) : Option (List Int) := if l.length = 480 ∧ (ptrsOf l 0 240).all ptrOk = true then some (ptrsOf l 0 240) else none
theorem setLs_snoc : ∀ (vs : List Value) (cs : Array Value) (o : Nat) (v : Value), setLs cs o (vs ++ [v]) = (setLs cs o vs).setIfInBounds (o + vs.length) v
  | [], cs, o, v => rfl
  | x :: vs, cs, o, v => by
    show setLs (cs.setIfInBounds o x) (o + 1) (vs ++ [v]) = (setLs (cs.setIfInBounds o x) (o + 1) vs).setIfInBounds (o + (vs.length + 1)) v
    rw [setLs_snoc vs _ (o + 1) v, show o + 1 + vs.length = o + (vs.length + 1) by omega]
end Go.SL
namespace Go.Proofs.Ytaoohjeaaccnfaa.Fs
set_option linter.unusedVariables false
set_option linter.unusedSimpArgs false
open Go.RowKit Go.SL Go.Proofs.Ytaoohjeaaccnfaa.Ba
def takeA (r g cap : Nat) (cur : Array Value) (L : List UInt8) (o b : Nat) (cs : Array Value) (T : TypeId) (off k : Nat) (F : Assn) : Assn :=
  readerA r g cap cur L (o + 2 * k) * (pt b (.cells (setLs cs off ((ptrsOf L o k).map (Value.int .i64))) T (0, 0)) * F)
def TakePRel (r g cap : Nat) (cur : Array Value) (L : List UInt8) (o b : Nat) (cs : Array Value) (T : TypeId) (off m : Nat) (F : Assn) (w : World) (u7 : Value) (wr : World) : Prop :=
  ∃ k : Nat, k ≤ m ∧ u7 = .int .i64 (k : Int) ∧ Sat wr (takeA r g cap cur L o b cs T off k F) ∧ Side w wr
set_option maxRecDepth 100000 in
set_option maxHeartbeats 2000000 in
theorem takeP_any (w : World) (r g cap : Nat) (cur : Array Value) (L : List UInt8) (o b : Nat) (cs : Array Value) (T : TypeId) (off m c : Nat) (F : Assn) (h : Sat w (readerA r g cap cur L o * (pt b (.cells cs T (0, 0)) * F))) (hm : off + m ≤ cs.size) (hn : o + 2 * m ≤ L.length) (hl : L.length ≤ 1000000) (hc : m ≤ c) (hcm : c ≤ maxLen)
    (hcell : ∀ i, i < m → (cs[off + i]?).isSome = true) :
    Calls Try.prog 81 #[ptV r, .slice (some ⟨b, off, none⟩) m c] w fun e w' => e = .returned (.tuple #[]) ∧ Sat w' (takeA r g cap cur L o b cs T off m F) ∧ Side w w' := by
  have hmn : (m : Int) ≤ 500000 := by omega
  have hcn : (m : Int) ≤ (c : Int) := by omega
  have hcc : (c : Int) ≤ 9223372036854775807 := by unfold maxLen at hcm; omega
  have H0 : Sat w (takeA r g cap cur L o b cs T off 0 F) := h
  clear h
  go_enter Try.func81, Try.ntmps81
  go_wp2_with fail
  go_loopw [7] (fun u wr => TakePRel r g cap cur L o b cs T off m F w u wr) (fun u _ => m - (intOf u).toNat)
  case atStart => exact ⟨0, Nat.zero_le _, rfl, H0, Side.refl w⟩
  case round =>
    clear H0
    obtain ⟨k, hk, rfl, hsat, hside⟩ := hrel
    by_cases hlt : k < m
    · have hlt' : (k : Int) < (m : Int) := by omega
      have hnum : Calls Try.prog 80 #[ptV r, .int .i64 2] wr (NumQ r g cap cur L (o + 2 * k) 2 wr (pt b (.cells (setLs cs off ((ptrsOf L o k).map (Value.int .i64))) T (0, 0)) * F)) := number_any wr r g cap cur L (o + 2 * k) 2 _ hsat (by omega) (by omega) (by decide) hl
      obtain ⟨v0, v1⟩ := leV_range (L.drop (o + 2 * k)) 2
      have v2 : leV (L.drop (o + 2 * k)) 2 < 65536 := v1
      have hsn : setLs cs off ((ptrsOf L o (k + 1)).map (Value.int .i64)) = (setLs cs off ((ptrsOf L o k).map (Value.int .i64))).setIfInBounds (off + k) (.int .i64 (leV (L.drop (o + 2 * k)) 2)) := by
        rw [ptrsOf_succ, List.map_append, List.map_cons, List.map_nil, setLs_snoc, List.length_map, ptrsOf_length]
      have hold : ∃ x, (setLs cs off ((ptrsOf L o k).map (Value.int .i64)))[off + k]? = some x := by
        rw [setLs_get _ _ _ _ (by rw [List.length_map, ptrsOf_length]; omega), if_neg (by rw [List.length_map, ptrsOf_length]; omega)]
        exact Option.isSome_iff_exists.1 (hcell k hlt)
      have hfin : ∀ w', Sat w' (readerA r g cap cur L (o + 2 * k + 2) * (pt b (.cells (setLs cs off ((ptrsOf L o (k + 1)).map (Value.int .i64))) T (0, 0)) * F)) → Sat w' (takeA r g cap cur L o b cs T off (k + 1) F) := fun w' h => h
      rw [hsn] at hfin
      unfold NumQ at hnum
      have Hfin := SL.hid hfin
      generalize leV (L.drop (o + 2 * k)) 2 = v at *
      generalize setLs cs off ((ptrsOf L o k).map (Value.int .i64)) = cs1 at *
      obtain ⟨x, hx⟩ := hold
      have Hx := SL.hid hx
      clear v1 hsat hsn hfin hx
      go_wp2_with fail
      (with_reducible refine hnum.mono ?_)
      rintro e w2 ⟨rfl, h2, d2⟩
      have cx : w2.cell? ⟨b, off + k, none⟩ = some x := (h2.front2.cell _).trans Hx.out
      have fx := h2.front2.frozen (off + k)
      have H3 := h2.front2.setCell (off + k) (.int .i64 v)
      have H4 := SL.hid (Hfin.out _ (H3.to (by ac_rfl)))
      clear hnum h2 H3
      go_wp2_with fail
      go_roundw
      case rel => exact ⟨k + 1, by omega, by go_num, H4.out, (hside.trans d2).setCell _ _⟩
      case measure => simp [intOf]; omega
    · obtain rfl : k = m := by omega
      go_wp2_with fail
      go_end0
      exact ⟨rfl, hsat, hside⟩
theorem nz_any (w : World) (c : Int) : Calls Try.prog 85 #[.int .u8 c] w fun e w' => e = .returned (.bool (c != 0)) ∧ w = w' := by
  go_enter Try.func85, Try.ntmps85
  go_wp2
  go_ret
  exact ⟨rfl, rfl⟩
def AllZ (l : List UInt8) (k : Nat) : Prop := (l.take k).all (· == 0) = true
def IdxRel (l : List UInt8) (u : Value) : Prop := ∃ k : Nat, k ≤ l.length ∧ u = .int .i64 (k : Int) ∧ AllZ l k
def IdxQ (l : List UInt8) (w : World) (e : Ending) (w' : World) : Prop := ∃ n : Int, e = .returned (.int .i64 n) ∧ (0 ≤ n ↔ l.all (· == 0) = false) ∧ w = w'
set_option maxRecDepth 100000 in
set_option maxHeartbeats 2000000 in
theorem indexNZ_any (w : World) (v : Value) (l : List UInt8) (hr : Rd w v l) (hl : l.length ≤ 1000000) :
    Calls Try.prog 95 #[v, .func (.func 85) #[] #[]] w (IdxQ l w) := by
  have Hr := SL.hid hr
  obtain ⟨va, vc, rfl⟩ := hr.shape
  have hln : (l.length : Int) ≤ 1000000 := by omega
  clear hr
  go_enter Try.func95, Try.ntmps95
  go_wp2_with fail
  go_loop [8] (fun u => IdxRel l u) (fun u => l.length - (intOf u).toNat)
  case atStart => exact ⟨0, Nat.zero_le _, rfl, rfl⟩
  case round =>
    obtain ⟨k, hk, rfl, hall⟩ := hrel
    by_cases hlt : k < l.length
    · have hlt' : (k : Int) < (l.length : Int) := by omega
      obtain ⟨g, o, rfl, hcell⟩ := Hr.out.at (by omega)
      have hck := hcell k l[k] (List.getElem?_eq_getElem hlt)
      have hnz := nz_any w (l[k].toNat : Int)
      have hz : (l[k].toNat : Int) = 0 ↔ l[k] = 0 := by
        constructor
        · intro h; exact UInt8.toNat_inj.1 (by have : (0 : UInt8).toNat = 0 := rfl; omega)
        · intro h; rw [h]; rfl
      have hts : AllZ l (k + 1) ↔ l[k] = 0 := by
        unfold AllZ at hall ⊢
        rw [List.take_add_one, List.getElem?_eq_getElem hlt, List.all_append, hall]
        simp
      have hno : l[k] ≠ 0 → l.all (· == 0) = false := fun h => List.all_eq_false.2 ⟨l[k], List.getElem_mem hlt, by simpa using h⟩
      have Hno := SL.hid hno; have Hts := SL.hid hts; have Hz := SL.hid hz
      unfold u8 at hck
      generalize (l[k].toNat : Int) = c at *
      clear hcell hall hno hts hz
      by_cases hc : c = 0
      · subst hc
        have hall2 := SL.hid (Hts.out.2 (Hz.out.1 rfl))
        go_wp2_with fail
        (with_reducible refine hnz.mono ?_)
        rintro e w2 ⟨rfl, rfl⟩
        clear hnz
        go_wp2_with fail
        go_round
        case rel => exact ⟨k + 1, by omega, by go_num, hall2.out⟩
        case measure => simp [intOf]; omega
      · have hcb : (c != 0) = true := by simpa using hc
        have hn := SL.hid (Hno.out (fun h => hc (Hz.out.2 h)))
        rw [hcb] at hnz
        go_wp2_with fail
        (with_reducible refine hnz.mono ?_)
        rintro e w2 ⟨rfl, rfl⟩
        clear hnz
        go_wp2_with fail
        go_ret
        exact ⟨(k : Int), rfl, ⟨fun _ => hn.out, fun _ => by omega⟩, rfl⟩
    · obtain rfl : k = l.length := by omega
      unfold AllZ at hall
      rw [List.take_length] at hall
      have Hall := SL.hid hall
      clear hall
      go_wp2_with fail
      go_ret
      exact ⟨-1, rfl, ⟨fun h => absurd h (by decide), fun h => by rw [Hall.out] at h; cases h⟩, rfl⟩
def NZQ (l : List UInt8) (w : World) (e : Ending) (w' : World) : Prop := e = .returned (.bool (!(l.all (· == 0)))) ∧ w = w'
theorem containsNZ_any (w : World) (v : Value) (l : List UInt8) (hr : Rd w v l) (hl : l.length ≤ 1000000) :
    Calls Try.prog 84 #[v, .func (.func 85) #[] #[]] w (NZQ l w) := by
  have hix := indexNZ_any w v l hr hl
  obtain ⟨va, vc, rfl⟩ := hr.shape
  clear hr
  go_enter Try.func84, Try.ntmps84
  go_wp2_with fail
  (with_reducible refine hix.mono ?_)
  rintro e w2 ⟨n, rfl, hn, rfl⟩
  have Hn := SL.hid hn
  clear hix hn
  by_cases h : 0 ≤ n
  · have e := SL.hid (Hn.out.1 h)
    go_wp2
    go_ret
    exact ⟨by rw [e.out]; rfl, rfl⟩
  · have e : l.all (· == 0) = true := by
      cases hb : l.all (· == 0) with
      | true => rfl
      | false => exact absurd (Hn.out.2 hb) h
    have He := SL.hid e
    have hd : decide (0 ≤ n) = false := decide_eq_false h
    clear e
    go_wp2
    go_ret
    exact ⟨by rw [He.out]; rfl, rfl⟩
theorem node_built (a b c : Int) (dr : List Int) (r : Int) (h16 : dr.length = 16) : (setLs #[.int .i64 a, .int .i64 b, .int .i64 c, .int .i64 0, .int .i64 0, .int .i64 0, .int .i64 0, .int .i64 0, .int .i64 0, .int .i64 0, .int .i64 0, .int .i64 0, .int .i64 0, .int .i64 0, .int .i64 0, .int .i64 0, .int .i64 0, .int .i64 0, .int .i64 0, .int .i64 0] 3 (dr.map (Value.int .i64))).setIfInBounds 19 (.int .i64 r) = ints (Nd.l ⟨a, b, c, dr, r⟩) := by
  have hs : (setLs #[.int .i64 a, .int .i64 b, .int .i64 c, .int .i64 0, .int .i64 0, .int .i64 0, .int .i64 0, .int .i64 0, .int .i64 0, .int .i64 0, .int .i64 0, .int .i64 0, .int .i64 0, .int .i64 0, .int .i64 0, .int .i64 0, .int .i64 0, .int .i64 0, .int .i64 0, .int .i64 0] 3 (dr.map (Value.int .i64))).size = 20 := by rw [setLs_size]; rfl
  apply Array.ext_getElem?
  intro k
  rw [Array.getElem?_setIfInBounds, get_ints]
  by_cases h19 : 19 = k
  · subst h19
    rw [if_pos rfl, if_pos (by rw [hs]; decide)]
    simp [Nd.l, h16]
  · rw [if_neg h19, setLs_get _ _ _ _ (by rw [List.length_map, h16]; show 3 + 16 ≤ 20; decide), List.length_map, h16]
    by_cases h3 : 3 ≤ k ∧ k < 3 + 16
    · rw [if_pos h3, List.getElem?_map]
      congr 1
      obtain ⟨j, rfl⟩ : ∃ j, k = j + 3 := ⟨k - 3, by omega⟩
      simp only [Nd.l, List.getElem?_cons_succ, Nat.add_sub_cancel]
      rw [List.getElem?_append_left (by omega)]
    · rw [if_neg h3]
      rcases (by omega : k = 0 ∨ k = 1 ∨ k = 2 ∨ 20 ≤ k) with rfl | rfl | rfl | h
      · rfl
      · rfl
      · rfl
      · rw [Array.getElem?_eq_none (by show 20 ≤ k; exact h), List.getElem?_eq_none (by simp [Nd.l, h16]; omega)]; rfl
theorem one20 : (#[.int .i64 0, .int .i64 0, .int .i64 0, .int .i64 0, .int .i64 0, .int .i64 0, .int .i64 0, .int .i64 0, .int .i64 0, .int .i64 0, .int .i64 0, .int .i64 0, .int .i64 0, .int .i64 0, .int .i64 0, .int .i64 0, .int .i64 0, .int .i64 0, .int .i64 0, .int .i64 0] : Array Value).all (·.oneCell') = true := by simp [Value.oneCell']
theorem dnode_results {tmps : Array Value} {w : World} {z : Nat} {v : Value} {F : Assn} {C : Array Value} (h2 : tmps[2]? = some (ptV z)) (h3 : tmps[3]? = some v) (h : Sat w (pt z (.cells C 48 (0, 0)) * F)) (hs : C.size = 20 := by rfl) :
    (results Try.f63 tmps).run Try.prog w = .ok (.tuple #[.agg C, v]) w := by
  have hl := run_loadVar_row (P := Try.prog) w z 48 48 C (0, 0) _ h.heap Try.underlying48 rfl (by rw [hs]; exact info_node0)
  have hp : tmps.getD 2 undef = .pointer (some ⟨z, 0, none⟩) := by simp [h2]
  simp [results, Try.results63, h2, h3, asAddr, hl]
def zeroNd : Nd := ⟨0, 0, 0, List.replicate 16 0, 0⟩
set_option maxRecDepth 100000 in
set_option maxHeartbeats 4000000 in
theorem decode_any (w : World) (v : Value) (L : List UInt8) (hr : Rd w v L) (hL : L.length = 480) (Q : Ending → World → Prop)
    (hY : (ndOf L).ok = true → (L.drop 41).all (· == 0) = true → ∀ w', Sat w' (whole w) → Side w w' → Q (.returned (.tuple #[(ndOf L).v, .int .i64 0])) w')
    (hN : (ndOf L).ok = false ∨ (L.drop 41).all (· == 0) = false → ∀ w', Sat w' (whole w) → Side w w' → Q (.returned (.tuple #[zeroNd.v, .int .i64 4])) w') :
    Calls Try.prog 63 #[v] w Q := by
  obtain ⟨va, vc, rfl⟩ := hr.shape
  rw [hL] at hr ⊢
  have Hr := SL.hid hr; have HY := SL.hid hY; have HN := SL.hid hN; have HL := SL.hid hL
  clear hr hY hN hL
  go_enter Try.func63, Try.ntmps63
  go_wp2_with fail
  have H1 := (((Sat.whole w).alloc (.cells #[.int .i64 0, .int .i64 0, .int .i64 0, .int .i64 0, .int .i64 0, .int .i64 0, .int .i64 0, .int .i64 0, .int .i64 0, .int .i64 0, .int .i64 0, .int .i64 0, .int .i64 0, .int .i64 0, .int .i64 0, .int .i64 0, .int .i64 0, .int .i64 0, .int .i64 0, .int .i64 0] 48 (0, 0))).alloc (.cells #[.int .i64 0, .int .i64 0, .int .i64 0, .int .i64 0, .int .i64 0, .int .i64 0, .int .i64 0, .int .i64 0, .int .i64 0, .int .i64 0, .int .i64 0, .int .i64 0, .int .i64 0, .int .i64 0, .int .i64 0, .int .i64 0, .int .i64 0, .int .i64 0, .int .i64 0, .int .i64 0] 48 (0, 0))).alloc (.cells #[.int .i64 0] 124 (0, 0))
  have D1 := (((Side.refl w).alloc (.cells #[.int .i64 0, .int .i64 0, .int .i64 0, .int .i64 0, .int .i64 0, .int .i64 0, .int .i64 0, .int .i64 0, .int .i64 0, .int .i64 0, .int .i64 0, .int .i64 0, .int .i64 0, .int .i64 0, .int .i64 0, .int .i64 0, .int .i64 0, .int .i64 0, .int .i64 0, .int .i64 0] 48 (0, 0))).alloc (.cells #[.int .i64 0, .int .i64 0, .int .i64 0, .int .i64 0, .int .i64 0, .int .i64 0, .int .i64 0, .int .i64 0, .int .i64 0, .int .i64 0, .int .i64 0, .int .i64 0, .int .i64 0, .int .i64 0, .int .i64 0, .int .i64 0, .int .i64 0, .int .i64 0, .int .i64 0, .int .i64 0] 48 (0, 0))).alloc (.cells #[.int .i64 0] 124 (0, 0))
  simp only [World.size_alloc] at H1
  generalize ((w.alloc (.cells #[.int .i64 0, .int .i64 0, .int .i64 0, .int .i64 0, .int .i64 0, .int .i64 0, .int .i64 0, .int .i64 0, .int .i64 0, .int .i64 0, .int .i64 0, .int .i64 0, .int .i64 0, .int .i64 0, .int .i64 0, .int .i64 0, .int .i64 0, .int .i64 0, .int .i64 0, .int .i64 0] 48 (0, 0))).alloc (.cells #[.int .i64 0, .int .i64 0, .int .i64 0, .int .i64 0, .int .i64 0, .int .i64 0, .int .i64 0, .int .i64 0, .int .i64 0, .int .i64 0, .int .i64 0, .int .i64 0, .int .i64 0, .int .i64 0, .int .i64 0, .int .i64 0, .int .i64 0, .int .i64 0, .int .i64 0, .int .i64 0] 48 (0, 0))).alloc (.cells #[.int .i64 0] 124 (0, 0)) = w1 at H1 D1 ⊢
  generalize w.heap.size + 1 + 1 = rb at H1 ⊢
  generalize w.heap.size + 1 = nb at H1 ⊢
  generalize w.heap.size = zb at H1 ⊢
  obtain ⟨kd, hkd⟩ : ∃ x, x = leV L 1 := ⟨_, rfl⟩
  obtain ⟨lk, hlk⟩ : ∃ x, x = leV (L.drop 1) 2 := ⟨_, rfl⟩
  obtain ⟨sz, hsz⟩ : ∃ x, x = leV (L.drop 3) 4 := ⟨_, rfl⟩
  obtain ⟨rw', hrw⟩ : ∃ x, x = leV (L.drop 39) 2 := ⟨_, rfl⟩
  have a0 : 0 ≤ kd ∧ kd < 256 := by rw [hkd]; exact leV_range L 1
  have b0 : 0 ≤ lk ∧ lk < 65536 := by rw [hlk]; exact leV_range (L.drop 1) 2
  have q0 : 0 ≤ sz ∧ sz < 4294967296 := by rw [hsz]; exact leV_range (L.drop 3) 4
  obtain ⟨a0, a2⟩ := a0
  obtain ⟨b0, b2⟩ := b0
  obtain ⟨q0, q2⟩ := q0
  have Hkd := SL.hid hkd; have Hlk := SL.hid hlk; have Hsz := SL.hid hsz; have Hrw := SL.hid hrw
  clear hkd hlk hsz hrw
  have hrd := read_any w1 (.slice va 480 vc) L (Hr.out.keep (H1.to (by ac_rfl : _ = (pt rb (.cells #[.int .i64 0] 124 (0, 0)) * (pt nb (.cells #[.int .i64 0, .int .i64 0, .int .i64 0, .int .i64 0, .int .i64 0, .int .i64 0, .int .i64 0, .int .i64 0, .int .i64 0, .int .i64 0, .int .i64 0, .int .i64 0, .int .i64 0, .int .i64 0, .int .i64 0, .int .i64 0, .int .i64 0, .int .i64 0, .int .i64 0, .int .i64 0] 48 (0, 0)) * pt zb (.cells #[.int .i64 0, .int .i64 0, .int .i64 0, .int .i64 0, .int .i64 0, .int .i64 0, .int .i64 0, .int .i64 0, .int .i64 0, .int .i64 0, .int .i64 0, .int .i64 0, .int .i64 0, .int .i64 0, .int .i64 0, .int .i64 0, .int .i64 0, .int .i64 0, .int .i64 0, .int .i64 0] 48 (0, 0)))) * whole w))) (by rw [HL.out]; decide) (by rw [HL.out]; decide)
  (with_reducible refine hrd.mono ?_)
  rintro e w2 ⟨r, g, cap, cur, rfl, h2, d2⟩
  obtain ⟨Z, hZ⟩ : ∃ Z, Z = pt rb (.cells #[.int .i64 0] 124 (0, 0)) * (pt zb (.cells #[.int .i64 0, .int .i64 0, .int .i64 0, .int .i64 0, .int .i64 0, .int .i64 0, .int .i64 0, .int .i64 0, .int .i64 0, .int .i64 0, .int .i64 0, .int .i64 0, .int .i64 0, .int .i64 0, .int .i64 0, .int .i64 0, .int .i64 0, .int .i64 0, .int .i64 0, .int .i64 0] 48 (0, 0)) * whole w) := ⟨_, rfl⟩
  have H2 : Sat w2 (readerA r g cap cur L 0 * (pt nb (.cells #[.int .i64 0, .int .i64 0, .int .i64 0, .int .i64 0, .int .i64 0, .int .i64 0, .int .i64 0, .int .i64 0, .int .i64 0, .int .i64 0, .int .i64 0, .int .i64 0, .int .i64 0, .int .i64 0, .int .i64 0, .int .i64 0, .int .i64 0, .int .i64 0, .int .i64 0, .int .i64 0] 48 (0, 0)) * Z)) := (h2.under H1).to (by rw [hZ]; ac_rfl)
  have D2 := D1.trans d2
  have HZ := SL.hid hZ
  clear hrd h2 d2 H1 D1 hZ
  have hn1 : Calls Try.prog 80 #[ptV r, .int .i64 1] w2 (NumQ r g cap cur L 0 1 w2 _) := number_any w2 r g cap cur L 0 1 _ H2 (by rw [HL.out]; decide) (by rw [HL.out]; decide) (by decide) (by rw [HL.out]; decide)
  unfold NumQ at hn1
  rw [List.drop_zero, ← Hkd.out] at hn1
  go_wp2_with fail
  (with_reducible refine hn1.mono ?_)
  rintro e w3 ⟨rfl, h3, d3⟩
  have n0 : w3.cell? ⟨nb, 0, none⟩ = some (.int .i64 0) := h3.front2.cell 0
  have f0 : w3.frozen? ⟨nb, 0, none⟩ = false := h3.front2.frozen 0
  have H3 := h3.front2.setCell 0 (.int .i64 kd)
  have D3 := (D2.trans d3).setCell ⟨nb, 0, none⟩ (.int .i64 kd)
  simp only [List.setIfInBounds_toArray, List.set_cons_zero, List.set_cons_succ] at H3
  have hn2 : Calls Try.prog 80 #[ptV r, .int .i64 2] (w3.setCell ⟨nb, 0, none⟩ (.int .i64 kd)) (NumQ r g cap cur L 1 2 _ _) := number_any _ r g cap cur L 1 2 _ H3.front2 (by rw [HL.out]; decide) (by rw [HL.out]; decide) (by decide) (by rw [HL.out]; decide)
  unfold NumQ at hn2
  rw [← Hlk.out] at hn2
  clear hn1 h3 d3 D2 H2
  go_wp2_with fail
  generalize w3.setCell ⟨nb, 0, none⟩ (.int .i64 kd) = w4 at *
  (with_reducible refine hn2.mono ?_)
  rintro e w5 ⟨rfl, h5, d5⟩
  have n1 : w5.cell? ⟨nb, 1, none⟩ = some (.int .i64 0) := h5.front2.cell 1
  have f1 : w5.frozen? ⟨nb, 1, none⟩ = false := h5.front2.frozen 1
  have H5 := h5.front2.setCell 1 (.int .i64 lk)
  have D5 := (D3.trans d5).setCell ⟨nb, 1, none⟩ (.int .i64 lk)
  simp only [List.setIfInBounds_toArray, List.set_cons_zero, List.set_cons_succ] at H5
  have hn3 : Calls Try.prog 80 #[ptV r, .int .i64 4] (w5.setCell ⟨nb, 1, none⟩ (.int .i64 lk)) (NumQ r g cap cur L 3 4 _ _) := number_any _ r g cap cur L 3 4 _ H5.front2 (by rw [HL.out]; decide) (by rw [HL.out]; decide) (by decide) (by rw [HL.out]; decide)
  unfold NumQ at hn3
  rw [← Hsz.out] at hn3
  clear hn2 h5 d5 D3 H3 n0 f0
  go_wp2_with fail
  generalize w5.setCell ⟨nb, 1, none⟩ (.int .i64 lk) = w6 at *
  (with_reducible refine hn3.mono ?_)
  rintro e w7 ⟨rfl, h7, d7⟩
  have n2 : w7.cell? ⟨nb, 2, none⟩ = some (.int .i64 0) := h7.front2.cell 2
  have f2 : w7.frozen? ⟨nb, 2, none⟩ = false := h7.front2.frozen 2
  have H7 := h7.front2.setCell 2 (.int .i64 sz)
  have D7 := (D5.trans d7).setCell ⟨nb, 2, none⟩ (.int .i64 sz)
  simp only [List.setIfInBounds_toArray, List.set_cons_zero, List.set_cons_succ] at H7
  have hz : ∀ k, k < 20 → (#[.int .i64 kd, .int .i64 lk, .int .i64 sz, .int .i64 0, .int .i64 0, .int .i64 0, .int .i64 0, .int .i64 0, .int .i64 0, .int .i64 0, .int .i64 0, .int .i64 0, .int .i64 0, .int .i64 0, .int .i64 0, .int .i64 0, .int .i64 0, .int .i64 0, .int .i64 0, .int .i64 0] : Array Value)[k]?.isSome = true := fun k hk => by
    rw [Array.getElem?_eq_getElem (by show k < 20; exact hk)]; rfl
  have htk := takeP_any _ r g cap cur L 7 nb _ 48 3 16 16 Z H7.front2 (by show 3 + 16 ≤ 20; decide) (by rw [HL.out]; decide) (by rw [HL.out]; decide) (Nat.le_refl _) (by decide) (fun k hk => hz _ (by omega))
  clear hn3 h7 d7 D5 H5 n1 f1 hz
  go_wp2_with fail
  generalize w7.setCell ⟨nb, 2, none⟩ (.int .i64 sz) = w8 at *
  (with_reducible refine htk.mono ?_)
  rintro e w9 ⟨rfl, h9, d9⟩
  obtain ⟨C, hC⟩ : ∃ C, C = setLs #[.int .i64 kd, .int .i64 lk, .int .i64 sz, .int .i64 0, .int .i64 0, .int .i64 0, .int .i64 0, .int .i64 0, .int .i64 0, .int .i64 0, .int .i64 0, .int .i64 0, .int .i64 0, .int .i64 0, .int .i64 0, .int .i64 0, .int .i64 0, .int .i64 0, .int .i64 0, .int .i64 0] 3 ((ptrsOf L 7 16).map (Value.int .i64)) := ⟨_, rfl⟩
  have hbuilt := node_built kd lk sz (ptrsOf L 7 16) rw' (ptrsOf_length _ _ _)
  rw [← hC] at hbuilt
  have hc19 : ∃ y, C[19]? = some y := by
    rw [hC, setLs_get _ _ _ _ (by rw [List.length_map, ptrsOf_length]; show 3 + 16 ≤ 20; decide), if_neg (by rw [List.length_map, ptrsOf_length]; decide)]
    exact ⟨_, rfl⟩
  unfold takeA at h9
  rw [← hC, HZ.out] at h9
  have H9 : Sat w9 (readerA r g cap cur L 39 * (pt rb (.cells #[.int .i64 0] 124 (0, 0)) * (pt nb (.cells C 48 (0, 0)) * (pt zb (.cells #[.int .i64 0, .int .i64 0, .int .i64 0, .int .i64 0, .int .i64 0, .int .i64 0, .int .i64 0, .int .i64 0, .int .i64 0, .int .i64 0, .int .i64 0, .int .i64 0, .int .i64 0, .int .i64 0, .int .i64 0, .int .i64 0, .int .i64 0, .int .i64 0, .int .i64 0, .int .i64 0] 48 (0, 0)) * whole w)))) := h9.to (by ac_rfl)
  have D9 := D7.trans d9
  have htk2 := takeP_any w9 r g cap cur L 39 rb _ 124 0 1 1 _ H9 (by decide) (by rw [HL.out]; decide) (by rw [HL.out]; decide) (Nat.le_refl _) (by decide) (fun k hk => by obtain rfl : k = 0 := by omega
                                                                                                                                                                           rfl)
  have Hbuilt := SL.hid hbuilt
  clear htk h9 d9 D7 H7 n2 f2 hC hbuilt
  go_wp2_with fail
  (with_reducible refine htk2.mono ?_)
  rintro e w10 ⟨rfl, h10, d10⟩
  have hrow : setLs #[.int .i64 0] 0 ((ptrsOf L 39 1).map (Value.int .i64)) = #[.int .i64 rw'] := by rw [Hrw.out]; rfl
  unfold takeA at h10
  rw [hrow] at h10
  have D10 := D9.trans d10
  have r0 : w10.cell? ⟨rb, 0, none⟩ = some (.int .i64 rw') := h10.front2.cell 0
  obtain ⟨y, hy⟩ := hc19
  have n19 : w10.cell? ⟨nb, 19, none⟩ = some y := (h10.front3.cell 19).trans hy
  have f19 : w10.frozen? ⟨nb, 19, none⟩ = false := h10.front3.frozen 19
  have H11 := h10.front3.setCell 19 (.int .i64 rw')
  rw [Hbuilt.out] at H11
  have hnd : (⟨kd, lk, sz, ptrsOf L 7 16, rw'⟩ : Nd) = ndOf L := by rw [Hkd.out, Hlk.out, Hsz.out, Hrw.out]; rfl
  rw [hnd] at H11
  have D11 := D10.setCell ⟨nb, 19, none⟩ (.int .i64 rw')
  have hle : ((L.length - 41 : Nat) : Int) = 439 := by rw [HL.out]; rfl
  have hlf := left_any _ r g cap cur L 41 _ H11.front2
  have hby := bytesE_any _ r g cap cur L 41 _ H11.front2 (by rw [HL.out]; decide) (by rw [HL.out]; decide)
  rw [hle] at hlf hby
  have Hy := SL.hid hy
  clear htk2 h10 d10 H9 D9 D10 hrow hy hnd
  go_wp2_with fail
  generalize w10.setCell ⟨nb, 19, none⟩ (.int .i64 rw') = w11 at *
  (with_reducible refine hlf.mono ?_)
  rintro e w12 ⟨rfl, rfl⟩
  clear hlf r0 n19 f19 hle
  go_wp2_with fail
  (with_reducible refine hby.mono ?_)
  rintro e w13 ⟨bv, rfl, h13, d13⟩
  have h16 : (ndOf L).dr.length = 16 := ptrsOf_length _ _ _
  have hri := right_any w13 (ndOf L) h16
  have H13 : Sat w13 (pt nb (.cells (ints (ndOf L).l) 48 (0, 0)) * (bs 5 bv (L.drop 41) * (pt zb (.cells #[.int .i64 0, .int .i64 0, .int .i64 0, .int .i64 0, .int .i64 0, .int .i64 0, .int .i64 0, .int .i64 0, .int .i64 0, .int .i64 0, .int .i64 0, .int .i64 0, .int .i64 0, .int .i64 0, .int .i64 0, .int .i64 0, .int .i64 0, .int .i64 0, .int .i64 0, .int .i64 0] 48 (0, 0)) * whole w))) := (h13.to (by ac_rfl : _ = pt rb (.cells #[.int .i64 rw'] 124 (0, 0)) * (pt nb (.cells (ints (ndOf L).l) 48 (0, 0)) * (bs 5 bv (L.drop 41) * (pt zb (.cells #[.int .i64 0, .int .i64 0, .int .i64 0, .int .i64 0, .int .i64 0, .int .i64 0, .int .i64 0, .int .i64 0, .int .i64 0, .int .i64 0, .int .i64 0, .int .i64 0, .int .i64 0, .int .i64 0, .int .i64 0, .int .i64 0, .int .i64 0, .int .i64 0, .int .i64 0, .int .i64 0] 48 (0, 0)) * whole w))))).right
  have D13 := D11.trans d13
  have hrow : w13.rangeAt nb 0 ((ndOf L).l.map (Value.int .i64)) := fun j v hv => by
    rw [Nat.zero_add, H13.cell, get_ints, ← List.getElem?_map]; exact hv
  have hinfo : (Try.prog.info? 48).map (·.size) = some ((ndOf L).l.map (Value.int .i64)).length := by rw [List.length_map, Nd.cells h16]; exact info_node0
  have hone : ((ndOf L).l.map (Value.int .i64)).toArray.all (·.oneCell') = true := by simp [Value.oneCell']
  have hv : (ndOf L).v = .agg ((ndOf L).l.map (Value.int .i64)).toArray := rfl
  have hi : ints (ndOf L).l = ((ndOf L).l.map (Value.int .i64)).toArray := rfl
  rw [hv] at hri
  rw [hi] at H13
  have HYv := SL.hid (fun h1 h2 w' h3 h4 => hv ▸ HY.out h1 h2 w' h3 h4)
  have Hrow := SL.hid hrow; have Hinfo := SL.hid hinfo; have Hone := SL.hid hone
  have hsz : zeroNd.v = .agg #[.int .i64 0, .int .i64 0, .int .i64 0, .int .i64 0, .int .i64 0, .int .i64 0, .int .i64 0, .int .i64 0, .int .i64 0, .int .i64 0, .int .i64 0, .int .i64 0, .int .i64 0, .int .i64 0, .int .i64 0, .int .i64 0, .int .i64 0, .int .i64 0, .int .i64 0, .int .i64 0] := rfl
  obtain ⟨ba, bc, rfl⟩ := sl_shape H13.front2
  have hlen : (L.drop 41).length = 439 := by rw [List.length_drop, HL.out]
  rw [hlen] at H13 ⊢
  have hcn := fun w' (h : Rd w' (.slice ba 439 bc) (L.drop 41)) => containsNZ_any w' _ _ h (by rw [hlen]; decide)
  have Hcn := SL.hid hcn
  clear hby h13 d13 D11 H11 hrow hinfo hone hv hi hcn hlen hsz
  go_wp2_with (refine wpList_load_mid (by exact rfl) 48 (.tmp 4) (by exact rfl) nb 0 (by exact rfl) ((ndOf L).l.map (Value.int .i64)) _ (by with_reducible exact Hrow.out) Try.underlying48 rfl (by with_reducible exact Hinfo.out) ?_)
  have hfin : ∀ w', Sat w' (pt zb (.cells #[.int .i64 0, .int .i64 0, .int .i64 0, .int .i64 0, .int .i64 0, .int .i64 0, .int .i64 0, .int .i64 0, .int .i64 0, .int .i64 0, .int .i64 0, .int .i64 0, .int .i64 0, .int .i64 0, .int .i64 0, .int .i64 0, .int .i64 0, .int .i64 0, .int .i64 0, .int .i64 0] 48 (0, 0)) * whole w) → Sat (w'.setRow zb #[.int .i64 0, .int .i64 0, .int .i64 0, .int .i64 0, .int .i64 0, .int .i64 0, .int .i64 0, .int .i64 0, .int .i64 0, .int .i64 0, .int .i64 0, .int .i64 0, .int .i64 0, .int .i64 0, .int .i64 0, .int .i64 0, .int .i64 0, .int .i64 0, .int .i64 0, .int .i64 0]) (pt zb (.cells #[.int .i64 0, .int .i64 0, .int .i64 0, .int .i64 0, .int .i64 0, .int .i64 0, .int .i64 0, .int .i64 0, .int .i64 0, .int .i64 0, .int .i64 0, .int .i64 0, .int .i64 0, .int .i64 0, .int .i64 0, .int .i64 0, .int .i64 0, .int .i64 0, .int .i64 0, .int .i64 0] 48 (0, 0)) * whole w) := fun w' h => h.setRow
  cases hok : (ndOf L).ok with
  | false =>
    have HNf := SL.hid (HN.out (.inl hok))
    rw [hok] at hri
    (with_reducible refine hri.mono ?_)
    rintro e w14 ⟨rfl, h14, d14⟩
    have H14 := (h14.keepW H13).right.right
    have D14 := D13.trans d14
    have Hz := SL.hid H14.heap
    have HF := SL.hid (hfin _ H14)
    clear hri h14 H14 hfin hok HYv
    go_wp2_with (refine wpList_store_row (by exact rfl) 48 (.tmp 2) (.tmp 47) (by exact rfl) zb #[.int .i64 0, .int .i64 0, .int .i64 0, .int .i64 0, .int .i64 0, .int .i64 0, .int .i64 0, .int .i64 0, .int .i64 0, .int .i64 0, .int .i64 0, .int .i64 0, .int .i64 0, .int .i64 0, .int .i64 0, .int .i64 0, .int .i64 0, .int .i64 0, .int .i64 0, .int .i64 0] (by exact rfl) (by exact rfl) 48 #[.int .i64 0, .int .i64 0, .int .i64 0, .int .i64 0, .int .i64 0, .int .i64 0, .int .i64 0, .int .i64 0, .int .i64 0, .int .i64 0, .int .i64 0, .int .i64 0, .int .i64 0, .int .i64 0, .int .i64 0, .int .i64 0, .int .i64 0, .int .i64 0, .int .i64 0, .int .i64 0] (by with_reducible exact Hz.out) info_node0 rfl one20 ?_)
    exact bodyPost_ret (dnode_results rfl rfl HF.out) rfl (HNf.out _ HF.out.right (D14.setRow _ _))
  | true =>
    rw [hok] at hri
    (with_reducible refine hri.mono ?_)
    rintro e w14 ⟨rfl, h14, d14⟩
    have H14 := h14.keepW H13
    have D14 := D13.trans d14
    have hc := Hcn.out w14 H14.front2.rds
    unfold NZQ at hc
    cases hz : (L.drop 41).all (· == 0) with
    | false =>
      have HNf := SL.hid (HN.out (.inr hz))
      rw [hz] at hc
      have H15 := H14.right.right
      have Hz := SL.hid H15.heap
      have HF := SL.hid (hfin _ H15)
      clear hri h14 H15 hfin hok HYv hz
      go_wp2_with (first | (refine wpList_store_row (by exact rfl) 48 (.tmp 2) (.tmp 47) (by exact rfl) zb #[.int .i64 0, .int .i64 0, .int .i64 0, .int .i64 0, .int .i64 0, .int .i64 0, .int .i64 0, .int .i64 0, .int .i64 0, .int .i64 0, .int .i64 0, .int .i64 0, .int .i64 0, .int .i64 0, .int .i64 0, .int .i64 0, .int .i64 0, .int .i64 0, .int .i64 0, .int .i64 0] (by exact rfl) (by exact rfl) 48 #[.int .i64 0, .int .i64 0, .int .i64 0, .int .i64 0, .int .i64 0, .int .i64 0, .int .i64 0, .int .i64 0, .int .i64 0, .int .i64 0, .int .i64 0, .int .i64 0, .int .i64 0, .int .i64 0, .int .i64 0, .int .i64 0, .int .i64 0, .int .i64 0, .int .i64 0, .int .i64 0] (by with_reducible exact Hz.out) info_node0 rfl one20 ?_) | (go_at_call 84; (with_reducible refine hc.mono ?_); rintro e w15 ⟨rfl, rfl⟩))
      exact bodyPost_ret (dnode_results rfl rfl HF.out) rfl (HNf.out _ HF.out.right (D14.setRow _ _))
    | true =>
      have HYf := SL.hid (HYv.out hok hz)
      rw [hz] at hc
      have H15 := H14
      have H16 : Sat w14 (pt zb (.cells #[.int .i64 0, .int .i64 0, .int .i64 0, .int .i64 0, .int .i64 0, .int .i64 0, .int .i64 0, .int .i64 0, .int .i64 0, .int .i64 0, .int .i64 0, .int .i64 0, .int .i64 0, .int .i64 0, .int .i64 0, .int .i64 0, .int .i64 0, .int .i64 0, .int .i64 0, .int .i64 0] 48 (0, 0)) * (pt nb (.cells ((ndOf L).l.map (Value.int .i64)).toArray 48 (0, 0)) * whole w)) := (H14.to (by ac_rfl : _ = bs 5 (.slice ba 439 bc) (L.drop 41) * (pt zb (.cells #[.int .i64 0, .int .i64 0, .int .i64 0, .int .i64 0, .int .i64 0, .int .i64 0, .int .i64 0, .int .i64 0, .int .i64 0, .int .i64 0, .int .i64 0, .int .i64 0, .int .i64 0, .int .i64 0, .int .i64 0, .int .i64 0, .int .i64 0, .int .i64 0, .int .i64 0, .int .i64 0] 48 (0, 0)) * (pt nb (.cells ((ndOf L).l.map (Value.int .i64)).toArray 48 (0, 0)) * whole w)))).right
      have hrow2 : w14.rangeAt nb 0 ((ndOf L).l.map (Value.int .i64)) := fun j v hv => by
        rw [Nat.zero_add, H14.cell, List.getElem?_toArray]; exact hv
      have Hrow2 := SL.hid hrow2
      have Hz := SL.hid H16.heap
      have H17 := H16.setRow (cs' := ((ndOf L).l.map (Value.int .i64)).toArray)
      have HF := SL.hid H17
      have hsz2 : ((ndOf L).l.map (Value.int .i64)).toArray.size = 20 := by simp [Nd.cells h16]
      have Hsz2 := SL.hid hsz2
      have hst : (Try.prog.info? 48).map (·.size) = some ((ndOf L).l.map (Value.int .i64)).toArray.size := by rw [hsz2]; exact info_node0
      have Hst := SL.hid hst
      clear hri h14 H14 H15 H16 H17 hfin hok hz hrow2 hst hsz2
      generalize (ndOf L).l.map (Value.int .i64) = X at *
      go_wp2_with (first
        | (refine wpList_load_mid (by exact rfl) 48 (.tmp 4) (by exact rfl) nb 0 (by exact rfl) X _ (by with_reducible exact Hrow2.out) Try.underlying48 rfl (by with_reducible exact Hinfo.out) ?_)
        | (refine wpList_store_row (by exact rfl) 48 (.tmp 2) (.tmp 48) (by exact rfl) zb X.toArray (by exact rfl) (by exact rfl) 48 #[.int .i64 0, .int .i64 0, .int .i64 0, .int .i64 0, .int .i64 0, .int .i64 0, .int .i64 0, .int .i64 0, .int .i64 0, .int .i64 0, .int .i64 0, .int .i64 0, .int .i64 0, .int .i64 0, .int .i64 0, .int .i64 0, .int .i64 0, .int .i64 0, .int .i64 0, .int .i64 0] (by with_reducible exact Hz.out) Hst.out (by rw [Hsz2.out]; rfl) Hone.out ?_)
        | (go_at_call 84; (with_reducible refine hc.mono ?_); rintro e w15 ⟨rfl, rfl⟩))
      exact bodyPost_ret (dnode_results rfl rfl HF.out Hsz2.out) rfl (HYf.out _ HF.out.right.right (D14.setRow _ _))
def zeroRow : List Int := List.replicate 240 0
theorem zero240 : Try.zeroCells65 = ints zeroRow := by kernel_rfl
theorem built240 : (Try.prog.built 65 []).isSome = true := by kernel_rfl
theorem built240z : (Try.prog.built 65 []).getD #[] = ints zeroRow := by kernel_rfl
theorem info_zrow : (Try.prog.info? 65).map (·.size) = some (ints zeroRow).size := by rw [size_ints]; exact info_row
theorem one240 : (ints zeroRow).all (·.oneCell') = true := by simp [ints, Value.oneCell']
theorem drow_results {tmps : Array Value} {w : World} {z : Nat} {v : Value} {F : Assn} {C : Array Value} (h2 : tmps[2]? = some (ptV z)) (h3 : tmps[3]? = some v) (h : Sat w (pt z (.cells C 65 (0, 0)) * F)) (hs : C.size = 240) :
    (results Try.f65 tmps).run Try.prog w = .ok (.tuple #[.agg C, v]) w := by
  have hl := run_loadVar_row (P := Try.prog) w z 65 65 C (0, 0) _ h.heap Try.underlying65 rfl (by rw [hs]; exact info_row)
  have hp : tmps.getD 2 undef = .pointer (some ⟨z, 0, none⟩) := by simp [h2]
  simp [results, Try.results65, h2, h3, asAddr, hl]
set_option maxRecDepth 100000 in
set_option maxHeartbeats 4000000 in
theorem decodeRow_any (w : World) (v : Value) (L : List UInt8) (hr : Rd w v L) (hL : L.length = 480) (Q : Ending → World → Prop)
    (hY : (ptrsOf L 0 240).all ptrOk = true → ∀ w', Sat w' (whole w) → Side w w' → Q (.returned (.tuple #[.agg (ints (ptrsOf L 0 240)), .int .i64 0])) w')
    (hN : (ptrsOf L 0 240).all ptrOk = false → ∀ w', Sat w' (whole w) → Side w w' → Q (.returned (.tuple #[.agg (ints zeroRow), .int .i64 4])) w') :
    Calls Try.prog 65 #[v] w Q := by
  obtain ⟨va, vc, rfl⟩ := hr.shape
  rw [hL] at hr ⊢
  have Hr := SL.hid hr; have HY := SL.hid hY; have HN := SL.hid hN; have HL := SL.hid hL
  clear hr hY hN hL
  go_enter Try.func65, Try.ntmps65
  go_wp2_with fail
  have H1 := ((Sat.whole w).alloc (.cells Try.zeroCells65 65 (0, 0))).alloc (.cells Try.zeroCells65 65 (0, 0))
  have D1 := ((Side.refl w).alloc (.cells Try.zeroCells65 65 (0, 0))).alloc (.cells Try.zeroCells65 65 (0, 0))
  simp only [World.size_alloc] at H1
  generalize (w.alloc (.cells Try.zeroCells65 65 (0, 0))).alloc (.cells Try.zeroCells65 65 (0, 0)) = w1 at H1 D1 ⊢
  rw [zero240] at H1
  generalize w.heap.size + 1 = rb at H1 ⊢
  generalize w.heap.size = zb at H1 ⊢
  obtain ⟨ZR, hZR⟩ : ∃ Z, Z = ints zeroRow := ⟨_, rfl⟩
  have hzs : ZR.size = 240 := by rw [hZR, size_ints]; rfl
  rw [← hZR] at H1
  have HZR := SL.hid hZR
  have hrd := read_any w1.drew (.slice va 480 vc) L (Hr.out.keep (H1.to (by ac_rfl : _ = (pt rb (.cells ZR 65 (0, 0)) * pt zb (.cells ZR 65 (0, 0))) * whole w)) : Rd w1 _ _) (by rw [HL.out]; decide) (by rw [HL.out]; decide)
  have Hd := SL.hid (Sat.drew H1)
  have htk : ∀ w' r g cap cur, Sat w' (readerA r g cap cur L 0 * (pt rb (.cells ZR 65 (0, 0)) * (pt zb (.cells ZR 65 (0, 0)) * whole w))) → Calls Try.prog 81 #[ptV r, .slice (some ⟨rb, 0, none⟩) 240 240] w' fun e w2 => e = .returned (.tuple #[]) ∧ Sat w2 (takeA r g cap cur L 0 rb ZR 65 0 240 (pt zb (.cells ZR 65 (0, 0)) * whole w)) ∧ Side w' w2 := fun w' r g cap cur h =>
    takeP_any w' r g cap cur L 0 rb ZR 65 0 240 240 _ h (by omega) (by rw [HL.out]; decide) (by rw [HL.out]; decide) (Nat.le_refl _) (by decide) (fun i hi => by rw [Array.getElem?_eq_getElem (by omega)]; rfl)
  have Htk := SL.hid htk
  have hfull : setLs ZR 0 ((ptrsOf L 0 240).map (Value.int .i64)) = ints (ptrsOf L 0 240) := by
    apply Array.ext_getElem?
    intro k
    rw [setLs_get _ _ _ _ (by rw [List.length_map, ptrsOf_length]; omega), List.length_map, ptrsOf_length, get_ints, ← List.getElem?_map]
    by_cases hk : k < 240
    · rw [if_pos ⟨Nat.zero_le _, by omega⟩, Nat.sub_zero]
    · rw [if_neg (by omega), Array.getElem?_eq_none (by omega), List.getElem?_eq_none (by rw [List.length_map, ptrsOf_length]; omega)]
  have Hfull := SL.hid hfull
  clear hZR htk hfull
  go_region_held3 (fun _ => True) (trivial) (first
    | (go_at_call 79; (with_reducible refine hrd.mono ?_); rintro e w2 ⟨r, g, cap, cur, rfl, h2, d2⟩; have H2 := h2.under Hd.out)
    | (go_at_call 81; (with_reducible refine (Htk.out _ r g cap cur H2).mono ?_); rintro e w3 ⟨rfl, h3, d3⟩))
  all_goals
    unfold takeA at h3
    rw [Hfull.out] at h3
    have H3 := h3.front2
    have D3 := SL.hid (((D1.drew).trans d2).trans d3)
    have hpr := RdI.row H3 0 240 (by rw [ptrsOf_length]; decide) (by decide)
    rw [List.drop_zero, List.take_of_length_le (by rw [ptrsOf_length]; decide)] at hpr
    have hpt := pointers_any _ _ _ hpr (by rw [ptrsOf_length]; decide)
    have H4 : Sat w3 (pt zb (.cells ZR 65 (0, 0)) * (pt rb (.cells (ints (ptrsOf L 0 240)) 65 (0, 0)) * whole w)) := (H3.to (by ac_rfl : _ = readerA r g cap cur L (0 + 2 * 240) * (pt zb (.cells ZR 65 (0, 0)) * (pt rb (.cells (ints (ptrsOf L 0 240)) 65 (0, 0)) * whole w)))).right
    have hrow2 : w3.rangeAt rb 0 ((ptrsOf L 0 240).map (Value.int .i64)) := fun j v hv => by
      rw [Nat.zero_add, H4.front2.cell, get_ints, ← List.getElem?_map]; exact hv
    have Hz := SL.hid H4.heap
    have HF1 := SL.hid (H4.setRow (cs' := ints zeroRow))
    have HF2 := SL.hid (H4.setRow (cs' := ints (ptrsOf L 0 240)))
    have Hrow2 := SL.hid hrow2
    have hl : (ptrsOf L 0 240).length = 240 := ptrsOf_length _ _ _
    have Hl := SL.hid hl
    cases hok : (ptrsOf L 0 240).all ptrOk with
    | false =>
      have HNf := SL.hid (HN.out hok)
      rw [hok] at hpt
      clear hrd H1 Hd Htk h2 d2 H2 h3 d3 H3 hpr H4 hrow2 hl hok D1
      go_wp2_with fail
      (with_reducible refine hpt.mono ?_)
      rintro e w4 ⟨rfl, rfl⟩
      clear hpt
      go_wp2_with (first
        | (refine wpList_build (by exact rfl) 65 #[] (by exact rfl) (by exact built240) ?_)
        | (refine wpList_store_row (by exact rfl) 65 (.tmp 2) (.tmp 16) (by exact rfl) zb (ints zeroRow) (by exact rfl) (by exact congrArg Value.agg built240z) 65 ZR (by with_reducible exact Hz.out) info_zrow hzs (by exact one240) ?_))
      exact bodyPost_ret (drow_results rfl rfl HF1.out (by rw [size_ints]; rfl)) rfl (HNf.out _ HF1.out.right.right (D3.out.setRow _ _))
    | true =>
      have HYf := SL.hid (HY.out hok)
      rw [hok] at hpt
      have hinfo : (Try.prog.info? 65).map (·.size) = some ((ptrsOf L 0 240).map (Value.int .i64)).length := by rw [List.length_map, hl]; exact info_row
      have hinfo2 : (Try.prog.info? 65).map (·.size) = some (ints (ptrsOf L 0 240)).size := by rw [size_ints, hl]; exact info_row
      have hone : (ints (ptrsOf L 0 240)).all (·.oneCell') = true := by simp [ints, Value.oneCell']
      have hi : ints (ptrsOf L 0 240) = ((ptrsOf L 0 240).map (Value.int .i64)).toArray := rfl
      have hs2 : (ints (ptrsOf L 0 240)).size = 240 := by rw [size_ints, hl]
      rw [hi] at hinfo2 hone hs2 HF2 HYf
      have Hinfo := SL.hid hinfo; have Hinfo2 := SL.hid hinfo2; have Hone := SL.hid hone; have Hs2 := SL.hid hs2
      clear hrd H1 Hd Htk h2 d2 H2 h3 d3 H3 hpr H4 hrow2 hl hok D1 hinfo hinfo2 hone hi HF1 hs2 Hfull
      generalize (ptrsOf L 0 240).map (Value.int .i64) = X at *
      go_wp2_with fail
      (with_reducible refine hpt.mono ?_)
      rintro e w4 ⟨rfl, rfl⟩
      clear hpt
      go_wp2_with (first
        | (refine wpList_load_mid (by exact rfl) 65 (.tmp 4) (by exact rfl) rb 0 (by exact rfl) X _ (by with_reducible exact Hrow2.out) Try.underlying65 rfl (by with_reducible exact Hinfo.out) ?_)
        | (refine wpList_store_row (by exact rfl) 65 (.tmp 2) (.tmp 17) (by exact rfl) zb X.toArray (by exact rfl) (by exact rfl) 65 ZR (by with_reducible exact Hz.out) Hinfo2.out (by rw [Hs2.out]; exact hzs) Hone.out ?_))
      exact bodyPost_ret (drow_results rfl rfl HF2.out Hs2.out) rfl (HYf.out _ HF2.out.right.right (D3.out.setRow _ _))
end Go.Proofs.Ytaoohjeaaccnfaa.Fs

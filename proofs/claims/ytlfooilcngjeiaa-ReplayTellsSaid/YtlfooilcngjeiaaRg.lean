/- ring: what its functions do. -/
import Derived.Test.YtlfooilcngjeiaaDe
namespace Go.SL
set_option linter.unusedVariables false
set_option linter.unusedSimpArgs false
open Go.RowKit
def ints (l : List Int) : Array Value := (l.map (Value.int .i64)).toArray
theorem size_ints (l : List Int) : (ints l).size = l.length := by simp [ints]
theorem get_ints (l : List Int) (i : Nat) : (ints l)[i]? = l[i]?.map (Value.int .i64) := by simp [ints]
theorem set_ints (l : List Int) (i : Nat) (x : Int) : (ints l).setIfInBounds i (.int .i64 x) = ints (l.set i x) := by simp [ints, List.map_set]
theorem get_ints_lt {l : List Int} {i : Nat} (h : i < l.length) : (ints l)[i]? = some (.int .i64 (l.getD i 0)) := by
  rw [get_ints, List.getD, List.getElem?_eq_getElem h]; rfl
theorem made_ints (n : Nat) : madeCells (Value.int .i64 0).cells (n * 1) = ints (List.replicate n 0) := by
  apply Array.ext
  · simp [size_madeCells, size_ints]
  · intro i h1 h2
    simp [madeCells, ints, Value.cells, Nat.mod_one]
def ringX (g r : Nat) (l : List Int) : Assn := pt r (.cells #[.slice (some ⟨g, 0, none⟩) l.length l.length] 144 (0, 0)) * pt g (.cells (ints l) 3 (0, 0))
def ringA (r : Nat) (l : List Int) : Assn := ex fun g => ringX g r l
theorem Sat.ringOpen {w : World} {r : Nat} {l : List Int} {F : Assn} (h : Sat w (ringA r l * F)) : ∃ g, Sat w (pt r (.cells #[.slice (some ⟨g, 0, none⟩) l.length l.length] 144 (0, 0)) * (pt g (.cells (ints l) 3 (0, 0)) * F)) := by
  obtain ⟨g, h⟩ := Sat.ex_star_iff.1 h
  exact ⟨g, h.to (star_assoc _ _ _)⟩
theorem Sat.ringShut {w : World} {g r : Nat} {l : List Int} {F : Assn} (h : Sat w (pt r (.cells #[.slice (some ⟨g, 0, none⟩) l.length l.length] 144 (0, 0)) * (pt g (.cells (ints l) 3 (0, 0)) * F))) : Sat w (ringA r l * F) :=
  Sat.ex_star_iff.2 ⟨g, h.to (star_assoc _ _ _).symm⟩
end Go.SL
namespace Go.Proofs.Ytlfooilcngjeiaa
set_option linter.unusedVariables false
set_option linter.unusedSimpArgs false
open Go.RowKit Go.SL
theorem info_int : (Try.prog.info? 3).map (fun i => (i.zero, i.size, i.bytes)) = some (some (.int .i64 0), 1, 8) := by kernel_rfl
theorem make_ints (n : Nat) (hn : n ≤ 1048576) (w : World) : (Instr.makeSlice 24 (.int .i64 n) (.int .i64 n)).run Try.prog w =
    .ok (.slice (some ⟨w.heap.size, 0, none⟩) n n) (w.alloc (.cells (ints (List.replicate n 0)) 3 (0, 0))) := by
  obtain ⟨i, hi, hz, hs, hb⟩ := info_parts info_int
  have := run_make (P := Try.prog) w 24 3 i _ Try.underlying24 hi hz .i64 .i64 n n (by omega) (by omega) (by rw [hb]; omega) (by omega)
  rw [this, hs]
  simp only [Int.toNat_natCast]
  rw [made_ints]
def IntIs (n : Int) (w : World) (e : Ending) (w' : World) : Prop := e = .returned (.int .i64 n) ∧ w = w'
theorem ringLen_any (w : World) (r : Nat) (l : List Int) (F : Assn) (h : Sat w (ringA r l * F)) :
    Calls Try.prog 44 #[.pointer (some ⟨r, 0, none⟩)] w (IntIs l.length w) := by
  obtain ⟨g, h⟩ := h.ringOpen
  have hc : w.cell? ⟨r, 0, none⟩ = some (.slice (some ⟨g, 0, none⟩) l.length l.length) := h.cell 0
  clear h
  go_enter Try.func44, Try.ntmps44
  go_wp2
  go_ret
  exact ⟨rfl, rfl⟩
theorem emod_of_tmod {a n : Int} (hn : 0 < n) : a % n = if a.tmod n < 0 then a.tmod n + n else a.tmod n := by
  rw [Int.tmod_eq_emod]
  have h1 := Int.emod_nonneg a (by omega : n ≠ 0)
  have h2 := Int.emod_lt_of_pos a hn
  split <;> split <;> omega
theorem place_any (w : World) (r : Nat) (l : List Int) (a : Int) (F : Assn) (h : Sat w (ringA r l * F)) (h0 : 0 < l.length) (h1 : l.length ≤ 1048576) :
    Calls Try.prog 71 #[.pointer (some ⟨r, 0, none⟩), .int .i64 a] w (IntIs (a % (l.length : Int)) w) := by
  obtain ⟨g, h⟩ := h.ringOpen
  have hc : w.cell? ⟨r, 0, none⟩ = some (.slice (some ⟨g, 0, none⟩) l.length l.length) := h.cell 0
  have hn0 : 0 < (l.length : Int) := by omega
  have hn1 : (l.length : Int) ≤ 1048576 := by omega
  have he := emod_of_tmod (a := a) hn0
  have ht1 : -(l.length : Int) < a.tmod l.length ∧ a.tmod l.length < l.length := by
    rw [Int.tmod_eq_emod]
    have h1 := Int.emod_nonneg a (by omega : (l.length : Int) ≠ 0)
    have h2 := Int.emod_lt_of_pos a hn0
    split <;> omega
  obtain ⟨ht1, ht2⟩ := ht1
  rw [he]
  clear h he
  have ht3 : -1048576 ≤ a.tmod l.length := by omega
  have ht4 : a.tmod l.length ≤ 1048576 := by omega
  by_cases hlt : a.tmod l.length < 0
  · rw [if_pos hlt]
    go_enter Try.func71, Try.ntmps71
    go_wp2
    go_ret
    exact ⟨rfl, rfl⟩
  · rw [if_neg hlt]
    go_enter Try.func71, Try.ntmps71
    go_wp2
    go_ret
    exact ⟨rfl, rfl⟩
theorem mod_nat (a : Int) {n : Nat} (h0 : 0 < n) : ∃ k : Nat, a % (n : Int) = (k : Int) ∧ k < n := by
  obtain ⟨k, hk⟩ := Int.eq_ofNat_of_zero_le (Int.emod_nonneg a (by omega : (n : Int) ≠ 0))
  exact ⟨k, hk, by have := Int.emod_lt_of_pos a (by omega : (0 : Int) < n); omega⟩
theorem place_enters : ∀ args w, (callFunc 71 args).run Try.prog w = .ok (.enter 71 args) w := enters Try.func71 (by kernel_rfl) rfl
theorem get_any (w : World) (r : Nat) (l : List Int) (a : Int) (F : Assn) (h : Sat w (ringA r l * F)) (h0 : 0 < l.length) (h1 : l.length ≤ 1048576) :
    Calls Try.prog 78 #[.pointer (some ⟨r, 0, none⟩), .int .i64 a] w fun e w' => e = .returned (.int .i64 (l.getD (a % (l.length : Int)).toNat 0)) ∧ Sat w' (whole w) ∧ Side w w' := by
  obtain ⟨k, hk, hkl⟩ := mod_nat a h0
  have hp := place_any w r l a F h h0 h1
  rw [hk] at hp
  obtain ⟨g, hg⟩ := h.ringOpen
  have hc : w.cell? ⟨r, 0, none⟩ = some (.slice (some ⟨g, 0, none⟩) l.length l.length) := hg.cell 0
  have hv : w.cell? ⟨g, k, none⟩ = some (.int .i64 (l.getD k 0)) := (hg.front2.cell k).trans (get_ints_lt hkl)
  have hkl' : (k : Int) < (l.length : Int) := by omega
  have hpd : Calls Try.prog 71 #[.pointer (some ⟨r, 0, none⟩), .int .i64 a] w.drew (IntIs k w.drew) := by
    have := place_any w.drew r l a F h h0 h1
    rwa [hk] at this
  rw [hk, Int.toNat_natCast]
  generalize l.getD k 0 = v at hv
  clear h hg hk
  go_enter Try.func78, Try.ntmps78
  go_wp2_with fail
  go_region_held3 (fun w' => w'.cell? ⟨r, 0, none⟩ = some (.slice (some ⟨g, 0, none⟩) l.length l.length) ∧ w'.cell? ⟨g, k, none⟩ = some (.int .i64 v)) (first | assumption | exact ⟨hc, hv⟩) (first
    | (go_at_call 71; (with_reducible refine hpd.mono ?_); rintro e w1 ⟨rfl, rfl⟩))
  go_wp2
  go_ret
  exact ⟨rfl, (Sat.whole w).drew, (Side.refl w).drew⟩
set_option maxRecDepth 100000 in
theorem set_any (w : World) (r : Nat) (l : List Int) (a x : Int) (F : Assn) (h : Sat w (ringA r l * F)) (h0 : 0 < l.length) (h1 : l.length ≤ 1048576) :
    Calls Try.prog 41 #[.pointer (some ⟨r, 0, none⟩), .int .i64 a, .int .i64 x] w fun e w' => e = .returned (.tuple #[]) ∧ Sat w' (ringA r (l.set (a % (l.length : Int)).toNat x) * F) ∧ Side w w' := by
  obtain ⟨k, hk, hkl⟩ := mod_nat a h0
  have hpd : Calls Try.prog 71 #[.pointer (some ⟨r, 0, none⟩), .int .i64 a] w.drew (IntIs k w.drew) := by
    have := place_any w.drew r l a F h h0 h1
    rwa [hk] at this
  obtain ⟨g, hg⟩ := h.ringOpen
  have hc : w.cell? ⟨r, 0, none⟩ = some (.slice (some ⟨g, 0, none⟩) l.length l.length) := hg.cell 0
  have hv : w.cell? ⟨g, k, none⟩ = some (.int .i64 (l.getD k 0)) := (hg.front2.cell k).trans (get_ints_lt hkl)
  have hf : w.frozen? ⟨g, k, none⟩ = false := hg.front2.frozen k
  have hkl' : (k : Int) < (l.length : Int) := by omega
  have h2 := (hg.front2.setCell k (.int .i64 x)).front2
  have hc2 := h2.cell 0
  have H2 := SL.hid h2
  rw [hk, Int.toNat_natCast]
  generalize l.getD k 0 = v at hv
  clear h hg hk h2
  go_enter Try.func41, Try.ntmps41
  go_region_held3 (fun w' => w'.cell? ⟨r, 0, none⟩ = some (.slice (some ⟨g, 0, none⟩) l.length l.length)) (first | assumption | exact hc | exact hc2) (first
    | (go_at_call 71; (with_reducible refine hpd.mono ?_); rintro e w1 ⟨rfl, rfl⟩))
  go_wp2
  go_end0
  have e : (l.set k x).length = l.length := List.length_set
  refine ⟨rfl, Sat.ringShut (g := g) ?_, ((Side.refl w).setCell _ _).drew⟩
  rw [e, ← set_ints]
  exact H2.out
theorem go_any (w : World) (r : Nat) (l : List Int) (a b : Int) (F : Assn) (h : Sat w (ringA r l * F)) (h0 : 0 < l.length) (h1 : l.length ≤ 1048576) :
    Calls Try.prog 50 #[.pointer (some ⟨r, 0, none⟩), .int .i64 a, .int .i64 b] w (IntIs ((a + b) % (l.length : Int)) w) := by
  have p1 := place_any w r l a F h h0 h1
  have p2 := place_any w r l b F h h0 h1
  have p3 := place_any w r l (a % (l.length : Int) + b % (l.length : Int)) F h h0 h1
  rw [← Int.add_emod] at p3
  have a1 := Int.emod_nonneg a (by omega : (l.length : Int) ≠ 0)
  have a2 := Int.emod_lt_of_pos a (by omega : (0 : Int) < l.length)
  have b1 := Int.emod_nonneg b (by omega : (l.length : Int) ≠ 0)
  have b2 := Int.emod_lt_of_pos b (by omega : (0 : Int) < l.length)
  have a3 : a % (l.length : Int) ≤ 1048576 := by omega
  have b3 : b % (l.length : Int) ≤ 1048576 := by omega
  generalize (a + b) % (l.length : Int) = s at p3 ⊢
  generalize a % (l.length : Int) = ra at *
  generalize b % (l.length : Int) = rb at *
  clear h a2 b2
  go_enter Try.func50, Try.ntmps50
  go_wp2_with fail
  refine p1.mono ?_
  rintro e w1 ⟨rfl, rfl⟩
  clear p1
  go_wp2_with fail
  refine p2.mono ?_
  rintro e w1 ⟨rfl, rfl⟩
  clear p2
  go_wp2_with fail
  refine p3.mono ?_
  rintro e w1 ⟨rfl, rfl⟩
  clear p3
  go_wp2
  go_ret
  exact ⟨rfl, rfl⟩
/-- A new ring. -/
def RingNewQ (n : Nat) (v : Int) (w : World) (e : Ending) (w' : World) : Prop := ∃ r, e = .returned (.pointer (some ⟨r, 0, none⟩)) ∧ Sat w' (ringA r (List.replicate n v) * whole w) ∧ Side w w'
def RingNewRel (g r : Nat) (n : Nat) (v : Int) (w : World) (u : Value) (wr : World) : Prop :=
  ∃ k : Nat, k ≤ n ∧ u = .int .i64 k ∧ Sat wr (ringX g r (List.replicate k v ++ List.replicate (n - k) 0) * whole w) ∧ Side w wr
theorem fill_next (n k : Nat) (v : Int) (h : k < n) : (List.replicate k v ++ List.replicate (n - k) (0 : Int)).set k v = List.replicate (k + 1) v ++ List.replicate (n - (k + 1)) 0 := by
  have e : n - k = (n - (k + 1)) + 1 := by omega
  rw [e, List.replicate_succ, List.set_append_right _ _ (by simp)]
  simp [List.replicate_succ']
set_option maxRecDepth 100000 in
set_option maxHeartbeats 1000000 in
theorem ringNew_any (n : Nat) (v : Int) (w : World) (h1 : 1 ≤ n) (h2 : n ≤ 1048576) :
    Calls Try.prog 39 #[.int .i64 n, .int .i64 v] w (RingNewQ n v w) := by
  have hn1 : (1 : Int) ≤ (n : Int) := by omega
  have hn2 : (n : Int) ≤ 1048576 := by omega
  have hmk := make_ints n h2 w
  have hA := ((Sat.whole w).alloc (.cells (ints (List.replicate n 0)) 3 (0, 0))).alloc (.cells #[.slice (some ⟨w.heap.size, 0, none⟩) n n] 144 (0, 0))
  have hs := ((Side.refl w).alloc (.cells (ints (List.replicate n 0)) 3 (0, 0))).alloc (.cells #[.slice (some ⟨w.heap.size, 0, none⟩) n n] 144 (0, 0))
  rw [World.size_alloc] at hA
  go_enter Try.func39, Try.ntmps39
  go_wp2
  generalize (w.alloc (.cells (ints (List.replicate n 0)) 3 (0, 0))).alloc (.cells #[.slice (some ⟨w.heap.size, 0, none⟩) n n] 144 (0, 0)) = w1 at hA hs ⊢
  generalize w.heap.size + 1 = r at hA ⊢
  generalize w.heap.size = g at hA ⊢
  clear hmk
  go_loopw [18] (fun u wr => RingNewRel g r n v w u wr) (fun u _ => n - (intOf u).toNat)
  case atStart => exact ⟨0, Nat.zero_le _, rfl, hA.to (by unfold ringX; simp only [List.replicate_zero, List.nil_append, Nat.sub_zero, List.length_replicate]; ac_rfl), hs⟩
  case round =>
    obtain ⟨k, hk, rfl, hsat, hside⟩ := hrel
    clear hA hs
    have hl : (List.replicate k v ++ List.replicate (n - k) (0 : Int)).length = n := by simp; omega
    have h3 : Sat wr (pt g (.cells (ints (List.replicate k v ++ List.replicate (n - k) 0)) 3 (0, 0)) * (pt r (.cells #[.slice (some ⟨g, 0, none⟩) n n] 144 (0, 0)) * whole w)) := by
      unfold ringX at hsat; rw [hl] at hsat; exact hsat.to (by ac_rfl)
    have hc := h3.front2.cell 0
    by_cases hlt : k < n
    · have hlt' : (k : Int) < (n : Int) := by omega
      have hv : wr.cell? ⟨g, k, none⟩ = some (.int .i64 ((List.replicate k v ++ List.replicate (n - k) (0 : Int)).getD k 0)) := (h3.cell k).trans (get_ints_lt (by rw [hl]; exact hlt))
      have hf := h3.frozen k
      generalize (List.replicate k v ++ List.replicate (n - k) (0 : Int)).getD k 0 = q at hv
      have h4 := h3.setCell k (.int .i64 v)
      rw [set_ints, fill_next n k v hlt] at h4
      have H4 := SL.hid h4; have Hl := SL.hid hl
      clear h3 hsat h4 hl
      go_wp2
      go_roundw
      case rel =>
        refine ⟨k + 1, by omega, by go_num, H4.out.to ?_, hside.setCell _ _⟩
        have e : (List.replicate (k + 1) v ++ List.replicate (n - (k + 1)) (0 : Int)).length = n := by simp; omega
        unfold ringX; rw [e]; ac_rfl
      case measure => simp [intOf]; omega
    · obtain rfl : k = n := by omega
      rw [Nat.sub_self, List.replicate_zero, List.append_nil] at hsat
      have H4 := SL.hid hsat
      clear h3 hsat hl hlt
      go_wp2
      go_ret
      exact ⟨r, rfl, H4.out.weak fun _ p => ⟨g, p⟩, hside⟩
end Go.Proofs.Ytlfooilcngjeiaa

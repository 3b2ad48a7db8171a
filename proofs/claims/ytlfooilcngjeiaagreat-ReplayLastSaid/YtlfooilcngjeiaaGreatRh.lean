/- ring: what its functions do. ring: From, as an iterator. -/
import Derived.Test.YtlfooilcngjeiaaGreatDe
namespace Go.SL
set_option linter.unusedVariables false
set_option linter.unusedSimpArgs false
open Go.RowKit
def ringX (g r : Nat) (l : List Int) : Assn := pt r (.cells #[.slice (some ⟨g, 0, none⟩) l.length l.length] 113 (0, 0)) * pt g (.cells (ints l) 3 (0, 0))
def ringA (r : Nat) (l : List Int) : Assn := ex fun g => ringX g r l
theorem Sat.ringOpen {w : World} {r : Nat} {l : List Int} {F : Assn} (h : Sat w (ringA r l * F)) : ∃ g, Sat w (pt r (.cells #[.slice (some ⟨g, 0, none⟩) l.length l.length] 113 (0, 0)) * (pt g (.cells (ints l) 3 (0, 0)) * F)) := by
  obtain ⟨g, h⟩ := Sat.ex_star_iff.1 h
  exact ⟨g, h.to (star_assoc _ _ _)⟩
theorem Sat.ringShut {w : World} {g r : Nat} {l : List Int} {F : Assn} (h : Sat w (pt r (.cells #[.slice (some ⟨g, 0, none⟩) l.length l.length] 113 (0, 0)) * (pt g (.cells (ints l) 3 (0, 0)) * F))) : Sat w (ringA r l * F) :=
  Sat.ex_star_iff.2 ⟨g, h.to (star_assoc _ _ _).symm⟩
end Go.SL
namespace Go.Proofs.YtlfooilcngjeiaaGreat
set_option linter.unusedVariables false
set_option linter.unusedSimpArgs false
open Go.RowKit Go.SL
theorem info_int : (Tryz.prog.info? 3).map (fun i => (i.zero, i.size, i.bytes)) = some (some (.int .i64 0), 1, 8) := by kernel_rfl
theorem make_ints (n : Nat) (hn : n ≤ 1048576) (w : World) : (Instr.makeSlice 33 (.int .i64 n) (.int .i64 n)).run Tryz.prog w =
    .ok (.slice (some ⟨w.heap.size, 0, none⟩) n n) (w.alloc (.cells (ints (List.replicate n 0)) 3 (0, 0))) := by
  obtain ⟨i, hi, hz, hs, hb⟩ := info_parts info_int
  have := run_make (P := Tryz.prog) w 33 3 i _ Tryz.underlying33 hi hz .i64 .i64 n n (by omega) (by omega) (by rw [hb]; omega) (by omega)
  rw [this, hs]
  simp only [Int.toNat_natCast]
  rw [made_ints]
theorem ringLen_any (w : World) (r : Nat) (l : List Int) (F : Assn) (h : Sat w (ringA r l * F)) :
    Calls Tryz.prog 55 #[.pointer (some ⟨r, 0, none⟩)] w (IntIs l.length w) := by
  obtain ⟨g, h⟩ := h.ringOpen
  have hc : w.cell? ⟨r, 0, none⟩ = some (.slice (some ⟨g, 0, none⟩) l.length l.length) := h.cell 0
  clear h
  go_enter Tryz.func55, Tryz.ntmps55
  go_wp2
  go_ret
  exact ⟨rfl, rfl⟩
theorem emod_of_tmod {a n : Int} (hn : 0 < n) : a % n = if a.tmod n < 0 then a.tmod n + n else a.tmod n := by
  rw [Int.tmod_eq_emod]
  have h1 := Int.emod_nonneg a (by omega : n ≠ 0)
  have h2 := Int.emod_lt_of_pos a hn
  split <;> split <;> omega
theorem place_any (w : World) (r : Nat) (l : List Int) (a : Int) (F : Assn) (h : Sat w (ringA r l * F)) (h0 : 0 < l.length) (h1 : l.length ≤ 1048576) :
    Calls Tryz.prog 48 #[.pointer (some ⟨r, 0, none⟩), .int .i64 a] w (IntIs (a % (l.length : Int)) w) := by
  obtain ⟨g, h⟩ := h.ringOpen
  have hc : w.cell? ⟨r, 0, none⟩ = some (.slice (some ⟨g, 0, none⟩) l.length l.length) := h.cell 0
  have hn0 : 0 < (l.length : Int) := by omega
  have hn1 : (l.length : Int) ≤ 1048576 := by omega
  have he := emod_of_tmod (a := a) hn0
  have ht1 : -(l.length : Int) < a.tmod l.length ∧ a.tmod l.length < l.length := by
    rw [Int.tmod_eq_emod]
    have h1 := Int.emod_nonneg a (by omega : (l.length : Int) ≠ 0)
    have h2 := Int.emod_lt_of_pos a hn0
    split <;> omega
  obtain ⟨ht1, ht2⟩ := ht1
  rw [he]
  clear h he
  have ht3 : -1048576 ≤ a.tmod l.length := by omega
  have ht4 : a.tmod l.length ≤ 1048576 := by omega
  by_cases hlt : a.tmod l.length < 0
  · rw [if_pos hlt]
    go_enter Tryz.func48, Tryz.ntmps48
    go_wp2
    go_ret
    exact ⟨rfl, rfl⟩
  · rw [if_neg hlt]
    go_enter Tryz.func48, Tryz.ntmps48
    go_wp2
    go_ret
    exact ⟨rfl, rfl⟩
theorem mod_nat (a : Int) {n : Nat} (h0 : 0 < n) : ∃ k : Nat, a % (n : Int) = (k : Int) ∧ k < n := by
  obtain ⟨k, hk⟩ := Int.eq_ofNat_of_zero_le (Int.emod_nonneg a (by omega : (n : Int) ≠ 0))
  exact ⟨k, hk, by have := Int.emod_lt_of_pos a (by omega : (0 : Int) < n); omega⟩
theorem place_enters : ∀ args w, (callFunc 48 args).run Tryz.prog w = .ok (.enter 48 args) w := enters Tryz.func48 (by kernel_rfl) rfl
theorem get_any (w : World) (r : Nat) (l : List Int) (a : Int) (F : Assn) (h : Sat w (ringA r l * F)) (h0 : 0 < l.length) (h1 : l.length ≤ 1048576) :
    Calls Tryz.prog 56 #[.pointer (some ⟨r, 0, none⟩), .int .i64 a] w fun e w' => e = .returned (.int .i64 (l.getD (a % (l.length : Int)).toNat 0)) ∧ Sat w' (whole w) ∧ Side w w' := by
  obtain ⟨k, hk, hkl⟩ := mod_nat a h0
  have hp := place_any w r l a F h h0 h1
  rw [hk] at hp
  obtain ⟨g, hg⟩ := h.ringOpen
  have hc : w.cell? ⟨r, 0, none⟩ = some (.slice (some ⟨g, 0, none⟩) l.length l.length) := hg.cell 0
  have hv : w.cell? ⟨g, k, none⟩ = some (.int .i64 (l.getD k 0)) := (hg.front2.cell k).trans (get_ints_lt hkl)
  have hkl' : (k : Int) < (l.length : Int) := by omega
  have hpd : Calls Tryz.prog 48 #[.pointer (some ⟨r, 0, none⟩), .int .i64 a] w.drew (IntIs k w.drew) := by
    have := place_any w.drew r l a F h h0 h1
    rwa [hk] at this
  rw [hk, Int.toNat_natCast]
  generalize l.getD k 0 = v at hv
  clear h hg hk
  go_enter Tryz.func56, Tryz.ntmps56
  go_wp2_with fail
  go_region_held3 (fun w' => w'.cell? ⟨r, 0, none⟩ = some (.slice (some ⟨g, 0, none⟩) l.length l.length) ∧ w'.cell? ⟨g, k, none⟩ = some (.int .i64 v)) (first | assumption | exact ⟨hc, hv⟩) (first
    | (go_at_call 48; (with_reducible refine hpd.mono ?_); rintro e w1 ⟨rfl, rfl⟩))
  go_wp2
  go_ret
  exact ⟨rfl, (Sat.whole w).drew, (Side.refl w).drew⟩
set_option maxRecDepth 100000 in
theorem set_any (w : World) (r : Nat) (l : List Int) (a x : Int) (F : Assn) (h : Sat w (ringA r l * F)) (h0 : 0 < l.length) (h1 : l.length ≤ 1048576) :
    Calls Tryz.prog 23 #[.pointer (some ⟨r, 0, none⟩), .int .i64 a, .int .i64 x] w fun e w' => e = .returned (.tuple #[]) ∧ Sat w' (ringA r (l.set (a % (l.length : Int)).toNat x) * F) ∧ Side w w' := by
  obtain ⟨k, hk, hkl⟩ := mod_nat a h0
  have hpd : Calls Tryz.prog 48 #[.pointer (some ⟨r, 0, none⟩), .int .i64 a] w.drew (IntIs k w.drew) := by
    have := place_any w.drew r l a F h h0 h1
    rwa [hk] at this
  obtain ⟨g, hg⟩ := h.ringOpen
  have hc : w.cell? ⟨r, 0, none⟩ = some (.slice (some ⟨g, 0, none⟩) l.length l.length) := hg.cell 0
  have hv : w.cell? ⟨g, k, none⟩ = some (.int .i64 (l.getD k 0)) := (hg.front2.cell k).trans (get_ints_lt hkl)
  have hf : w.frozen? ⟨g, k, none⟩ = false := hg.front2.frozen k
  have hkl' : (k : Int) < (l.length : Int) := by omega
  have h2 := (hg.front2.setCell k (.int .i64 x)).front2
  have hc2 := h2.cell 0
  have H2 := SL.hid h2
  rw [hk, Int.toNat_natCast]
  generalize l.getD k 0 = v at hv
  clear h hg hk h2
  go_enter Tryz.func23, Tryz.ntmps23
  go_region_held3 (fun w' => w'.cell? ⟨r, 0, none⟩ = some (.slice (some ⟨g, 0, none⟩) l.length l.length)) (first | assumption | exact hc | exact hc2) (first
    | (go_at_call 48; (with_reducible refine hpd.mono ?_); rintro e w1 ⟨rfl, rfl⟩))
  go_wp2
  go_end0
  have e : (l.set k x).length = l.length := List.length_set
  refine ⟨rfl, Sat.ringShut (g := g) ?_, ((Side.refl w).setCell _ _).drew⟩
  rw [e, ← set_ints]
  exact H2.out
theorem go_any (w : World) (r : Nat) (l : List Int) (a b : Int) (F : Assn) (h : Sat w (ringA r l * F)) (h0 : 0 < l.length) (h1 : l.length ≤ 1048576) :
    Calls Tryz.prog 31 #[.pointer (some ⟨r, 0, none⟩), .int .i64 a, .int .i64 b] w (IntIs ((a + b) % (l.length : Int)) w) := by
  have p1 := place_any w r l a F h h0 h1
  have p2 := place_any w r l b F h h0 h1
  have p3 := place_any w r l (a % (l.length : Int) + b % (l.length : Int)) F h h0 h1
  rw [← Int.add_emod] at p3
  have a1 := Int.emod_nonneg a (by omega : (l.length : Int) ≠ 0)
  have a2 := Int.emod_lt_of_pos a (by omega : (0 : Int) < l.length)
  have b1 := Int.emod_nonneg b (by omega : (l.length : Int) ≠ 0)
  have b2 := Int.emod_lt_of_pos b (by omega : (0 : Int) < l.length)
  have a3 : a % (l.length : Int) ≤ 1048576 := by omega
  have b3 : b % (l.length : Int) ≤ 1048576 := by omega
  generalize (a + b) % (l.length : Int) = s at p3 ⊢
  generalize a % (l.length : Int) = ra at *
  generalize b % (l.length : Int) = rb at *
  clear h a2 b2
  go_enter Tryz.func31, Tryz.ntmps31
  go_wp2_with fail
  refine p1.mono ?_
  rintro e w1 ⟨rfl, rfl⟩
  clear p1
  go_wp2_with fail
  refine p2.mono ?_
  rintro e w1 ⟨rfl, rfl⟩
  clear p2
  go_wp2_with fail
  refine p3.mono ?_
  rintro e w1 ⟨rfl, rfl⟩
  clear p3
  go_wp2
  go_ret
  exact ⟨rfl, rfl⟩
/-- A new ring. -/
def RingNewQ (n : Nat) (v : Int) (w : World) (e : Ending) (w' : World) : Prop := ∃ r, e = .returned (.pointer (some ⟨r, 0, none⟩)) ∧ Sat w' (ringA r (List.replicate n v) * whole w) ∧ Side w w'
def RingNewRel (g r : Nat) (n : Nat) (v : Int) (w : World) (u : Value) (wr : World) : Prop :=
  ∃ k : Nat, k ≤ n ∧ u = .int .i64 k ∧ Sat wr (ringX g r (List.replicate k v ++ List.replicate (n - k) 0) * whole w) ∧ Side w wr
theorem fill_next (n k : Nat) (v : Int) (h : k < n) : (List.replicate k v ++ List.replicate (n - k) (0 : Int)).set k v = List.replicate (k + 1) v ++ List.replicate (n - (k + 1)) 0 := by
  have e : n - k = (n - (k + 1)) + 1 := by omega
  rw [e, List.replicate_succ, List.set_append_right _ _ (by simp)]
  simp [List.replicate_succ']
set_option maxRecDepth 100000 in
set_option maxHeartbeats 1000000 in
theorem ringNew_any (n : Nat) (v : Int) (w : World) (h1 : 1 ≤ n) (h2 : n ≤ 1048576) :
    Calls Tryz.prog 21 #[.int .i64 n, .int .i64 v] w (RingNewQ n v w) := by
  have hn1 : (1 : Int) ≤ (n : Int) := by omega
  have hn2 : (n : Int) ≤ 1048576 := by omega
  have hmk := make_ints n h2 w
  have hA := ((Sat.whole w).alloc (.cells (ints (List.replicate n 0)) 3 (0, 0))).alloc (.cells #[.slice (some ⟨w.heap.size, 0, none⟩) n n] 113 (0, 0))
  have hs := ((Side.refl w).alloc (.cells (ints (List.replicate n 0)) 3 (0, 0))).alloc (.cells #[.slice (some ⟨w.heap.size, 0, none⟩) n n] 113 (0, 0))
  rw [World.size_alloc] at hA
  go_enter Tryz.func21, Tryz.ntmps21
  go_wp2
  generalize (w.alloc (.cells (ints (List.replicate n 0)) 3 (0, 0))).alloc (.cells #[.slice (some ⟨w.heap.size, 0, none⟩) n n] 113 (0, 0)) = w1 at hA hs ⊢
  generalize w.heap.size + 1 = r at hA ⊢
  generalize w.heap.size = g at hA ⊢
  clear hmk
  go_loopw [18] (fun u wr => RingNewRel g r n v w u wr) (fun u _ => n - (intOf u).toNat)
  case atStart => exact ⟨0, Nat.zero_le _, rfl, hA.to (by unfold ringX; simp only [List.replicate_zero, List.nil_append, Nat.sub_zero, List.length_replicate]; ac_rfl), hs⟩
  case round =>
    obtain ⟨k, hk, rfl, hsat, hside⟩ := hrel
    clear hA hs
    have hl : (List.replicate k v ++ List.replicate (n - k) (0 : Int)).length = n := by simp; omega
    have h3 : Sat wr (pt g (.cells (ints (List.replicate k v ++ List.replicate (n - k) 0)) 3 (0, 0)) * (pt r (.cells #[.slice (some ⟨g, 0, none⟩) n n] 113 (0, 0)) * whole w)) := by
      unfold ringX at hsat; rw [hl] at hsat; exact hsat.to (by ac_rfl)
    have hc := h3.front2.cell 0
    by_cases hlt : k < n
    · have hlt' : (k : Int) < (n : Int) := by omega
      have hv : wr.cell? ⟨g, k, none⟩ = some (.int .i64 ((List.replicate k v ++ List.replicate (n - k) (0 : Int)).getD k 0)) := (h3.cell k).trans (get_ints_lt (by rw [hl]; exact hlt))
      have hf := h3.frozen k
      generalize (List.replicate k v ++ List.replicate (n - k) (0 : Int)).getD k 0 = q at hv
      have h4 := h3.setCell k (.int .i64 v)
      rw [set_ints, fill_next n k v hlt] at h4
      have H4 := SL.hid h4; have Hl := SL.hid hl
      clear h3 hsat h4 hl
      go_wp2
      go_roundw
      case rel =>
        refine ⟨k + 1, by omega, by go_num, H4.out.to ?_, hside.setCell _ _⟩
        have e : (List.replicate (k + 1) v ++ List.replicate (n - (k + 1)) (0 : Int)).length = n := by simp; omega
        unfold ringX; rw [e]; ac_rfl
      case measure => simp [intOf]; omega
    · obtain rfl : k = n := by omega
      rw [Nat.sub_self, List.replicate_zero, List.append_nil] at hsat
      have H4 := SL.hid hsat
      clear h3 hsat hl hlt
      go_wp2
      go_ret
      exact ⟨r, rfl, H4.out.weak fun _ p => ⟨g, p⟩, hside⟩
end Go.Proofs.YtlfooilcngjeiaaGreat
namespace Go.Proofs.YtlfooilcngjeiaaGreat
set_option linter.unusedVariables false
set_option linter.unusedSimpArgs false
open Go.RowKit Go.SL
attribute [local go_sem] Oper.semAt_some
/-- What the iterator reads. -/
def FromIt (b5 b3 b7 r : Nat) (m first : Nat) : Assn :=
  pt b5 (.cells #[.int .i64 (m : Int)] 3 (0, 0)) * (pt b3 (.cells #[.pointer (some ⟨r, 0, none⟩)] 67 (0, 0)) * pt b7 (.cells #[.int .i64 (first : Int)] 3 (0, 0)))
def FromQ (r : Nat) (l : List Int) (m first : Nat) (F : Assn) (w : World) (e : Ending) (w' : World) : Prop :=
  ∃ b5 b3 b7, e = .returned (.func (.func 91) #[] #[.pointer (some ⟨b5, 0, none⟩), .pointer (some ⟨b3, 0, none⟩), .pointer (some ⟨b7, 0, none⟩)]) ∧ Sat w' (FromIt b5 b3 b7 r m first * (ringA r l * F)) ∧ Side w w'
theorem ringLen_enters : ∀ args w, (callFunc 55 args).run Tryz.prog w = .ok (.enter 55 args) w := enters Tryz.func55 (by kernel_rfl) rfl
set_option maxRecDepth 100000 in
set_option maxHeartbeats 1000000 in
theorem from_any (w : World) (r : Nat) (l : List Int) (a : Int) (m : Nat) (F : Assn) (h : Sat w (ringA r l * F)) (h0 : 0 < l.length) (h1 : l.length ≤ 1048576) (hm : m ≤ l.length) :
    Calls Tryz.prog 77 #[.pointer (some ⟨r, 0, none⟩), .int .i64 a, .int .i64 m] w (FromQ r l m (a % (l.length : Int)).toNat F w) := by
  obtain ⟨k, hk, hkl⟩ := mod_nat a h0
  have hA := (h.alloc (.cells #[.pointer (some ⟨r, 0, none⟩)] 67 (0, 0))).alloc (.cells #[.int .i64 m] 3 (0, 0))
  have hs := ((Side.refl w).alloc (.cells #[.pointer (some ⟨r, 0, none⟩)] 67 (0, 0))).alloc (.cells #[.int .i64 m] 3 (0, 0))
  rw [World.size_alloc] at hA
  rw [hk, Int.toNat_natCast]
  have hm0 : 0 ≤ (m : Int) := by omega
  have hm1 : (m : Int) ≤ (l.length : Int) := by omega
  go_enter Tryz.func77, Tryz.ntmps77
  go_wp2_with fail
  generalize (w.alloc (.cells #[.pointer (some ⟨r, 0, none⟩)] 67 (0, 0))).alloc (.cells #[.int .i64 m] 3 (0, 0)) = w1 at hA hs ⊢
  generalize w.heap.size + 1 = b5 at hA ⊢
  generalize w.heap.size = b3 at hA ⊢
  have hR : Sat w1 (ringA r l * (pt b3 (.cells #[.pointer (some ⟨r, 0, none⟩)] 67 (0, 0)) * (pt b5 (.cells #[.int .i64 m] 3 (0, 0)) * F))) := hA.to (by ac_rfl)
  have c5 : w1.cell? ⟨b5, 0, none⟩ = some (.int .i64 m) := hA.cell 0
  have f5 : w1.frozen? ⟨b5, 0, none⟩ = false := hA.frozen 0
  have c3 : w1.cell? ⟨b3, 0, none⟩ = some (.pointer (some ⟨r, 0, none⟩)) := hA.front2.cell 0
  have hlt5 : b5 < w1.heap.size := hA.lt
  have hlt3 : b3 < w1.heap.size := hA.front2.lt
  obtain ⟨BIG, hBIG⟩ : ∃ X, X = pt b5 (.cells #[.int .i64 m] 3 (0, 0)) * (pt b3 (.cells #[.pointer (some ⟨r, 0, none⟩)] 67 (0, 0)) * (ringA r l * F)) := ⟨_, rfl⟩
  have g5 : ∀ w', Sat w' BIG → w'.cell? ⟨b5, 0, none⟩ = some (.int .i64 m) := fun w' h => (hBIG ▸ h).cell 0
  have g3 : ∀ w', Sat w' BIG → w'.cell? ⟨b3, 0, none⟩ = some (.pointer (some ⟨r, 0, none⟩)) := fun w' h => (hBIG ▸ h).front2.cell 0
  have hA1 : Sat w1.drew BIG := hBIG ▸ hA
  have hA2 : Sat (w1.drew.alloc (.cells #[.int .i64 0] 3 (0, 0))) BIG := (hA1.alloc _).right
  have hA3 : Sat (w1.drew.alloc (.cells #[.int .i64 k] 3 (0, 0))) BIG := (hA1.alloc _).right
  have hA4 : Sat ((w1.setCell ⟨b5, 0, none⟩ (.int .i64 m)).alloc (.cells #[.int .i64 k] 3 (0, 0))).drew (pt w1.heap.size (.cells #[.int .i64 k] 3 (0, 0)) * BIG) := by
    have h := (hA.setCell 0 (.int .i64 m)).alloc (.cells #[.int .i64 k] 3 (0, 0))
    rw [show (w1.setCell ⟨b5, 0, none⟩ (.int .i64 m)).heap.size = w1.heap.size by simp [World.setCell]] at h
    rw [hBIG]
    exact h.to (by simp only [List.setIfInBounds_toArray, List.set_cons_zero])
  have hRB : ∀ w', Sat w' BIG → Sat w' (ringA r l * (pt b3 (.cells #[.pointer (some ⟨r, 0, none⟩)] 67 (0, 0)) * (pt b5 (.cells #[.int .i64 m] 3 (0, 0)) * F))) := fun w' h => (hBIG ▸ h).to (by ac_rfl)
  have Hp : Hid (∀ w', Sat w' BIG → Calls Tryz.prog 48 #[.pointer (some ⟨r, 0, none⟩), .int .i64 a] w' (IntIs k w')) := fun w' h => by
    have := place_any w' r l a _ (hRB w' h) h0 h1
    rwa [hk] at this
  have Hl : Hid (∀ w', Sat w' BIG → Calls Tryz.prog 55 #[.pointer (some ⟨r, 0, none⟩)] w' (IntIs l.length w')) := fun w' h => ringLen_any w' r l _ (hRB w' h)
  have hv0 : (if l.length < m then (l.length : Int) else (m : Int)) = (m : Int) := if_neg (by omega)
  have hv1 : (if (l.length : Int) < (if (m : Int) < 0 then 0 else (m : Int)) then (l.length : Int) else if (m : Int) < 0 then 0 else (m : Int)) = (m : Int) := by
    rw [if_neg (by omega : ¬ (m : Int) < 0), if_neg (by omega)]
  have Hv0 := SL.hid hv0
  have Hv1 := SL.hid hv1
  have HB := SL.hid hBIG
  clear h hk hR hA hBIG c5 c3 hRB hv0 hv1
  go_region_held3 (fun w' => Sat w' BIG) (first | assumption | (rw [Hv0.out]; exact hA4.right) | (rw [Hv1.out]; exact hA4.right) | exact hA4.right) (first
    | (go_at_call 48; (with_reducible refine (Hp.out _ (by assumption)).mono ?_); rintro e w2 ⟨rfl, rfl⟩)
    | (go_at_call 55; (with_reducible refine (Hl.out _ (by assumption)).mono ?_); rintro e w2 ⟨rfl, rfl⟩))
  all_goals
    first | rw [Hv0.out] | rw [Hv1.out]
    go_wp2
    go_ret
    refine ⟨b5, b3, w1.heap.size, rfl, ?_, ((hs.setCell _ _).alloc _).drew⟩
    exact hA4.to (by rw [HB.out]; unfold FromIt; ac_rfl)
/-- Places, from one on. -/
def places (n first m : Nat) : List Nat := (List.range m).map fun i => (first + i) % n
theorem places_length (n first m : Nat) : (places n first m).length = m := by simp [places]
theorem places_snoc (n first m k : Nat) (h : k < m) : (places n first m).take k ++ [(first + k) % n] = (places n first m).take (k + 1) := by
  rw [List.take_succ_eq_append_getElem (by rw [places_length]; exact h)]
  simp [places]
def fromT (l : List Int) (p : Nat) (vs : Array Value) : Assn := fact (vs = #[.int .i64 (p : Int), .int .i64 (l.getD p 0)])
def FromRel (A : List Nat → Assn) (n first m : Nat) (X : Assn) (w0 : World) (i : Value) (wr : World) : Prop :=
  ∃ k : Nat, k ≤ m ∧ i = .int .i64 (k : Int) ∧ Side w0 wr ∧ Sat wr (A ((places n first m).take k) * X)
set_option maxRecDepth 100000 in
set_option maxHeartbeats 2000000 in
theorem from_iter (n : Nat) (b5 b3 b7 r : Nat) (l : List Int) (m first : Nat) (h0 : 0 < l.length) (h1 : l.length ≤ 1048576) (hm : m ≤ l.length) (hf : first < l.length) :
    IteratesC (withR (ringA r l)) Fence.wide n Tryz.prog 91 #[.pointer (some ⟨b5, 0, none⟩), .pointer (some ⟨b3, 0, none⟩), .pointer (some ⟨b7, 0, none⟩)] (FromIt b5 b3 b7 r m first) (fromT l)
      (fun ys => ys = places l.length first m) (fun ys => ys <+: places l.length first m) := by
  rintro lp _ Ax G w0 w ⟨A, rfl⟩ hY hs h0'
  have hB : Sat w (pt b5 (.cells #[.int .i64 (m : Int)] 3 (0, 0)) * (pt b3 (.cells #[.pointer (some ⟨r, 0, none⟩)] 67 (0, 0)) * (pt b7 (.cells #[.int .i64 (first : Int)] 3 (0, 0)) * (ringA r l * (A [] * G))))) := h0'.to (by unfold FromIt; dsimp only; ac_rfl)
  have c5 := hB.cell 0
  have hm1 : (m : Int) ≤ 1048576 := by omega
  have hl1 : (l.length : Int) ≤ 1048576 := by omega
  clear hB
  refine callsIn_of_wp Tryz.func91 rfl trivial ?_ rfl
  simp only [Tryz.ntmps91, List.size_toArray, List.length_cons, List.length_nil, Nat.reduceAdd, Nat.reduceSub, Array.replicate_succ, Array.replicate_zero, List.push_toArray, List.append_toArray, List.nil_append, List.cons_append]
  gi_wp2
  gi_loopw [8] (fun i wr => FromRel (fun ys => ringA r l * A ys) l.length first m (FromIt b5 b3 b7 r m first * G) w0 i wr) (fun i _ => m - (intOf i).toNat)
  case atStart => exact ⟨0, Nat.zero_le _, rfl, hs, h0'⟩
  case round =>
    clear h0' c5
    obtain ⟨k, hk, rfl, hside, hsat⟩ := hrel
    replace hsat : Sat wr ((ringA r l * A ((places l.length first m).take k)) * (FromIt b5 b3 b7 r m first * G)) := hsat
    have hB : Sat wr (pt b5 (.cells #[.int .i64 (m : Int)] 3 (0, 0)) * (pt b3 (.cells #[.pointer (some ⟨r, 0, none⟩)] 67 (0, 0)) * (pt b7 (.cells #[.int .i64 (first : Int)] 3 (0, 0)) * (ringA r l * (A ((places l.length first m).take k) * G))))) := hsat.to (by unfold FromIt; ac_rfl)
    by_cases hlt : k < m
    · have hlt' : (k : Int) < (m : Int) := by omega
      have c3 := hB.front2.cell 0
      have c7 := hB.front3.cell 0
      have hgo := go_any wr r l (first : Int) (k : Int) _ hB.front4 h0 h1
      have hpk : ((first : Int) + (k : Int)) % (l.length : Int) = (((first + k) % l.length : Nat) : Int) := by simp
      rw [hpk] at hgo
      have hpl : (first + k) % l.length < l.length := Nat.mod_lt _ h0
      have hen := places_snoc l.length first m k hlt
      have hpre : (places l.length first m).take k ++ [(first + k) % l.length] <+: places l.length first m := by rw [hen]; exact List.take_prefix _ _
      generalize (first + k) % l.length = p at hgo hpl hen hpre
      have hpl' : (p : Int) < (l.length : Int) := by omega
      obtain ⟨g, hg⟩ := hB.front4.ringOpen
      have cr := hg.cell 0
      have cv : wr.cell? ⟨g, p, none⟩ = some (.int .i64 (l.getD p 0)) := (hg.front2.cell p).trans (get_ints_lt hpl)
      have hT : Sat wr ((ringA r l * A ((places l.length first m).take k)) * (fromT l p #[.int .i64 (p : Int), .int .i64 (l.getD p 0)] * (FromIt b5 b3 b7 r m first * G))) :=
        (Sat.fact_iff.2 ⟨rfl, hsat⟩ : Sat wr (fact _ * _)).to (by unfold fromT; ac_rfl)
      obtain ⟨fn, tmps, assign, body, hy, hR⟩ := hY _ p #[.int .i64 (p : Int), .int .i64 (l.getD p 0)] _ wr hpre hside hT
      have Hen := hid hen; have Hpre := hid hpre
      clear hT hsat hB hen hpre hg hpk
      generalize l.getD p 0 = v at cv hy
      gi_wp2_with fail
      refine callW hgo ?_
      rintro e w1 ⟨rfl, rfl⟩
      clear hgo
      gi_wp2
      refine ⟨fun h => (by cases h), hR.mono ?_⟩
      rintro e W' (⟨rfl, hs5, hsat5⟩ | ⟨rfl, hs5, hsat5⟩)
      · gi_wp2
        go_roundw
        case rel => exact ⟨k + 1, by omega, by go_num, hs5, by rw [← Hen.out]; exact hsat5⟩
        case measure => simp [intOf]; omega
      · gi_wp2
        refine bodyPost_ret (results_none rfl _ _ _) rfl ?_
        exact ⟨⟨_, rfl⟩, hs5, .inr ⟨_, Hpre.out, hsat5⟩⟩
    · obtain rfl : k = m := by omega
      have hfin : (places l.length first k).take k = places l.length first k := by
        have := places_length l.length first k
        exact List.take_of_length_le (by omega)
      rw [hfin] at hsat
      clear hB hfin
      gi_wp2
      go_end0
      exact ⟨⟨_, rfl⟩, hside, .inl ⟨_, rfl, hsat⟩⟩
end Go.Proofs.YtlfooilcngjeiaaGreat

/- Steps towards the statement StoreC. -/
import Derived.Test.YtdafdidmbeecfaaGreatDoorStoreCP10
section
namespace Go.SL
set_option linter.unusedVariables false
set_option linter.unusedSimpArgs false
open Go.RowKit
def ringX (g r : Nat) (l : List Int) : Assn := pt r (.cells #[.slice (some ⟨g, 0, none⟩) l.length l.length] 139 (0, 0)) * pt g (.cells (ints l) 3 (0, 0))
def ringA (r : Nat) (l : List Int) : Assn := ex fun g => ringX g r l
theorem Sat.ringOpen {w : World} {r : Nat} {l : List Int} {F : Assn} (h : Sat w (ringA r l * F)) : ∃ g, Sat w (pt r (.cells #[.slice (some ⟨g, 0, none⟩) l.length l.length] 139 (0, 0)) * (pt g (.cells (ints l) 3 (0, 0)) * F)) := by
 obtain ⟨g, h⟩ := Sat.ex_star_iff.1 h
 exact ⟨g, h.to (star_assoc _ _ _)⟩
theorem Sat.ringShut {w : World} {g r : Nat} {l : List Int} {F : Assn} (h : Sat w (pt r (.cells #[.slice (some ⟨g, 0, none⟩) l.length l.length] 139 (0, 0)) * (pt g (.cells (ints l) 3 (0, 0)) * F))) : Sat w (ringA r l * F) :=
 Sat.ex_star_iff.2 ⟨g, h.to (star_assoc _ _ _).symm⟩
end Go.SL
namespace Go.Proofs.YtdafdidmbeecfaaGreatDoor
set_option linter.unusedVariables false
set_option linter.unusedSimpArgs false
open Go.RowKit Go.SL
theorem info_int : (Tryz.prog.info? 3).map (fun i => (i.zero, i.size, i.bytes)) = some (some (.int .i64 0), 1, 8) := by kernel_rfl
theorem make_ints (n : Nat) (hn : n ≤ 1048576) (w : World) : (Instr.makeSlice 45 (.int .i64 n) (.int .i64 n)).run Tryz.prog w =
  .ok (.slice (some ⟨w.heap.size, 0, none⟩) n n) (w.alloc (.cells (ints (List.replicate n 0)) 3 (0, 0))) := by
 obtain ⟨i, hi, hz, hs, hb⟩ := info_parts info_int
 have := run_make (P := Tryz.prog) w 45 3 i _ Tryz.underlying45 hi hz .i64 .i64 n n (by omega) (by omega) (by rw [hb]; omega) (by omega)
 rw [this, hs]
 simp only [Int.toNat_natCast]
 rw [made_ints]
theorem ringLen_any (w : World) (r : Nat) (l : List Int) (F : Assn) (h : Sat w (ringA r l * F)) :
  Calls Tryz.prog 52 #[.pointer (some ⟨r, 0, none⟩)] w (IntIs l.length w) := by
 obtain ⟨g, h⟩ := h.ringOpen
 have hc : w.cell? ⟨r, 0, none⟩ = some (.slice (some ⟨g, 0, none⟩) l.length l.length) := h.cell 0
 clear h
 go_enter Tryz.func52, Tryz.ntmps52
 go_wp2
 go_ret
 exact ⟨rfl, rfl⟩
theorem emod_of_tmod {a n : Int} (hn : 0 < n) : a % n = if a.tmod n < 0 then a.tmod n + n else a.tmod n := by
 rw [Int.tmod_eq_emod]
 have h1 := Int.emod_nonneg a (by omega : n ≠ 0)
 have h2 := Int.emod_lt_of_pos a hn
 split <;> split <;> omega
theorem place_any (w : World) (r : Nat) (l : List Int) (a : Int) (F : Assn) (h : Sat w (ringA r l * F)) (h0 : 0 < l.length) (h1 : l.length ≤ 1048576) :
  Calls Tryz.prog 85 #[.pointer (some ⟨r, 0, none⟩), .int .i64 a] w (IntIs (a % (l.length : Int)) w) := by
 obtain ⟨g, h⟩ := h.ringOpen
 have hc : w.cell? ⟨r, 0, none⟩ = some (.slice (some ⟨g, 0, none⟩) l.length l.length) := h.cell 0
 have hn0 : 0 < (l.length : Int) := by omega
 have hn1 : (l.length : Int) ≤ 1048576 := by omega
 have he := emod_of_tmod (a := a) hn0
 have ht1 : -(l.length : Int) < a.tmod l.length ∧ a.tmod l.length < l.length := by
  rw [Int.tmod_eq_emod]
  have h1 := Int.emod_nonneg a (by omega : (l.length : Int) ≠ 0)
  have h2 := Int.emod_lt_of_pos a hn0
  split <;> omega
 obtain ⟨ht1, ht2⟩ := ht1
 rw [he]
 clear h he
 have ht3 : -1048576 ≤ a.tmod l.length := by omega
 have ht4 : a.tmod l.length ≤ 1048576 := by omega
 by_cases hlt : a.tmod l.length < 0
 ·rw [if_pos hlt]
  go_enter Tryz.func85, Tryz.ntmps85
  go_wp2
  go_ret
  exact ⟨rfl, rfl⟩
 ·rw [if_neg hlt]
  go_enter Tryz.func85, Tryz.ntmps85
  go_wp2
  go_ret
  exact ⟨rfl, rfl⟩
theorem mod_nat (a : Int) {n : Nat} (h0 : 0 < n) : ∃ k : Nat, a % (n : Int) = (k : Int) ∧ k < n := by
 obtain ⟨k, hk⟩ := Int.eq_ofNat_of_zero_le (Int.emod_nonneg a (by omega : (n : Int) ≠ 0))
 exact ⟨k, hk, by have := Int.emod_lt_of_pos a (by omega : (0 : Int) < n); omega⟩
theorem get_any (w : World) (r : Nat) (l : List Int) (a : Int) (F : Assn) (h : Sat w (ringA r l * F)) (h0 : 0 < l.length) (h1 : l.length ≤ 1048576) :
  Calls Tryz.prog 82 #[.pointer (some ⟨r, 0, none⟩), .int .i64 a] w fun e w' => e = .returned (.int .i64 (l.getD (a % (l.length : Int)).toNat 0)) ∧ Sat w' (whole w) ∧ Side w w' := by
 obtain ⟨k, hk, hkl⟩ := mod_nat a h0
 have hp := place_any w r l a F h h0 h1
 rw [hk] at hp
 obtain ⟨g, hg⟩ := h.ringOpen
 have hc : w.cell? ⟨r, 0, none⟩ = some (.slice (some ⟨g, 0, none⟩) l.length l.length) := hg.cell 0
 have hv : w.cell? ⟨g, k, none⟩ = some (.int .i64 (l.getD k 0)) := (hg.front2.cell k).trans (get_ints_lt hkl)
 have hkl' : (k : Int) < (l.length : Int) := by omega
 have hpd : Calls Tryz.prog 85 #[.pointer (some ⟨r, 0, none⟩), .int .i64 a] w.drew (IntIs k w.drew) := by
  have := place_any w.drew r l a F h h0 h1
  rwa [hk] at this
 rw [hk, Int.toNat_natCast]
 generalize l.getD k 0 = v at hv
 clear h hg hk
 go_enter Tryz.func82, Tryz.ntmps82
 go_wp2_with fail
 go_region_held3 (fun w' => w'.cell? ⟨r, 0, none⟩ = some (.slice (some ⟨g, 0, none⟩) l.length l.length) ∧ w'.cell? ⟨g, k, none⟩ = some (.int .i64 v)) (first | assumption | exact ⟨hc, hv⟩) (first
  | (go_at_call 85; (with_reducible refine hpd.mono ?_); rintro e w1 ⟨rfl, rfl⟩))
 go_wp2
 go_ret
 exact ⟨rfl, (Sat.whole w).drew, (Side.refl w).drew⟩
set_option maxRecDepth 100000 in
theorem set_any (w : World) (r : Nat) (l : List Int) (a x : Int) (F : Assn) (h : Sat w (ringA r l * F)) (h0 : 0 < l.length) (h1 : l.length ≤ 1048576) :
  Calls Tryz.prog 97 #[.pointer (some ⟨r, 0, none⟩), .int .i64 a, .int .i64 x] w fun e w' => e = .returned (.tuple #[]) ∧ Sat w' (ringA r (l.set (a % (l.length : Int)).toNat x) * F) ∧ Side w w' := by
 obtain ⟨k, hk, hkl⟩ := mod_nat a h0
 have hpd : Calls Tryz.prog 85 #[.pointer (some ⟨r, 0, none⟩), .int .i64 a] w.drew (IntIs k w.drew) := by
  have := place_any w.drew r l a F h h0 h1
  rwa [hk] at this
 obtain ⟨g, hg⟩ := h.ringOpen
 have hc : w.cell? ⟨r, 0, none⟩ = some (.slice (some ⟨g, 0, none⟩) l.length l.length) := hg.cell 0
 have hv : w.cell? ⟨g, k, none⟩ = some (.int .i64 (l.getD k 0)) := (hg.front2.cell k).trans (get_ints_lt hkl)
 have hf : w.frozen? ⟨g, k, none⟩ = false := hg.front2.frozen k
 have hkl' : (k : Int) < (l.length : Int) := by omega
 have h2 := (hg.front2.setCell k (.int .i64 x)).front2
 have hc2 := h2.cell 0
 have H2 := SL.hid h2
 rw [hk, Int.toNat_natCast]
 generalize l.getD k 0 = v at hv
 clear h hg hk h2
 go_enter Tryz.func97, Tryz.ntmps97
 go_region_held3 (fun w' => w'.cell? ⟨r, 0, none⟩ = some (.slice (some ⟨g, 0, none⟩) l.length l.length)) (first | assumption | exact hc | exact hc2) (first
  | (go_at_call 85; (with_reducible refine hpd.mono ?_); rintro e w1 ⟨rfl, rfl⟩))
 go_wp2
 go_end0
 have e : (l.set k x).length = l.length := List.length_set
 refine ⟨rfl, Sat.ringShut (g := g) ?_, ((Side.refl w).setCell _ _).drew⟩
 rw [e, ← set_ints]
 exact H2.out
theorem go_any (w : World) (r : Nat) (l : List Int) (a b : Int) (F : Assn) (h : Sat w (ringA r l * F)) (h0 : 0 < l.length) (h1 : l.length ≤ 1048576) :
  Calls Tryz.prog 59 #[.pointer (some ⟨r, 0, none⟩), .int .i64 a, .int .i64 b] w (IntIs ((a + b) % (l.length : Int)) w) := by
 have p1 := place_any w r l a F h h0 h1
 have p2 := place_any w r l b F h h0 h1
 have p3 := place_any w r l (a % (l.length : Int) + b % (l.length : Int)) F h h0 h1
 rw [← Int.add_emod] at p3
 have a1 := Int.emod_nonneg a (by omega : (l.length : Int) ≠ 0)
 have a2 := Int.emod_lt_of_pos a (by omega : (0 : Int) < l.length)
 have b1 := Int.emod_nonneg b (by omega : (l.length : Int) ≠ 0)
 have b2 := Int.emod_lt_of_pos b (by omega : (0 : Int) < l.length)
 have a3 : a % (l.length : Int) ≤ 1048576 := by omega
 have b3 : b % (l.length : Int) ≤ 1048576 := by omega
 generalize (a + b) % (l.length : Int) = s at p3 ⊢
 generalize a % (l.length : Int) = ra at *
 generalize b % (l.length : Int) = rb at *
 clear h a2 b2
 go_enter Tryz.func59, Tryz.ntmps59
 go_wp2_with fail
 refine p1.mono ?_
 rintro e w1 ⟨rfl, rfl⟩
 clear p1
 go_wp2_with fail
 refine p2.mono ?_
 rintro e w1 ⟨rfl, rfl⟩
 clear p2
 go_wp2_with fail
 refine p3.mono ?_
 rintro e w1 ⟨rfl, rfl⟩
 clear p3
 go_wp2
 go_ret
 exact ⟨rfl, rfl⟩
def RingNewQ (n : Nat) (v : Int) (w : World) (e : Ending) (w' : World) : Prop := ∃ r, e = .returned (.pointer (some ⟨r, 0, none⟩)) ∧ Sat w' (ringA r (List.replicate n v) * whole w) ∧ Side w w'
def RingNewRel (g r : Nat) (n : Nat) (v : Int) (w : World) (u : Value) (wr : World) : Prop :=
 ∃ k : Nat, k ≤ n ∧ u = .int .i64 k ∧ Sat wr (ringX g r (List.replicate k v ++ List.replicate (n - k) 0) * whole w) ∧ Side w wr
theorem fill_next (n k : Nat) (v : Int) (h : k < n) : (List.replicate k v ++ List.replicate (n - k) (0 : Int)).set k v = List.replicate (k + 1) v ++ List.replicate (n - (k + 1)) 0 := by
 have e : n - k = (n - (k + 1)) + 1 := by omega
 rw [e, List.replicate_succ, List.set_append_right _ _ (by simp)]
 simp [List.replicate_succ']
set_option maxRecDepth 100000 in
set_option maxHeartbeats 1000000 in
theorem ringNew_any (n : Nat) (v : Int) (w : World) (h1 : 1 ≤ n) (h2 : n ≤ 1048576) :
  Calls Tryz.prog 68 #[.int .i64 n, .int .i64 v] w (RingNewQ n v w) := by
 have hn1 : (1 : Int) ≤ (n : Int) := by omega
 have hn2 : (n : Int) ≤ 1048576 := by omega
 have hmk := make_ints n h2 w
 have hA := ((Sat.whole w).alloc (.cells (ints (List.replicate n 0)) 3 (0, 0))).alloc (.cells #[.slice (some ⟨w.heap.size, 0, none⟩) n n] 139 (0, 0))
 have hs := ((Side.refl w).alloc (.cells (ints (List.replicate n 0)) 3 (0, 0))).alloc (.cells #[.slice (some ⟨w.heap.size, 0, none⟩) n n] 139 (0, 0))
 rw [World.size_alloc] at hA
 go_enter Tryz.func68, Tryz.ntmps68
 go_wp2
 generalize (w.alloc (.cells (ints (List.replicate n 0)) 3 (0, 0))).alloc (.cells #[.slice (some ⟨w.heap.size, 0, none⟩) n n] 139 (0, 0)) = w1 at hA hs ⊢
 generalize w.heap.size + 1 = r at hA ⊢
 generalize w.heap.size = g at hA ⊢
 clear hmk
 go_loopw [18] (fun u wr => RingNewRel g r n v w u wr) (fun u _ => n - (intOf u).toNat)
 case atStart => exact ⟨0, Nat.zero_le _, rfl, hA.to (by unfold ringX; simp only [List.replicate_zero, List.nil_append, Nat.sub_zero, List.length_replicate]; ac_rfl), hs⟩
 case round =>
  obtain ⟨k, hk, rfl, hsat, hside⟩ := hrel
  clear hA hs
  have hl : (List.replicate k v ++ List.replicate (n - k) (0 : Int)).length = n := by simp; omega
  have h3 : Sat wr (pt g (.cells (ints (List.replicate k v ++ List.replicate (n - k) 0)) 3 (0, 0)) * (pt r (.cells #[.slice (some ⟨g, 0, none⟩) n n] 139 (0, 0)) * whole w)) := by
   unfold ringX at hsat; rw [hl] at hsat; exact hsat.to (by ac_rfl)
  have hc := h3.front2.cell 0
  by_cases hlt : k < n
  ·have hlt' : (k : Int) < (n : Int) := by omega
   have hv : wr.cell? ⟨g, k, none⟩ = some (.int .i64 ((List.replicate k v ++ List.replicate (n - k) (0 : Int)).getD k 0)) := (h3.cell k).trans (get_ints_lt (by rw [hl]; exact hlt))
   have hf := h3.frozen k
   generalize (List.replicate k v ++ List.replicate (n - k) (0 : Int)).getD k 0 = q at hv
   have h4 := h3.setCell k (.int .i64 v)
   rw [set_ints, fill_next n k v hlt] at h4
   have H4 := SL.hid h4; have Hl := SL.hid hl
   clear h3 hsat h4 hl
   go_wp2
   go_roundw
   case rel =>
    refine ⟨k + 1, by omega, by go_num, H4.out.to ?_, hside.setCell _ _⟩
    have e : (List.replicate (k + 1) v ++ List.replicate (n - (k + 1)) (0 : Int)).length = n := by simp; omega
    unfold ringX; rw [e]; ac_rfl
   case measure => simp [intOf]; omega
  ·obtain rfl : k = n := by omega
   rw [Nat.sub_self, List.replicate_zero, List.append_nil] at hsat
   have H4 := SL.hid hsat
   clear h3 hsat hl hlt
   go_wp2
   go_ret
   exact ⟨r, rfl, H4.out.weak fun _ p => ⟨g, p⟩, hside⟩
end Go.Proofs.YtdafdidmbeecfaaGreatDoor
namespace Go.Proofs.YtdafdidmbeecfaaGreatDoor
set_option linter.unusedVariables false
set_option linter.unusedSimpArgs false
open Go.RowKit Go.SL
attribute [local go_sem] Oper.semAt_some
def FromIt (b5 b3 b7 r : Nat) (m first : Nat) : Assn :=
 pt b5 (.cells #[.int .i64 (m : Int)] 3 (0, 0)) * (pt b3 (.cells #[.pointer (some ⟨r, 0, none⟩)] 95 (0, 0)) * pt b7 (.cells #[.int .i64 (first : Int)] 3 (0, 0)))
def FromQ (r : Nat) (l : List Int) (m first : Nat) (F : Assn) (w : World) (e : Ending) (w' : World) : Prop :=
 ∃ b5 b3 b7, e = .returned (.func (.func 118) #[] #[.pointer (some ⟨b5, 0, none⟩), .pointer (some ⟨b3, 0, none⟩), .pointer (some ⟨b7, 0, none⟩)]) ∧ Sat w' (FromIt b5 b3 b7 r m first * (ringA r l * F)) ∧ Side w w'
set_option maxRecDepth 100000 in
set_option maxHeartbeats 1000000 in
theorem from_any (w : World) (r : Nat) (l : List Int) (a : Int) (m : Nat) (F : Assn) (h : Sat w (ringA r l * F)) (h0 : 0 < l.length) (h1 : l.length ≤ 1048576) (hm : m ≤ l.length) :
  Calls Tryz.prog 102 #[.pointer (some ⟨r, 0, none⟩), .int .i64 a, .int .i64 m] w (FromQ r l m (a % (l.length : Int)).toNat F w) := by
 obtain ⟨k, hk, hkl⟩ := mod_nat a h0
 have hA := (h.alloc (.cells #[.pointer (some ⟨r, 0, none⟩)] 95 (0, 0))).alloc (.cells #[.int .i64 m] 3 (0, 0))
 have hs := ((Side.refl w).alloc (.cells #[.pointer (some ⟨r, 0, none⟩)] 95 (0, 0))).alloc (.cells #[.int .i64 m] 3 (0, 0))
 rw [World.size_alloc] at hA
 rw [hk, Int.toNat_natCast]
 have hm0 : 0 ≤ (m : Int) := by omega
 have hm1 : (m : Int) ≤ (l.length : Int) := by omega
 go_enter Tryz.func102, Tryz.ntmps102
 go_wp2_with fail
 generalize (w.alloc (.cells #[.pointer (some ⟨r, 0, none⟩)] 95 (0, 0))).alloc (.cells #[.int .i64 m] 3 (0, 0)) = w1 at hA hs ⊢
 generalize w.heap.size + 1 = b5 at hA ⊢
 generalize w.heap.size = b3 at hA ⊢
 have hR : Sat w1 (ringA r l * (pt b3 (.cells #[.pointer (some ⟨r, 0, none⟩)] 95 (0, 0)) * (pt b5 (.cells #[.int .i64 m] 3 (0, 0)) * F))) := hA.to (by ac_rfl)
 have c5 : w1.cell? ⟨b5, 0, none⟩ = some (.int .i64 m) := hA.cell 0
 have f5 : w1.frozen? ⟨b5, 0, none⟩ = false := hA.frozen 0
 have c3 : w1.cell? ⟨b3, 0, none⟩ = some (.pointer (some ⟨r, 0, none⟩)) := hA.front2.cell 0
 have hlt5 : b5 < w1.heap.size := hA.lt
 have hlt3 : b3 < w1.heap.size := hA.front2.lt
 obtain ⟨BIG, hBIG⟩ : ∃ X, X = pt b5 (.cells #[.int .i64 m] 3 (0, 0)) * (pt b3 (.cells #[.pointer (some ⟨r, 0, none⟩)] 95 (0, 0)) * (ringA r l * F)) := ⟨_, rfl⟩
 have g5 : ∀ w', Sat w' BIG → w'.cell? ⟨b5, 0, none⟩ = some (.int .i64 m) := fun w' h => (hBIG ▸ h).cell 0
 have g3 : ∀ w', Sat w' BIG → w'.cell? ⟨b3, 0, none⟩ = some (.pointer (some ⟨r, 0, none⟩)) := fun w' h => (hBIG ▸ h).front2.cell 0
 have hA1 : Sat w1.drew BIG := hBIG ▸ hA
 have hA2 : Sat (w1.drew.alloc (.cells #[.int .i64 0] 3 (0, 0))) BIG := (hA1.alloc _).right
 have hA3 : Sat (w1.drew.alloc (.cells #[.int .i64 k] 3 (0, 0))) BIG := (hA1.alloc _).right
 have hA4 : Sat ((w1.setCell ⟨b5, 0, none⟩ (.int .i64 m)).alloc (.cells #[.int .i64 k] 3 (0, 0))).drew (pt w1.heap.size (.cells #[.int .i64 k] 3 (0, 0)) * BIG) := by
  have h := (hA.setCell 0 (.int .i64 m)).alloc (.cells #[.int .i64 k] 3 (0, 0))
  rw [show (w1.setCell ⟨b5, 0, none⟩ (.int .i64 m)).heap.size = w1.heap.size by simp [World.setCell]] at h
  rw [hBIG]
  exact h.to (by simp only [List.setIfInBounds_toArray, List.set_cons_zero])
 have hRB : ∀ w', Sat w' BIG → Sat w' (ringA r l * (pt b3 (.cells #[.pointer (some ⟨r, 0, none⟩)] 95 (0, 0)) * (pt b5 (.cells #[.int .i64 m] 3 (0, 0)) * F))) := fun w' h => (hBIG ▸ h).to (by ac_rfl)
 have Hp : Hid (∀ w', Sat w' BIG → Calls Tryz.prog 85 #[.pointer (some ⟨r, 0, none⟩), .int .i64 a] w' (IntIs k w')) := fun w' h => by
  have := place_any w' r l a _ (hRB w' h) h0 h1
  rwa [hk] at this
 have Hl : Hid (∀ w', Sat w' BIG → Calls Tryz.prog 52 #[.pointer (some ⟨r, 0, none⟩)] w' (IntIs l.length w')) := fun w' h => ringLen_any w' r l _ (hRB w' h)
 have hv0 : (if l.length < m then (l.length : Int) else (m : Int)) = (m : Int) := if_neg (by omega)
 have hv1 : (if (l.length : Int) < (if (m : Int) < 0 then 0 else (m : Int)) then (l.length : Int) else if (m : Int) < 0 then 0 else (m : Int)) = (m : Int) := by
  rw [if_neg (by omega : ¬ (m : Int) < 0), if_neg (by omega)]
 have Hv0 := SL.hid hv0
 have Hv1 := SL.hid hv1
 have HB := SL.hid hBIG
 clear h hk hR hA hBIG c5 c3 hRB hv0 hv1
 go_region_held3 (fun w' => Sat w' BIG) (first | assumption | (rw [Hv0.out]; exact hA4.right) | (rw [Hv1.out]; exact hA4.right) | exact hA4.right) (first
  | (go_at_call 85; (with_reducible refine (Hp.out _ (by assumption)).mono ?_); rintro e w2 ⟨rfl, rfl⟩)
  | (go_at_call 52; (with_reducible refine (Hl.out _ (by assumption)).mono ?_); rintro e w2 ⟨rfl, rfl⟩))
 all_goals
  first | rw [Hv0.out] | rw [Hv1.out]
  go_wp2
  go_ret
  refine ⟨b5, b3, w1.heap.size, rfl, ?_, ((hs.setCell _ _).alloc _).drew⟩
  exact hA4.to (by rw [HB.out]; unfold FromIt; ac_rfl)
def places (n first m : Nat) : List Nat := (List.range m).map fun i => (first + i) % n
theorem places_length (n first m : Nat) : (places n first m).length = m := by simp [places]
theorem places_snoc (n first m k : Nat) (h : k < m) : (places n first m).take k ++ [(first + k) % n] = (places n first m).take (k + 1) := by
 rw [List.take_succ_eq_append_getElem (by rw [places_length]; exact h)]
 simp [places]
def fromT (l : List Int) (p : Nat) (vs : Array Value) : Assn := fact (vs = #[.int .i64 (p : Int), .int .i64 (l.getD p 0)])
def FromRel (A : List Nat → Assn) (n first m : Nat) (X : Assn) (w0 : World) (i : Value) (wr : World) : Prop :=
 ∃ k : Nat, k ≤ m ∧ i = .int .i64 (k : Int) ∧ Side w0 wr ∧ Sat wr (A ((places n first m).take k) * X)
set_option maxRecDepth 100000 in
set_option maxHeartbeats 2000000 in
theorem from_iter (n : Nat) (b5 b3 b7 r : Nat) (l : List Int) (m first : Nat) (h0 : 0 < l.length) (h1 : l.length ≤ 1048576) (hm : m ≤ l.length) (hf : first < l.length) :
  IteratesC (withR (ringA r l)) Fence.wide n Tryz.prog 118 #[.pointer (some ⟨b5, 0, none⟩), .pointer (some ⟨b3, 0, none⟩), .pointer (some ⟨b7, 0, none⟩)] (FromIt b5 b3 b7 r m first) (fromT l)
   (fun ys => ys = places l.length first m) (fun ys => ys <+: places l.length first m) := by
 rintro lp _ Ax G w0 w ⟨A, rfl⟩ hY hs h0'
 have hB : Sat w (pt b5 (.cells #[.int .i64 (m : Int)] 3 (0, 0)) * (pt b3 (.cells #[.pointer (some ⟨r, 0, none⟩)] 95 (0, 0)) * (pt b7 (.cells #[.int .i64 (first : Int)] 3 (0, 0)) * (ringA r l * (A [] * G))))) := h0'.to (by unfold FromIt; dsimp only; ac_rfl)
 have c5 := hB.cell 0
 have hm1 : (m : Int) ≤ 1048576 := by omega
 have hl1 : (l.length : Int) ≤ 1048576 := by omega
 clear hB
 refine callsIn_of_wp Tryz.func118 rfl trivial ?_ rfl
 simp only [Tryz.ntmps118, List.size_toArray, List.length_cons, List.length_nil, Nat.reduceAdd, Nat.reduceSub, Array.replicate_succ, Array.replicate_zero, List.push_toArray, List.append_toArray, List.nil_append, List.cons_append]
 gi_wp2
 gi_loopw [8] (fun i wr => FromRel (fun ys => ringA r l * A ys) l.length first m (FromIt b5 b3 b7 r m first * G) w0 i wr) (fun i _ => m - (intOf i).toNat)
 case atStart => exact ⟨0, Nat.zero_le _, rfl, hs, h0'⟩
 case round =>
  clear h0' c5
  obtain ⟨k, hk, rfl, hside, hsat⟩ := hrel
  replace hsat : Sat wr ((ringA r l * A ((places l.length first m).take k)) * (FromIt b5 b3 b7 r m first * G)) := hsat
  have hB : Sat wr (pt b5 (.cells #[.int .i64 (m : Int)] 3 (0, 0)) * (pt b3 (.cells #[.pointer (some ⟨r, 0, none⟩)] 95 (0, 0)) * (pt b7 (.cells #[.int .i64 (first : Int)] 3 (0, 0)) * (ringA r l * (A ((places l.length first m).take k) * G))))) := hsat.to (by unfold FromIt; ac_rfl)
  by_cases hlt : k < m
  ·have hlt' : (k : Int) < (m : Int) := by omega
   have c3 := hB.front2.cell 0
   have c7 := hB.front3.cell 0
   have hgo := go_any wr r l (first : Int) (k : Int) _ hB.front4 h0 h1
   have hpk : ((first : Int) + (k : Int)) % (l.length : Int) = (((first + k) % l.length : Nat) : Int) := by simp
   rw [hpk] at hgo
   have hpl : (first + k) % l.length < l.length := Nat.mod_lt _ h0
   have hen := places_snoc l.length first m k hlt
   have hpre : (places l.length first m).take k ++ [(first + k) % l.length] <+: places l.length first m := by rw [hen]; exact List.take_prefix _ _
   generalize (first + k) % l.length = p at hgo hpl hen hpre
   have hpl' : (p : Int) < (l.length : Int) := by omega
   obtain ⟨g, hg⟩ := hB.front4.ringOpen
   have cr := hg.cell 0
   have cv : wr.cell? ⟨g, p, none⟩ = some (.int .i64 (l.getD p 0)) := (hg.front2.cell p).trans (get_ints_lt hpl)
   have hT : Sat wr ((ringA r l * A ((places l.length first m).take k)) * (fromT l p #[.int .i64 (p : Int), .int .i64 (l.getD p 0)] * (FromIt b5 b3 b7 r m first * G))) :=
    (Sat.fact_iff.2 ⟨rfl, hsat⟩ : Sat wr (fact _ * _)).to (by unfold fromT; ac_rfl)
   obtain ⟨fn, tmps, assign, body, hy, hR⟩ := hY _ p #[.int .i64 (p : Int), .int .i64 (l.getD p 0)] _ wr hpre hside hT
   have Hen := hid hen; have Hpre := hid hpre
   clear hT hsat hB hen hpre hg hpk
   generalize l.getD p 0 = v at cv hy
   gi_wp2_with fail
   refine callW hgo ?_
   rintro e w1 ⟨rfl, rfl⟩
   clear hgo
   gi_wp2
   refine ⟨fun h => (by cases h), hR.mono ?_⟩
   rintro e W' (⟨rfl, hs5, hsat5⟩ | ⟨rfl, hs5, hsat5⟩)
   ·gi_wp2
    go_roundw
    case rel => exact ⟨k + 1, by omega, by go_num, hs5, by rw [← Hen.out]; exact hsat5⟩
    case measure => simp [intOf]; omega
   ·gi_wp2
    refine bodyPost_ret (results_none rfl _ _ _) rfl ?_
    exact ⟨⟨_, rfl⟩, hs5, .inr ⟨_, Hpre.out, hsat5⟩⟩
  ·obtain rfl : k = m := by omega
   have hfin : (places l.length first k).take k = places l.length first k := by
    have := places_length l.length first k
    exact List.take_of_length_le (by omega)
   rw [hfin] at hsat
   clear hB hfin
   gi_wp2
   go_end0
   exact ⟨⟨_, rfl⟩, hside, .inl ⟨_, rfl, hsat⟩⟩
end Go.Proofs.YtdafdidmbeecfaaGreatDoor
end
section
namespace Go.SL
set_option linter.unusedVariables false
set_option linter.unusedSimpArgs false
open Go.RowKit
structure Tb where
 ps : List Int
 os : List Int
 c : Int
structure Tb.Ok (T : Tb) : Prop where
 n : T.ps.length ≤ 1048576
 m : T.os.length ≤ 1048576
 ps : ∀ v ∈ T.ps, v = -1 ∨ (0 ≤ v ∧ v < T.os.length)
def told (l : List Int) (i : Int) : Option Int := if 0 ≤ i ∧ i < l.length ∧ l.getD i.toNat 0 ≠ -1 then some (l.getD i.toNat 0) else none
def toldV (o : Option Int) : Value := .tuple #[.int .i64 (o.getD 0), .bool o.isSome]
def Tb.fresh (b p : Nat) : Tb := ⟨List.replicate b (-1), List.replicate p (-1), 0⟩
def Tb.drop (T : Tb) (id : Int) : Bool × Tb := match told T.ps id with
 | some p => (true, ⟨T.ps.set id.toNat (-1), T.os.set p.toNat (-1), i64w (T.c - 1)⟩)
 | none => (false, T)
def Tb.put (T : Tb) (id place : Int) : Bool × Tb :=
 if 0 ≤ id ∧ id < T.ps.length ∧ 0 ≤ place ∧ place < T.os.length ∧ (T.os.getD place.toNat 0 = -1 ∨ T.os.getD place.toNat 0 = id) then
  (true, ⟨(T.drop id).2.ps.set id.toNat place, (T.drop id).2.os.set place.toNat id, i64w ((T.drop id).2.c + 1)⟩)
 else (false, T)
structure Tx where
 g1 : Nat
 g2 : Nat
def tableX (x : Tx) (t : Nat) (T : Tb) : Assn :=
 pt t (.cells #[.slice (some ⟨x.g1, 0, none⟩) T.ps.length T.ps.length, .slice (some ⟨x.g2, 0, none⟩) T.os.length T.os.length, .int .i64 T.c] 146 (0, 0)) * (pt x.g1 (.cells (ints T.ps) 3 (0, 0)) * pt x.g2 (.cells (ints T.os) 3 (0, 0)))
def tableA (t : Nat) (T : Tb) : Assn := ex fun x => tableX x t T
theorem Sat.tabOpen {w : World} {t : Nat} {T : Tb} {F : Assn} (h : Sat w (tableA t T * F)) : ∃ x : Tx, Sat w (pt t (.cells #[.slice (some ⟨x.g1, 0, none⟩) T.ps.length T.ps.length, .slice (some ⟨x.g2, 0, none⟩) T.os.length T.os.length, .int .i64 T.c] 146 (0, 0)) * (pt x.g1 (.cells (ints T.ps) 3 (0, 0)) * (pt x.g2 (.cells (ints T.os) 3 (0, 0)) * F))) := by
 obtain ⟨x, h⟩ := Sat.ex_star_iff.1 h
 exact ⟨x, h.to (by unfold tableX; ac_rfl)⟩
theorem Sat.tabShut {w : World} {t : Nat} {T : Tb} {F : Assn} (x : Tx) (h : Sat w (pt t (.cells #[.slice (some ⟨x.g1, 0, none⟩) T.ps.length T.ps.length, .slice (some ⟨x.g2, 0, none⟩) T.os.length T.os.length, .int .i64 T.c] 146 (0, 0)) * (pt x.g1 (.cells (ints T.ps) 3 (0, 0)) * (pt x.g2 (.cells (ints T.os) 3 (0, 0)) * F)))) : Sat w (tableA t T * F) :=
 Sat.ex_star_iff.2 ⟨x, h.to (by unfold tableX; ac_rfl)⟩
end Go.SL
namespace Go.Proofs.YtdafdidmbeecfaaGreatDoor
set_option linter.unusedVariables false
set_option linter.unusedSimpArgs false
open Go.RowKit Go.SL
theorem within_any (w : World) (a : Option Addr) (n c : Nat) (i : Int) : Calls Tryz.prog 83 #[.slice a n c, .int .i64 i] w (BoolIs (decide (0 ≤ i ∧ i < (n : Int))) w) := by
 by_cases h0 : 0 ≤ i
 ·by_cases h1 : i < (n : Int)
  ·rw [show decide (0 ≤ i ∧ i < (n : Int)) = true by simp [h0, h1]]
   go_enter Tryz.func83, Tryz.ntmps83
   go_wp2
   go_ret
   exact ⟨rfl, rfl⟩
  ·rw [show decide (0 ≤ i ∧ i < (n : Int)) = false by simp [h1]]
   have hd : decide (i < (n : Int)) = false := by simpa using h1
   go_enter Tryz.func83, Tryz.ntmps83
   go_wp2
   go_ret
   exact ⟨rfl, rfl⟩
 ·rw [show decide (0 ≤ i ∧ i < (n : Int)) = false by simp [h0]]
  go_enter Tryz.func83, Tryz.ntmps83
  go_wp2
  go_ret
  exact ⟨rfl, rfl⟩
def TellsT (o : Option Int) (w : World) (e : Ending) (w' : World) : Prop := e = .returned (toldV o) ∧ w = w'
set_option maxRecDepth 100000 in
theorem told_any (w : World) (g : Nat) (l : List Int) (i : Int) (F : Assn) (h : Sat w (pt g (.cells (ints l) 3 (0, 0)) * F)) :
  Calls Tryz.prog 86 #[.slice (some ⟨g, 0, none⟩) l.length l.length, .int .i64 i] w (TellsT (told l i) w) := by
 have hw := within_any w (some ⟨g, 0, none⟩) l.length l.length i
 by_cases hin : 0 ≤ i ∧ i < (l.length : Int)
 ·rw [show decide (0 ≤ i ∧ i < (l.length : Int)) = true by simpa using hin] at hw
  obtain ⟨k, rfl⟩ := Int.eq_ofNat_of_zero_le hin.1
  have hkl' : (k : Int) < (l.length : Int) := hin.2
  have hkl : k < l.length := by omega
  have hc : w.cell? ⟨g, k, none⟩ = some (.int .i64 (l.getD k 0)) := (h.cell k).trans (get_ints_lt hkl)
  by_cases hv : l.getD k 0 = -1
  ·have e : told l (k : Int) = none := by unfold told; rw [if_neg]; rintro ⟨_, _, h3⟩; exact h3 (by rw [Int.toNat_natCast]; exact hv)
   rw [e]; rw [hv] at hc
   clear e hin h hv
   go_enter Tryz.func86, Tryz.ntmps86
   go_wp2_with (go_at_call 83; (with_reducible refine hw.mono ?_); rintro e w1 ⟨rfl, rfl⟩)
   go_ret2
   exact ⟨rfl, rfl⟩
  ·have e : told l (k : Int) = some (l.getD k 0) := by unfold told; rw [if_pos ⟨hin.1, hin.2, by rw [Int.toNat_natCast]; exact hv⟩, Int.toNat_natCast]
   have hvb : (l.getD k 0 == -1) = false := by simpa using hv
   rw [e]
   clear e hin h hv
   generalize l.getD k 0 = v at hc hvb
   go_enter Tryz.func86, Tryz.ntmps86
   go_wp2_with (go_at_call 83; (with_reducible refine hw.mono ?_); rintro e w1 ⟨rfl, rfl⟩)
   go_ret2
   exact ⟨rfl, rfl⟩
 ·rw [show decide (0 ≤ i ∧ i < (l.length : Int)) = false by simpa using hin] at hw
  have e : told l i = none := by unfold told; rw [if_neg]; rintro ⟨h1, h2, _⟩; exact hin ⟨h1, h2⟩
  rw [e]
  clear e hin h
  go_enter Tryz.func86, Tryz.ntmps86
  go_wp2_with (go_at_call 83; (with_reducible refine hw.mono ?_); rintro e w1 ⟨rfl, rfl⟩)
  go_ret2
  exact ⟨rfl, rfl⟩
theorem at_any (w : World) (t : Nat) (T : Tb) (id : Int) (F : Assn) (h : Sat w (tableA t T * F)) :
  Calls Tryz.prog 60 #[.pointer (some ⟨t, 0, none⟩), .int .i64 id] w (TellsT (told T.ps id) w) := by
 obtain ⟨x, hx⟩ := h.tabOpen
 have ht := told_any w x.g1 T.ps id _ hx.front2
 have c0 : w.cell? ⟨t, 0, none⟩ = some (.slice (some ⟨x.g1, 0, none⟩) T.ps.length T.ps.length) := hx.cell 0
 generalize told T.ps id = o at ht ⊢
 clear h hx
 go_enter Tryz.func60, Tryz.ntmps60
 go_wp2_with (go_at_call 86; (with_reducible refine ht.mono ?_); rintro e w1 ⟨rfl, rfl⟩; unfold toldV)
 go_ret2
 exact ⟨rfl, rfl⟩
theorem owner_any (w : World) (t : Nat) (T : Tb) (id : Int) (F : Assn) (h : Sat w (tableA t T * F)) :
  Calls Tryz.prog 103 #[.pointer (some ⟨t, 0, none⟩), .int .i64 id] w (TellsT (told T.os id) w) := by
 obtain ⟨x, hx⟩ := h.tabOpen
 have ht := told_any w x.g2 T.os id _ hx.front3
 have c0 : w.cell? ⟨t, 1, none⟩ = some (.slice (some ⟨x.g2, 0, none⟩) T.os.length T.os.length) := hx.cell 1
 generalize told T.os id = o at ht ⊢
 clear h hx
 go_enter Tryz.func103, Tryz.ntmps103
 go_wp2_with (go_at_call 86; (with_reducible refine ht.mono ?_); rintro e w1 ⟨rfl, rfl⟩; unfold toldV)
 go_ret2
 exact ⟨rfl, rfl⟩
theorem told_some {l : List Int} {i p : Int} (h : told l i = some p) : ∃ k : Nat, i = (k : Int) ∧ k < l.length ∧ l.getD k 0 = p ∧ p ≠ -1 := by
 unfold told at h
 split at h
 ·rename_i hc
  obtain ⟨h1, h2, h3⟩ := hc
  obtain ⟨k, rfl⟩ := Int.eq_ofNat_of_zero_le h1
  rw [Int.toNat_natCast] at h h3
  have h := Option.some.inj h
  exact ⟨k, rfl, by omega, h, by rw [← h]; exact h3⟩
 ·cases h
theorem tb_place {T : Tb} (h : T.Ok) {i p : Int} (ht : told T.ps i = some p) : ∃ j : Nat, p = (j : Int) ∧ j < T.os.length := by
 obtain ⟨k, rfl, hk, hp, hn⟩ := told_some ht
 have hm : p ∈ T.ps := by rw [← hp, List.getD, List.getElem?_eq_getElem hk]; exact List.getElem_mem hk
 rcases h.ps p hm with e | ⟨e1, e2⟩
 ·exact absurd e hn
 ·obtain ⟨j, rfl⟩ := Int.eq_ofNat_of_zero_le e1
  exact ⟨j, rfl, by omega⟩
def TabQ (t : Nat) (b : Bool) (T : Tb) (F : Assn) (w : World) (e : Ending) (w' : World) : Prop := e = .returned (.bool b) ∧ Sat w' (tableA t T * F) ∧ Side w w'
set_option maxRecDepth 100000 in
set_option maxHeartbeats 1000000 in
theorem drop_any (w : World) (t : Nat) (T : Tb) (id : Int) (F : Assn) (h : Sat w (tableA t T * F)) (hT : T.Ok) :
  Calls Tryz.prog 84 #[.pointer (some ⟨t, 0, none⟩), .int .i64 id] w (TabQ t (T.drop id).1 (T.drop id).2 F w) := by
 have ha := at_any w t T id F h
 unfold Tb.drop
 match hm : told T.ps id with
 | none =>
  rw [hm] at ha
  clear hm
  go_enter Tryz.func84, Tryz.ntmps84
  go_wp2_with (go_at_call 60; (with_reducible refine ha.mono ?_); rintro e w1 ⟨rfl, rfl⟩; unfold toldV)
  go_ret
  exact ⟨rfl, h, Side.refl w⟩
 | some p =>
  rw [hm] at ha
  obtain ⟨k, rfl, hk, _, _⟩ := told_some hm
  obtain ⟨j, rfl, hj⟩ := tb_place hT hm
  obtain ⟨x, hx⟩ := h.tabOpen
  have hk' : (k : Int) < (T.ps.length : Int) := by omega
  have hj' : (j : Int) < (T.os.length : Int) := by omega
  have c0 : w.cell? ⟨t, 0, none⟩ = some (.slice (some ⟨x.g1, 0, none⟩) T.ps.length T.ps.length) := hx.cell 0
  have c1 : w.cell? ⟨t, 1, none⟩ = some (.slice (some ⟨x.g2, 0, none⟩) T.os.length T.os.length) := hx.cell 1
  have s1 : w.cell? ⟨x.g1, k, none⟩ = some (.int .i64 (T.ps.getD k 0)) := (hx.front2.cell k).trans (get_ints_lt hk)
  have f1 := hx.front2.frozen k
  have H2 := (hx.front2.setCell k (.int .i64 (-1)))
  have c0' := H2.front2.cell 0
  have c1' := H2.front2.cell 1
  have s2 : (w.setCell ⟨x.g1, k, none⟩ (.int .i64 (-1))).cell? ⟨x.g2, j, none⟩ = some (.int .i64 (T.os.getD j 0)) := (H2.front3.cell j).trans (get_ints_lt hj)
  have f2 := H2.front3.frozen j
  have H3 := H2.front3.setCell j (.int .i64 (-1))
  have c0'' := H3.front3.cell 0
  have c1'' := H3.front3.cell 1
  have c2'' : ((w.setCell ⟨x.g1, k, none⟩ (.int .i64 (-1))).setCell ⟨x.g2, j, none⟩ (.int .i64 (-1))).cell? ⟨t, 2, none⟩ = some (.int .i64 T.c) := H3.front3.cell 2
  have f2'' := H3.front3.frozen 2
  rw [set_ints] at H3 H2
  rw [set_ints] at H3
  have H4 := SL.hid (H3.front3.setCell 2 (.int .i64 (i64w (T.c - 1))))
  simp only [Int.toNat_natCast]
  generalize T.ps.getD k 0 = vk at s1
  generalize T.os.getD j 0 = vj at s2
  clear hm h hx H2 H3 hT
  go_enter Tryz.func84, Tryz.ntmps84
  go_wp2_with (go_at_call 60; (with_reducible refine ha.mono ?_); rintro e w1 ⟨rfl, rfl⟩; unfold toldV)
  go_region_held3 (fun w' => w'.cell? ⟨t, 0, none⟩ = some (.slice (some ⟨x.g1, 0, none⟩) T.ps.length T.ps.length) ∧ w'.cell? ⟨t, 1, none⟩ = some (.slice (some ⟨x.g2, 0, none⟩) T.os.length T.os.length)) (first | assumption | exact ⟨c0, c1⟩ | exact ⟨c0', c1'⟩ | exact ⟨c0'', c1''⟩) (fail)
  go_wp2
  go_ret
  refine ⟨rfl, Sat.tabShut x ?_, ((((Side.refl w).setCell _ _).setCell _ _).drew).setCell _ _⟩
  simp only [List.length_set]
  exact (H4.out.drew).to (by simp only [List.setIfInBounds_toArray, List.set_cons_zero, List.set_cons_succ]; ac_rfl)
theorem drop_lengths (T : Tb) (id : Int) : (T.drop id).2.ps.length = T.ps.length ∧ (T.drop id).2.os.length = T.os.length := by
 unfold Tb.drop
 split <;> simp
set_option maxRecDepth 100000 in
set_option maxHeartbeats 1000000 in
theorem put_any (w : World) (t : Nat) (T : Tb) (id place : Int) (F : Assn) (h : Sat w (tableA t T * F)) (hT : T.Ok) :
  Calls Tryz.prog 58 #[.pointer (some ⟨t, 0, none⟩), .int .i64 id, .int .i64 place] w (TabQ t (T.put id place).1 (T.put id place).2 F w) := by
 obtain ⟨x, hx⟩ := h.tabOpen
 have c0 : w.cell? ⟨t, 0, none⟩ = some (.slice (some ⟨x.g1, 0, none⟩) T.ps.length T.ps.length) := hx.cell 0
 have c1 : w.cell? ⟨t, 1, none⟩ = some (.slice (some ⟨x.g2, 0, none⟩) T.os.length T.os.length) := hx.cell 1
 have w1 := within_any w (some ⟨x.g1, 0, none⟩) T.ps.length T.ps.length id
 have w2 := within_any w (some ⟨x.g2, 0, none⟩) T.os.length T.os.length place
 by_cases h1 : 0 ≤ id ∧ id < (T.ps.length : Int)
 ·rw [show decide (0 ≤ id ∧ id < (T.ps.length : Int)) = true by simpa using h1] at w1
  by_cases h2 : 0 ≤ place ∧ place < (T.os.length : Int)
  ·rw [show decide (0 ≤ place ∧ place < (T.os.length : Int)) = true by simpa using h2] at w2
   obtain ⟨k, rfl⟩ := Int.eq_ofNat_of_zero_le h1.1
   obtain ⟨j, rfl⟩ := Int.eq_ofNat_of_zero_le h2.1
   have hk : k < T.ps.length := by omega
   have hj : j < T.os.length := by omega
   have hk' : (k : Int) < (T.ps.length : Int) := by omega
   have hj' : (j : Int) < (T.os.length : Int) := by omega
   have so : w.cell? ⟨x.g2, j, none⟩ = some (.int .i64 (T.os.getD j 0)) := (hx.front3.cell j).trans (get_ints_lt hj)
   by_cases hv : T.os.getD j 0 = -1 ∨ T.os.getD j 0 = (k : Int)
   ·have e : T.put (k : Int) (j : Int) = (true, ⟨(T.drop (k : Int)).2.ps.set k (j : Int), (T.drop (k : Int)).2.os.set j (k : Int), i64w ((T.drop (k : Int)).2.c + 1)⟩) := by
     unfold Tb.put; rw [if_pos ⟨h1.1, h1.2, h2.1, h2.2, by simpa using hv⟩]; simp
    have hd := drop_any w t T k F h hT
    obtain ⟨l1, l2⟩ := drop_lengths T k
    rw [e]
    generalize hD : (T.drop (k : Int)).2 = D at hd l1 l2 ⊢
    generalize (T.drop (k : Int)).1 = db at hd
    have hvb : ((T.os.getD j 0 != -1) = false) ∨ ((T.os.getD j 0 != -1) = true ∧ (T.os.getD j 0 != (k : Int)) = false) := by
     rcases hv with hv | hv
     ·left; rw [hv]; rfl
     ·by_cases hq : T.os.getD j 0 = -1
      ·left; rw [hq]; rfl
      ·right; exact ⟨by simpa using hq, by rw [hv]; simp⟩
    clear e hv h1 h2 h hx hT hD
    generalize T.os.getD j 0 = v at so hvb
    have Hl1 := SL.hid l1; have Hl2 := SL.hid l2; clear l1 l2
    rcases hvb with hvb | ⟨hvb, hvb2⟩
    all_goals
     go_enter Tryz.func58, Tryz.ntmps58
     go_wp2_with (first
      | (go_at_call_of 83 (Value.int .i64 (k : Int)); (with_reducible refine w1.mono ?_); rintro e w1' ⟨rfl, rfl⟩)
      | (go_at_call_of 83 (Value.int .i64 (j : Int)); (with_reducible refine w2.mono ?_); rintro e w1' ⟨rfl, rfl⟩))
     (with_reducible refine hd.mono ?_)
     rintro e w3 ⟨rfl, h3, d3⟩
     obtain ⟨y, hy⟩ := h3.tabOpen
     rw [Hl1.out, Hl2.out] at hy
     have hk1 : k < D.ps.length := by rw [Hl1.out]; exact hk
     have hj1 : j < D.os.length := by rw [Hl2.out]; exact hj
     have c0 : w3.cell? ⟨t, 0, none⟩ = some (.slice (some ⟨y.g1, 0, none⟩) T.ps.length T.ps.length) := hy.cell 0
     have c1 : w3.cell? ⟨t, 1, none⟩ = some (.slice (some ⟨y.g2, 0, none⟩) T.os.length T.os.length) := hy.cell 1
     have s1 : w3.cell? ⟨y.g1, k, none⟩ = some (.int .i64 (D.ps.getD k 0)) := (hy.front2.cell k).trans (get_ints_lt hk1)
     have f1 := hy.front2.frozen k
     have H2 := (hy.front2.setCell k (.int .i64 (j : Int)))
     have c0' := H2.front2.cell 0
     have c1' := H2.front2.cell 1
     have s2 : (w3.setCell ⟨y.g1, k, none⟩ (.int .i64 (j : Int))).cell? ⟨y.g2, j, none⟩ = some (.int .i64 (D.os.getD j 0)) := (H2.front3.cell j).trans (get_ints_lt hj1)
     have f2 := H2.front3.frozen j
     have H3 := H2.front3.setCell j (.int .i64 (k : Int))
     have c0'' := H3.front3.cell 0
     have c1'' := H3.front3.cell 1
     have c2'' : ((w3.setCell ⟨y.g1, k, none⟩ (.int .i64 (j : Int))).setCell ⟨y.g2, j, none⟩ (.int .i64 (k : Int))).cell? ⟨t, 2, none⟩ = some (.int .i64 D.c) := H3.front3.cell 2
     have f2'' := H3.front3.frozen 2
     rw [set_ints] at H3 H2
     rw [set_ints] at H3
     have H4 := SL.hid (H3.front3.setCell 2 (.int .i64 (i64w (D.c + 1))))
     generalize D.ps.getD k 0 = vk at s1
     generalize D.os.getD j 0 = vj at s2
     clear hd w1 w2 so h3 hy H2 H3 hvb
     go_wp2
     go_region_held3 (fun w' => w'.cell? ⟨t, 0, none⟩ = some (.slice (some ⟨y.g1, 0, none⟩) T.ps.length T.ps.length) ∧ w'.cell? ⟨t, 1, none⟩ = some (.slice (some ⟨y.g2, 0, none⟩) T.os.length T.os.length)) (first | assumption | exact ⟨c0, c1⟩ | exact ⟨c0', c1'⟩ | exact ⟨c0'', c1''⟩) (fail)
     go_wp2
     go_ret
     refine ⟨rfl, Sat.tabShut y ?_, (((d3.setCell _ _).setCell _ _).drew).setCell _ _⟩
     simp only [List.length_set, Hl1.out, Hl2.out]
     exact (H4.out.drew).to (by simp only [List.setIfInBounds_toArray, List.set_cons_zero, List.set_cons_succ]; ac_rfl)
   ·have e : T.put (k : Int) (j : Int) = (false, T) := by
     unfold Tb.put; rw [if_neg]; rintro ⟨_, _, _, _, h5⟩; exact hv (by simpa using h5)
    rw [e]
    have hvb : (T.os.getD j 0 != -1) = true := by simp only [bne_iff_ne, ne_eq]; exact fun q => hv (.inl q)
    have hvb2 : (T.os.getD j 0 != (k : Int)) = true := by simp only [bne_iff_ne, ne_eq]; exact fun q => hv (.inr q)
    have H := SL.hid h
    clear e hv h1 h2 h hx hT
    generalize T.os.getD j 0 = v at so hvb hvb2
    go_enter Tryz.func58, Tryz.ntmps58
    go_wp2_with (first
     | (go_at_call_of 83 (Value.int .i64 (k : Int)); (with_reducible refine w1.mono ?_); rintro e w1' ⟨rfl, rfl⟩)
     | (go_at_call_of 83 (Value.int .i64 (j : Int)); (with_reducible refine w2.mono ?_); rintro e w1' ⟨rfl, rfl⟩))
    go_ret
    exact ⟨rfl, H.out, Side.refl w⟩
  ·rw [show decide (0 ≤ place ∧ place < (T.os.length : Int)) = false by simpa using h2] at w2
   have e : T.put id place = (false, T) := by
    unfold Tb.put; rw [if_neg]; rintro ⟨_, _, h3, h4, _⟩; exact h2 ⟨h3, h4⟩
   rw [e]
   have H := SL.hid h
   clear e h1 h2 h hx hT
   go_enter Tryz.func58, Tryz.ntmps58
   go_wp2_with fail
   refine w1.mono ?_
   rintro e w1' ⟨rfl, rfl⟩
   clear w1
   go_wp2_with fail
   refine w2.mono ?_
   rintro e w1' ⟨rfl, rfl⟩
   clear w2
   go_wp2
   go_ret
   exact ⟨rfl, H.out, Side.refl w⟩
 ·rw [show decide (0 ≤ id ∧ id < (T.ps.length : Int)) = false by simpa using h1] at w1
  have e : T.put id place = (false, T) := by
   unfold Tb.put; rw [if_neg]; rintro ⟨h3, h4, _⟩; exact h1 ⟨h3, h4⟩
  rw [e]
  have H := SL.hid h
  clear e h1 h hx hT w2
  go_enter Tryz.func58, Tryz.ntmps58
  go_wp2_with (go_at_call 83; (with_reducible refine w1.mono ?_); rintro e w1' ⟨rfl, rfl⟩)
  go_ret
  exact ⟨rfl, H.out, Side.refl w⟩
end Go.Proofs.YtdafdidmbeecfaaGreatDoor
namespace Go.Proofs.YtdafdidmbeecfaaGreatDoor
set_option linter.unusedVariables false
set_option linter.unusedSimpArgs false
open Go.RowKit Go.SL
attribute [local go_sem] Oper.semAt_some
def EmptyQ (n : Nat) (w : World) (e : Ending) (w' : World) : Prop := ∃ g, e = .returned (.slice (some ⟨g, 0, none⟩) n n) ∧ Sat w' (pt g (.cells (ints (List.replicate n (-1))) 3 (0, 0)) * whole w) ∧ Side w w'
def EmptyRel (g : Nat) (n : Nat) (w : World) (u : Value) (wr : World) : Prop :=
 ∃ k : Nat, k ≤ n ∧ u = .int .i64 k ∧ Sat wr (pt g (.cells (ints (List.replicate k (-1) ++ List.replicate (n - k) 0)) 3 (0, 0)) * whole w) ∧ Side w wr
set_option maxRecDepth 100000 in
set_option maxHeartbeats 1000000 in
theorem empty_any (n : Nat) (w : World) (h2 : n ≤ 1048576) : Calls Tryz.prog 117 #[.int .i64 n] w (EmptyQ n w) := by
 have hn1 : (0 : Int) ≤ (n : Int) := by omega
 have hn2 : (n : Int) ≤ 1048576 := by omega
 have hmk := make_ints n h2 w
 have hA := ((Sat.whole w).alloc (.cells (ints (List.replicate n 0)) 3 (0, 0)))
 have hs := ((Side.refl w).alloc (.cells (ints (List.replicate n 0)) 3 (0, 0)))
 go_enter Tryz.func117, Tryz.ntmps117
 go_wp2
 generalize w.alloc (.cells (ints (List.replicate n 0)) 3 (0, 0)) = w1 at hA hs ⊢
 generalize w.heap.size = g at hA ⊢
 clear hmk
 go_loopw [11] (fun u wr => EmptyRel g n w u wr) (fun u _ => n - (intOf u).toNat)
 case atStart => exact ⟨0, Nat.zero_le _, rfl, hA.to (by simp only [List.replicate_zero, List.nil_append, Nat.sub_zero]), hs⟩
 case round =>
  obtain ⟨k, hk, rfl, hsat, hside⟩ := hrel
  clear hA hs
  have hl : (List.replicate k (-1) ++ List.replicate (n - k) (0 : Int)).length = n := by simp; omega
  by_cases hlt : k < n
  ·have hlt' : (k : Int) < (n : Int) := by omega
   have hv : wr.cell? ⟨g, k, none⟩ = some (.int .i64 ((List.replicate k (-1) ++ List.replicate (n - k) (0 : Int)).getD k 0)) := (hsat.cell k).trans (get_ints_lt (by rw [hl]; exact hlt))
   have hf := hsat.frozen k
   generalize (List.replicate k (-1) ++ List.replicate (n - k) (0 : Int)).getD k 0 = q at hv
   have h4 := hsat.setCell k (.int .i64 (-1))
   rw [set_ints, fill_next n k (-1) hlt] at h4
   have H4 := SL.hid h4
   clear hsat h4 hl
   go_wp2
   go_roundw
   case rel => exact ⟨k + 1, by omega, by go_num, H4.out, hside.setCell _ _⟩
   case measure => simp [intOf]; omega
  ·obtain rfl : k = n := by omega
   rw [Nat.sub_self, List.replicate_zero, List.append_nil] at hsat
   have H4 := SL.hid hsat
   clear hsat hl hlt
   go_wp2
   go_ret
   exact ⟨g, rfl, H4.out, hside⟩
def TabNewQ (b p : Nat) (w : World) (e : Ending) (w' : World) : Prop := ∃ t, e = .returned (.pointer (some ⟨t, 0, none⟩)) ∧ Sat w' (tableA t (Tb.fresh b p) * whole w) ∧ Side w w'
set_option maxRecDepth 100000 in
theorem tabNew_any (b p : Nat) (w : World) (hb : b ≤ 1048576) (hp : p ≤ 1048576) : Calls Tryz.prog 96 #[.int .i64 b, .int .i64 p] w (TabNewQ b p w) := by
 go_enter Tryz.func96, Tryz.ntmps96
 go_wp2_with fail
 refine (empty_any b w hb).mono ?_
 rintro e w1 ⟨g1, rfl, h1, d1⟩
 go_wp2_with fail
 refine (empty_any p w1 hp).mono ?_
 rintro e w2 ⟨g2, rfl, h2, d2⟩
 have h3 := (h2.under h1).alloc (.cells #[.slice (some ⟨g1, 0, none⟩) b b, .slice (some ⟨g2, 0, none⟩) p p, .int .i64 0] 146 (0, 0))
 go_wp2
 go_ret
 refine ⟨_, rfl, Sat.tabShut ⟨g1, g2⟩ ?_, (d1.trans d2).alloc _⟩
 exact h3.to (by simp only [Tb.fresh, List.length_replicate]; ac_rfl)
def tbAll (T : Tb) : List (Int × Int) := (List.range T.ps.length).filterMap fun i : Nat => (told T.ps (i : Int)).map fun p => ((i : Int), p)
def allN (T : Tb) (k : Nat) : List (Int × Int) := (List.range k).filterMap fun i : Nat => (told T.ps (i : Int)).map fun p => ((i : Int), p)
theorem allN_succ (T : Tb) (k : Nat) : allN T (k + 1) = allN T k ++ (match told T.ps (k : Int) with | some p => [((k : Int), p)] | none => []) := by
 unfold allN
 rw [List.range_succ, List.filterMap_append]
 congr 1
 cases h : told T.ps (k : Int) <;> simp [List.filterMap_cons, h]
theorem allN_prefix (T : Tb) {k n : Nat} (h : k ≤ n) : allN T k <+: allN T n := by
 obtain ⟨m, rfl⟩ := Nat.le.dest h
 clear h
 induction m with
 | zero => exact List.prefix_refl _
 | succ m ih => rw [show k + (m + 1) = (k + m) + 1 by omega, allN_succ]; exact ih.trans (List.prefix_append _ _)
def pairT (x : Int × Int) (vs : Array Value) : Assn := fact (vs = #[.int .i64 x.1, .int .i64 x.2])
def AllTF (p : Option Addr) (w : World) (e : Ending) (w' : World) : Prop := e = .returned (.func (.func 100) #[] #[.pointer (some ⟨w.heap.size, 0, none⟩)]) ∧ w' = w.alloc (.cells #[.pointer p] 96 (0, 0))
theorem allT_any (w : World) (p : Option Addr) : Calls Tryz.prog 77 #[.pointer p] w (AllTF p w) := by
 go_enter Tryz.func77, Tryz.ntmps77
 go_wp2
 go_ret
 exact ⟨rfl, rfl⟩
def AllTIt (bx t : Nat) (T : Tb) : Assn := pt bx (.cells #[.pointer (some ⟨t, 0, none⟩)] 96 (0, 0)) * tableA t T
def AllTRel (A : List (Int × Int) → Assn) (T : Tb) (X : Assn) (w0 : World) (i : Value) (wr : World) : Prop :=
 ∃ k : Nat, k ≤ T.ps.length ∧ i = .int .i64 (k : Int) ∧ Side w0 wr ∧ Sat wr (A (allN T k) * X)
set_option maxRecDepth 100000 in
set_option maxHeartbeats 2000000 in
theorem allT_iter (n : Nat) (bx t : Nat) (T : Tb) (hT : T.ps.length ≤ 1048576) :
  Iterates Fence.wide n Tryz.prog 100 #[.pointer (some ⟨bx, 0, none⟩)] (AllTIt bx t T) pairT (fun ys => ys = tbAll T) (fun ys => ys <+: tbAll T) := by
 intro lp A Ax G w0 w hY hs h0
 have hB : Sat w (tableA t T * (pt bx (.cells #[.pointer (some ⟨t, 0, none⟩)] 96 (0, 0)) * (A [] * G))) := h0.to (by unfold AllTIt; ac_rfl)
 have hbx := hB.front2.cell 0
 obtain ⟨x, hx⟩ := hB.tabOpen
 have c0 : w.cell? ⟨t, 0, none⟩ = some (.slice (some ⟨x.g1, 0, none⟩) T.ps.length T.ps.length) := hx.cell 0
 have hl1 : (T.ps.length : Int) ≤ 1048576 := by omega
 have hpre : Hid (∀ k, k ≤ T.ps.length → allN T k <+: tbAll T) := fun k hk => allN_prefix T hk
 clear hB hx
 refine callsIn_of_wp Tryz.func100 rfl trivial ?_ rfl
 simp only [Tryz.ntmps100, List.size_toArray, List.length_cons, List.length_nil, Nat.reduceAdd, Nat.reduceSub, Array.replicate_succ, Array.replicate_zero, List.push_toArray, List.append_toArray, List.nil_append, List.cons_append]
 gi_wp2
 gi_loopw [11] (fun i wr => AllTRel A T (AllTIt bx t T * G) w0 i wr) (fun i _ => T.ps.length - (intOf i).toNat)
 case atStart => exact ⟨0, Nat.zero_le _, rfl, hs, h0⟩
 case round =>
  clear h0 hbx c0
  obtain ⟨k, hk, rfl, hside, hsat⟩ := hrel
  have hB : Sat wr (tableA t T * (pt bx (.cells #[.pointer (some ⟨t, 0, none⟩)] 96 (0, 0)) * (A (allN T k) * G))) := hsat.to (by unfold AllTIt; ac_rfl)
  have hbx := hB.front2.cell 0
  have ha := at_any wr t T (k : Int) _ hB
  by_cases hlt : k < T.ps.length
  ·have hlt' : (k : Int) < (T.ps.length : Int) := by omega
   have hsn := allN_succ T k
   have hpk := hpre.out (k + 1) (by omega)
   clear hB
   match hm : told T.ps (k : Int) with
   | none =>
    rw [hm] at ha hsn
    simp only [List.append_nil] at hsn
    have Hsn := hid hsn
    clear hsn hm hpk
    gi_wp2_with fail
    refine callW ha ?_
    rintro e w1 ⟨rfl, rfl⟩
    unfold toldV
    clear ha
    gi_wp2
    refine ⟨fun f hf => (by cases hf), ?_⟩
    gi_wp2
    go_roundw
    case rel => exact ⟨k + 1, by omega, by go_num, hside, by rw [Hsn.out]; exact hsat⟩
    case measure => simp [intOf]; omega
   | some p =>
    rw [hm] at ha hsn
    simp only at hsn
    rw [hsn] at hpk
    have hT2 : Sat wr (A (allN T k) * (pairT ((k : Int), p) #[.int .i64 (k : Int), .int .i64 p] * (AllTIt bx t T * G))) :=
     (Sat.fact_iff.2 ⟨rfl, hsat⟩ : Sat wr (fact _ * _)).to (by unfold pairT; ac_rfl)
    obtain ⟨fn, tmps, assign, body, hy, hR⟩ := hY _ ((k : Int), p) #[.int .i64 (k : Int), .int .i64 p] _ wr hpk hside hT2
    have Hsn := hid hsn; have Hpk := hid hpk
    clear hsn hm hpk hT2 hsat
    gi_wp2_with fail
    refine callW ha ?_
    rintro e w1 ⟨rfl, rfl⟩
    unfold toldV
    clear ha
    gi_wp2
    refine ⟨fun h => (by cases h), hR.mono ?_⟩
    rintro e W' (⟨rfl, hs5, hsat5⟩ | ⟨rfl, hs5, hsat5⟩)
    ·gi_wp2
     go_roundw
     case rel => exact ⟨k + 1, by omega, by go_num, hs5, by rw [Hsn.out]; exact hsat5⟩
     case measure => simp [intOf]; omega
    ·gi_wp2
     refine bodyPost_ret (results_none rfl _ _ _) rfl ?_
     exact ⟨⟨_, rfl⟩, hs5, .inr ⟨_, Hpk.out, hsat5⟩⟩
  ·obtain rfl : k = T.ps.length := by omega
   clear hB ha
   gi_wp2
   go_end0
   exact ⟨⟨_, rfl⟩, hside, .inl ⟨_, rfl, hsat⟩⟩
end Go.Proofs.YtdafdidmbeecfaaGreatDoor
end

/- ring: From, as an iterator. -/
import Derived.Test.YtlfooilcngjeiaaRg
namespace Go.Proofs.Ytlfooilcngjeiaa
set_option linter.unusedVariables false
set_option linter.unusedSimpArgs false
open Go.RowKit Go.SL
attribute [local go_sem] Oper.semAt_some
/-- What the iterator reads. -/
def FromIt (b5 b3 b7 r : Nat) (m first : Nat) : Assn :=
  pt b5 (.cells #[.int .i64 (m : Int)] 3 (0, 0)) * (pt b3 (.cells #[.pointer (some ⟨r, 0, none⟩)] 96 (0, 0)) * pt b7 (.cells #[.int .i64 (first : Int)] 3 (0, 0)))
def FromQ (r : Nat) (l : List Int) (m first : Nat) (F : Assn) (w : World) (e : Ending) (w' : World) : Prop :=
  ∃ b5 b3 b7, e = .returned (.func (.func 112) #[] #[.pointer (some ⟨b5, 0, none⟩), .pointer (some ⟨b3, 0, none⟩), .pointer (some ⟨b7, 0, none⟩)]) ∧ Sat w' (FromIt b5 b3 b7 r m first * (ringA r l * F)) ∧ Side w w'
theorem ringLen_enters : ∀ args w, (callFunc 44 args).run Try.prog w = .ok (.enter 44 args) w := enters Try.func44 (by kernel_rfl) rfl
set_option maxRecDepth 100000 in
set_option maxHeartbeats 1000000 in
theorem from_any (w : World) (r : Nat) (l : List Int) (a : Int) (m : Nat) (F : Assn) (h : Sat w (ringA r l * F)) (h0 : 0 < l.length) (h1 : l.length ≤ 1048576) (hm : m ≤ l.length) :
    Calls Try.prog 98 #[.pointer (some ⟨r, 0, none⟩), .int .i64 a, .int .i64 m] w (FromQ r l m (a % (l.length : Int)).toNat F w) := by
  obtain ⟨k, hk, hkl⟩ := mod_nat a h0
  have hA := (h.alloc (.cells #[.pointer (some ⟨r, 0, none⟩)] 96 (0, 0))).alloc (.cells #[.int .i64 m] 3 (0, 0))
  have hs := ((Side.refl w).alloc (.cells #[.pointer (some ⟨r, 0, none⟩)] 96 (0, 0))).alloc (.cells #[.int .i64 m] 3 (0, 0))
  rw [World.size_alloc] at hA
  rw [hk, Int.toNat_natCast]
  have hm0 : 0 ≤ (m : Int) := by omega
  have hm1 : (m : Int) ≤ (l.length : Int) := by omega
  go_enter Try.func98, Try.ntmps98
  go_wp2_with fail
  generalize (w.alloc (.cells #[.pointer (some ⟨r, 0, none⟩)] 96 (0, 0))).alloc (.cells #[.int .i64 m] 3 (0, 0)) = w1 at hA hs ⊢
  generalize w.heap.size + 1 = b5 at hA ⊢
  generalize w.heap.size = b3 at hA ⊢
  have hR : Sat w1 (ringA r l * (pt b3 (.cells #[.pointer (some ⟨r, 0, none⟩)] 96 (0, 0)) * (pt b5 (.cells #[.int .i64 m] 3 (0, 0)) * F))) := hA.to (by ac_rfl)
  have c5 : w1.cell? ⟨b5, 0, none⟩ = some (.int .i64 m) := hA.cell 0
  have f5 : w1.frozen? ⟨b5, 0, none⟩ = false := hA.frozen 0
  have c3 : w1.cell? ⟨b3, 0, none⟩ = some (.pointer (some ⟨r, 0, none⟩)) := hA.front2.cell 0
  have hlt5 : b5 < w1.heap.size := hA.lt
  have hlt3 : b3 < w1.heap.size := hA.front2.lt
  obtain ⟨BIG, hBIG⟩ : ∃ X, X = pt b5 (.cells #[.int .i64 m] 3 (0, 0)) * (pt b3 (.cells #[.pointer (some ⟨r, 0, none⟩)] 96 (0, 0)) * (ringA r l * F)) := ⟨_, rfl⟩
  have g5 : ∀ w', Sat w' BIG → w'.cell? ⟨b5, 0, none⟩ = some (.int .i64 m) := fun w' h => (hBIG ▸ h).cell 0
  have g3 : ∀ w', Sat w' BIG → w'.cell? ⟨b3, 0, none⟩ = some (.pointer (some ⟨r, 0, none⟩)) := fun w' h => (hBIG ▸ h).front2.cell 0
  have hA1 : Sat w1.drew BIG := hBIG ▸ hA
  have hA2 : Sat (w1.drew.alloc (.cells #[.int .i64 0] 3 (0, 0))) BIG := (hA1.alloc _).right
  have hA3 : Sat (w1.drew.alloc (.cells #[.int .i64 k] 3 (0, 0))) BIG := (hA1.alloc _).right
  have hA4 : Sat ((w1.setCell ⟨b5, 0, none⟩ (.int .i64 m)).alloc (.cells #[.int .i64 k] 3 (0, 0))).drew (pt w1.heap.size (.cells #[.int .i64 k] 3 (0, 0)) * BIG) := by
    have h := (hA.setCell 0 (.int .i64 m)).alloc (.cells #[.int .i64 k] 3 (0, 0))
    rw [show (w1.setCell ⟨b5, 0, none⟩ (.int .i64 m)).heap.size = w1.heap.size by simp [World.setCell]] at h
    rw [hBIG]
    exact h.to (by simp only [List.setIfInBounds_toArray, List.set_cons_zero])
  have hRB : ∀ w', Sat w' BIG → Sat w' (ringA r l * (pt b3 (.cells #[.pointer (some ⟨r, 0, none⟩)] 96 (0, 0)) * (pt b5 (.cells #[.int .i64 m] 3 (0, 0)) * F))) := fun w' h => (hBIG ▸ h).to (by ac_rfl)
  have Hp : Hid (∀ w', Sat w' BIG → Calls Try.prog 71 #[.pointer (some ⟨r, 0, none⟩), .int .i64 a] w' (IntIs k w')) := fun w' h => by
    have := place_any w' r l a _ (hRB w' h) h0 h1
    rwa [hk] at this
  have Hl : Hid (∀ w', Sat w' BIG → Calls Try.prog 44 #[.pointer (some ⟨r, 0, none⟩)] w' (IntIs l.length w')) := fun w' h => ringLen_any w' r l _ (hRB w' h)
  have hv0 : (if l.length < m then (l.length : Int) else (m : Int)) = (m : Int) := if_neg (by omega)
  have hv1 : (if (l.length : Int) < (if (m : Int) < 0 then 0 else (m : Int)) then (l.length : Int) else if (m : Int) < 0 then 0 else (m : Int)) = (m : Int) := by
    rw [if_neg (by omega : ¬ (m : Int) < 0), if_neg (by omega)]
  have Hv0 := SL.hid hv0
  have Hv1 := SL.hid hv1
  have HB := SL.hid hBIG
  clear h hk hR hA hBIG c5 c3 hRB hv0 hv1
  go_region_held3 (fun w' => Sat w' BIG) (first | assumption | (rw [Hv0.out]; exact hA4.right) | (rw [Hv1.out]; exact hA4.right) | exact hA4.right) (first
    | (go_at_call 71; (with_reducible refine (Hp.out _ (by assumption)).mono ?_); rintro e w2 ⟨rfl, rfl⟩)
    | (go_at_call 44; (with_reducible refine (Hl.out _ (by assumption)).mono ?_); rintro e w2 ⟨rfl, rfl⟩))
  all_goals
    first | rw [Hv0.out] | rw [Hv1.out]
    go_wp2
    go_ret
    refine ⟨b5, b3, w1.heap.size, rfl, ?_, ((hs.setCell _ _).alloc _).drew⟩
    exact hA4.to (by rw [HB.out]; unfold FromIt; ac_rfl)
/-- Places, from one on. -/
def places (n first m : Nat) : List Nat := (List.range m).map fun i => (first + i) % n
theorem places_length (n first m : Nat) : (places n first m).length = m := by simp [places]
theorem places_snoc (n first m k : Nat) (h : k < m) : (places n first m).take k ++ [(first + k) % n] = (places n first m).take (k + 1) := by
  rw [List.take_succ_eq_append_getElem (by rw [places_length]; exact h)]
  simp [places]
def fromT (l : List Int) (p : Nat) (vs : Array Value) : Assn := fact (vs = #[.int .i64 (p : Int), .int .i64 (l.getD p 0)])
def FromRel (A : List Nat → Assn) (n first m : Nat) (X : Assn) (w0 : World) (i : Value) (wr : World) : Prop :=
  ∃ k : Nat, k ≤ m ∧ i = .int .i64 (k : Int) ∧ Side w0 wr ∧ Sat wr (A ((places n first m).take k) * X)
set_option maxRecDepth 100000 in
set_option maxHeartbeats 2000000 in
theorem from_iter (n : Nat) (b5 b3 b7 r : Nat) (l : List Int) (m first : Nat) (h0 : 0 < l.length) (h1 : l.length ≤ 1048576) (hm : m ≤ l.length) (hf : first < l.length) :
    IteratesC (withR (ringA r l)) Fence.wide n Try.prog 112 #[.pointer (some ⟨b5, 0, none⟩), .pointer (some ⟨b3, 0, none⟩), .pointer (some ⟨b7, 0, none⟩)] (FromIt b5 b3 b7 r m first) (fromT l)
      (fun ys => ys = places l.length first m) (fun ys => ys <+: places l.length first m) := by
  rintro lp _ Ax G w0 w ⟨A, rfl⟩ hY hs h0'
  have hB : Sat w (pt b5 (.cells #[.int .i64 (m : Int)] 3 (0, 0)) * (pt b3 (.cells #[.pointer (some ⟨r, 0, none⟩)] 96 (0, 0)) * (pt b7 (.cells #[.int .i64 (first : Int)] 3 (0, 0)) * (ringA r l * (A [] * G))))) := h0'.to (by unfold FromIt; dsimp only; ac_rfl)
  have c5 := hB.cell 0
  have hm1 : (m : Int) ≤ 1048576 := by omega
  have hl1 : (l.length : Int) ≤ 1048576 := by omega
  clear hB
  refine callsIn_of_wp Try.func112 rfl trivial ?_ rfl
  simp only [Try.ntmps112, List.size_toArray, List.length_cons, List.length_nil, Nat.reduceAdd, Nat.reduceSub, Array.replicate_succ, Array.replicate_zero, List.push_toArray, List.append_toArray, List.nil_append, List.cons_append]
  gi_wp2
  gi_loopw [8] (fun i wr => FromRel (fun ys => ringA r l * A ys) l.length first m (FromIt b5 b3 b7 r m first * G) w0 i wr) (fun i _ => m - (intOf i).toNat)
  case atStart => exact ⟨0, Nat.zero_le _, rfl, hs, h0'⟩
  case round =>
    clear h0' c5
    obtain ⟨k, hk, rfl, hside, hsat⟩ := hrel
    replace hsat : Sat wr ((ringA r l * A ((places l.length first m).take k)) * (FromIt b5 b3 b7 r m first * G)) := hsat
    have hB : Sat wr (pt b5 (.cells #[.int .i64 (m : Int)] 3 (0, 0)) * (pt b3 (.cells #[.pointer (some ⟨r, 0, none⟩)] 96 (0, 0)) * (pt b7 (.cells #[.int .i64 (first : Int)] 3 (0, 0)) * (ringA r l * (A ((places l.length first m).take k) * G))))) := hsat.to (by unfold FromIt; ac_rfl)
    by_cases hlt : k < m
    · have hlt' : (k : Int) < (m : Int) := by omega
      have c3 := hB.front2.cell 0
      have c7 := hB.front3.cell 0
      have hgo := go_any wr r l (first : Int) (k : Int) _ hB.front4 h0 h1
      have hpk : ((first : Int) + (k : Int)) % (l.length : Int) = (((first + k) % l.length : Nat) : Int) := by simp
      rw [hpk] at hgo
      have hpl : (first + k) % l.length < l.length := Nat.mod_lt _ h0
      have hen := places_snoc l.length first m k hlt
      have hpre : (places l.length first m).take k ++ [(first + k) % l.length] <+: places l.length first m := by rw [hen]; exact List.take_prefix _ _
      generalize (first + k) % l.length = p at hgo hpl hen hpre
      have hpl' : (p : Int) < (l.length : Int) := by omega
      obtain ⟨g, hg⟩ := hB.front4.ringOpen
      have cr := hg.cell 0
      have cv : wr.cell? ⟨g, p, none⟩ = some (.int .i64 (l.getD p 0)) := (hg.front2.cell p).trans (get_ints_lt hpl)
      have hT : Sat wr ((ringA r l * A ((places l.length first m).take k)) * (fromT l p #[.int .i64 (p : Int), .int .i64 (l.getD p 0)] * (FromIt b5 b3 b7 r m first * G))) :=
        (Sat.fact_iff.2 ⟨rfl, hsat⟩ : Sat wr (fact _ * _)).to (by unfold fromT; ac_rfl)
      obtain ⟨fn, tmps, assign, body, hy, hR⟩ := hY _ p #[.int .i64 (p : Int), .int .i64 (l.getD p 0)] _ wr hpre hside hT
      have Hen := hid hen; have Hpre := hid hpre
      clear hT hsat hB hen hpre hg hpk
      generalize l.getD p 0 = v at cv hy
      gi_wp2_with fail
      refine callW hgo ?_
      rintro e w1 ⟨rfl, rfl⟩
      clear hgo
      gi_wp2
      refine ⟨fun h => (by cases h), hR.mono ?_⟩
      rintro e W' (⟨rfl, hs5, hsat5⟩ | ⟨rfl, hs5, hsat5⟩)
      · gi_wp2
        go_roundw
        case rel => exact ⟨k + 1, by omega, by go_num, hs5, by rw [← Hen.out]; exact hsat5⟩
        case measure => simp [intOf]; omega
      · gi_wp2
        refine bodyPost_ret (results_none rfl _ _ _) rfl ?_
        exact ⟨⟨_, rfl⟩, hs5, .inr ⟨_, Hpre.out, hsat5⟩⟩
    · obtain rfl : k = m := by omega
      have hfin : (places l.length first k).take k = places l.length first k := by
        have := places_length l.length first k
        exact List.take_of_length_le (by omega)
      rw [hfin] at hsat
      clear hB hfin
      gi_wp2
      go_end0
      exact ⟨⟨_, rfl⟩, hside, .inl ⟨_, rfl, hsat⟩⟩
end Go.Proofs.Ytlfooilcngjeiaa

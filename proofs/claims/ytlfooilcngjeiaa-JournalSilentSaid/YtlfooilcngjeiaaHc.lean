/- The laws of layer 8: a fresh journal; shown. -/
import Derived.Test.YtlfooilcngjeiaaHb
namespace Go.Proofs.Ytlfooilcngjeiaa
set_option linter.unusedVariables false
set_option linter.unusedSimpArgs false
open Go.RowKit Go.SL
def NoB : Hp := fun _ => none
theorem tbN_fresh (P n : Nat) : ∀ k, k ≤ n → tbN P (List.replicate n (-1)) k = Tb.fresh n P := by
  intro k
  induction k with
  | zero => intro _; simp [tbN]
  | succ k ih =>
    intro hk
    have : (List.replicate n (-1 : Int)).getD k 0 = -1 := by simp [List.getD, List.getElem?_replicate, show k < n by omega]
    rw [tbN, this, if_neg (by decide), ih (by omega)]
def J0 (P n : Nat) : Jr := Jr.ofS P (freshS n)
theorem J0_T (P n : Nat) : (J0 P n).T = Tb.fresh n P := by
  show tbN P (List.replicate n (-1)) (List.replicate n (-1 : Int)).length = _
  rw [List.length_replicate]; exact tbN_fresh P n n (Nat.le_refl _)
theorem fresh_right {P n : Nat} (hP : 1 ≤ P) (h0 : 1 ≤ n) (h1 : n ≤ 3840) : (freshS n).Right P :=
  ⟨show (1 : Int) ≤ 1 by decide, show (0 : Int) ≤ 281474976710655 by decide, show (1 : Int) ≤ 1 by decide, show (1 : Int) ≤ 0 + 1 by decide, show (0 : Int) ≤ 0 by decide, by show (0 : Int) < (P : Int); omega, show (0 : Int) ≤ 0 by decide, by show (0 : Int) ≤ (P : Int); omega, by simpa [freshS] using h0, by simpa [freshS] using h1, fun k hk => .inl (by
    have hk' : k < n := by simpa [freshS] using hk
    simp [freshS, List.getD, List.getElem?_replicate, hk'])⟩
theorem fresh_inv {P n : Nat} (hP : 1 ≤ P) (hP2 : P ≤ 19999) (h0 : 1 ≤ n) (h1 : n ≤ 3840) : JInv (J0 P n) (Dev.fresh (P + 1)) fun _ => none := by
  have hok := Jr.ofS_ok (fresh_right hP h0 h1) hP (by omega : P ≤ 20000)
  have hT := J0_T P n
  refine ⟨hok, ?_, ?_, rfl, ⟨rfl, rfl⟩, ?_, ?_, ?_, ?_, ?_, fun _ _ => rfl⟩
  · refine ⟨show (1 : Int) ≤ 1 by decide, show (1 : Int) < 4294967296 by decide, show (1 : Int) ≤ 1 by decide, show (1 : Int) ≤ 0 + 1 by decide, show (0 : Int) ≤ 0 by decide, show (0 : Int) ≤ 281474976710655 by decide, ?_, ?_⟩
    · show ((List.replicate n (-1 : Int)).length : Int) ≤ 3840
      rw [List.length_replicate]; omega
    · rw [hT]; exact ⟨fun v hv => .inl (List.eq_of_mem_replicate hv)⟩
  · exact ⟨by simp [Dev.fresh]; omega, by simp [Dev.fresh], by simp [Dev.fresh], by simp [Dev.fresh]⟩
  · show (P : Int) + 1 ≤ ((List.replicate (P + 1) ([] : List UInt8)).length : Int)
    rw [List.length_replicate]; omega
  · rw [hT]; exact Tb.fresh_con _ _
  · show (0 : Int) + 0 ≤ (P : Int); omega
  · intro p id h; rw [hT, (Tb.fresh_told n P p).2] at h; cases h
  · intro id p h; rw [hT, (Tb.fresh_told n P id).1] at h; cases h
theorem fresh_bound (P n : Nat) : JBound (J0 P n) := by
  intro k hk
  have h1 : (J0 P n).us = 0 := rfl
  have h2 : (J0 P n).n = ((List.replicate n (-1 : Int)).length : Int) := rfl
  have h3 := cntN_le (J0 P n).T (J0 P n).P (Jr.tail (J0 P n)) k
  rw [h1] at hk ⊢
  rw [h2, List.length_replicate]
  omega
theorem J0_n (P n : Nat) : (J0 P n).n = (n : Int) := by show ((List.replicate n (-1 : Int)).length : Int) = n; rw [List.length_replicate]
theorem rdI_sl {w : World} {v : Value} {l : List Int} {F : Assn} (h : Sat w (sl 3 1 v l.length (i64v l) * F)) : RdI w v l := by
  rcases h.slCases with ⟨rfl, h0, _, _⟩ | ⟨g, cap, cur, rfl, h3, h4, h5, h6, hF⟩
  · exact .inl ⟨rfl, List.eq_nil_of_length_eq_zero h0⟩
  · refine .inr ⟨g, 0, cap, rfl, h3, h4, fun k hk => ?_⟩
    rw [Nat.zero_add, hF.cell]
    have e := congrArg (·[k]?) h6
    simp only [List.getElem?_take, Nat.mul_one, hk, if_true, i64v, List.getElem?_map, Array.getElem?_toList] at e
    rw [e, List.getElem?_eq_getElem hk, List.getD, List.getElem?_eq_getElem hk]; rfl
/-- A fresh journal on a device. -/
theorem jfresh_any (w : World) (S : Hp) (d : Nat) (D : Dev) (F : Assn) (n P : Nat) (a : Value) (h : Sat w (devA S d D * F)) (hv : RdI w a (List.replicate n (-1))) (hP : 1 ≤ P) (hP2 : P ≤ 19999) (h0 : 1 ≤ n) (h1 : n ≤ 3840)
    (hD : P + 1 ≤ D.sec.length) (hD2 : D.sec.length ≤ 20000) :
    Calls Try.prog 14 #[ptV d, .int .i64 (P : Int), (freshS n).v a] w (JNewQ d (J0 P n) w) :=
  jnew_any w S d D F h P (freshS n) a hv hP (by omega) hD hD2 (show (0 : Int) ≤ 0 by decide) (fresh_right hP h0 h1)
theorem devLen (n : Nat) : (Dev.fresh n).sec.length = n := by simp [Dev.fresh]
/-- Writes of one's own may be handed to Commit. -/
theorem wrsA_reads (S : Hp) (v : Value) (L : Wo) (h480 : ∀ x ∈ L, x.2.2.length = 480) (F : Assn) : Reads S v L.wr (wrsA v L * F) := by
  intro S' X w' _ hs
  have hl : L.wr.length = L.length := by simp [Wo.wr]
  refine ⟨?_, ?_⟩
  · have : Sat w' (sl 53 2 v L.wr.length (SL.flatW L.wr) * (X * (pool S' * (blksA (L.map fun x => (x.1, x.2.2)) * F)))) := hs.to (by unfold wrsA; rw [hl]; ac_rfl)
    exact rdW_of_sl this
  · have hb : Sat w' (blksA (L.map fun x => (x.1, x.2.2)) * (X * (pool S' * (sl 53 2 v L.length (SL.flatW L.wr) * F)))) := hs.to (by unfold wrsA; ac_rfl)
    intro z hz
    obtain ⟨x, hx, rfl⟩ := List.mem_map.1 hz
    have : ∀ (M : List (Nat × List UInt8)) (G : Assn), Sat w' (blksA M * G) → ∀ y ∈ M, w'.heap[y.1]? = some (.cells (u8s y.2) 5 (0, 0)) := by
      intro M
      induction M with
      | nil => intro G _ y hy; cases hy
      | cons y M ih =>
        intro G h z hz
        have h' : Sat w' (pt y.1 (.cells (u8s y.2) 5 (0, 0)) * (blksA M * G)) := h.to (star_assoc _ _ _)
        rcases List.mem_cons.1 hz with rfl | hz
        · exact h'.heap
        · exact ih G h'.right z hz
    have h1 := this _ _ hb (x.1, x.2.2) (List.mem_map.2 ⟨x, hx, rfl⟩)
    have := rd_row (c := 480) h1
    rw [h480 x hx] at this
    exact this
/-- A batch of one's own writes. -/
theorem commitW_any (w : World) (S : Hp) (j d : Nat) (J : Jr) (D : Dev) (F : Assn) (v : Value) (L : Wo) (has : Has) (h : Sat w (jrA j d J * (devA S d D * (pool S * (wrsA v L * F))))) (hI : JInv J D has) (h480 : ∀ x ∈ L, x.2.2.length = 480) (hl : L.length ≤ 1000) (B : Bool) (hB : B = true ↔ mayW J.n L.wr) :
    Calls Try.prog 21 #[ptV j, v] w (CommitQ S j d (jcommit J D B L.bl) (wrsA v L * F) w) := by
  have := jcommit_any w S j d J D (wrsA v L * F) v L.wr h hI.ok hI.nums hI.dok (by simp [Wo.wr]; omega) (wrsA_reads S v L h480 F) B hB
  have e : plainW L.wr = L.bl := by
    unfold plainW Wo.wr Wo.bl
    rw [List.map_map]; rfl
  rw [e] at this
  exact this
theorem batch_may {n : Int} {L : Wo} (h : mayW n L.wr) : Batch n L.bl := by
  have hl : L.wr.length = L.bl.length := by simp [Wo.wr, Wo.bl]
  have hmem : ∀ x ∈ L.bl, ∃ z ∈ L.wr, z.1 = x.1 ∧ z.2.2 = x.2 := by
    intro x hx
    obtain ⟨y, hy, rfl⟩ := List.mem_map.1 hx
    exact ⟨_, List.mem_map.2 ⟨y, hy, rfl⟩, rfl, rfl⟩
  refine ⟨by rw [← hl]; exact h.n0, by rw [← hl]; exact h.n1, ?_, ?_, ?_⟩
  · intro x hx
    obtain ⟨z, hz, e1, e2⟩ := hmem x hx
    have := mayW_mem h hz
    rw [← e1]; exact ⟨this.1, this.2.1⟩
  · intro x hx
    obtain ⟨z, hz, e1, e2⟩ := hmem x hx
    rw [← e2]; exact (mayW_mem h hz).2.2
  · have e : L.bl.map Prod.fst = L.wr.map Prod.fst := by unfold Wo.bl Wo.wr; rw [List.map_map, List.map_map]; rfl
    rw [e, List.Nodup, List.pairwise_iff_getElem]
    intro i k hi hk hik
    rw [List.length_map] at hi hk
    have hok := (h.ok k hk)
    unfold okW at hok
    have h4 := hok.2.2.2
    intro heq
    apply h4
    rw [List.getElem_map, List.getElem_map] at heq
    rw [List.getD, List.getElem?_eq_getElem hk, Option.getD_some, ← heq]
    refine List.mem_map.2 ⟨L.wr[i], ?_, rfl⟩
    rw [List.mem_take_iff_getElem]
    exact ⟨i, by omega, rfl⟩
theorem may_batch {n : Int} {L : Wo} (h : Batch n L.bl) : mayW n L.wr := by
  have hl : L.wr.length = L.bl.length := by simp [Wo.wr, Wo.bl]
  refine ⟨by rw [hl]; exact h.n0, by rw [hl]; exact h.n1, fun k hk => ?_⟩
  have hk' : k < L.bl.length := by omega
  have hk'' : k < L.length := by simpa [Wo.wr] using hk
  have hmem := List.getElem_mem hk'
  have e1 : (L.wr.getD k Wr.nil).1 = L.bl[k].1 := by rw [List.getD, List.getElem?_eq_getElem hk]; simp [Wo.wr, Wo.bl]
  have e2 : (L.wr.getD k Wr.nil).2.2 = L.bl[k].2 := by rw [List.getD, List.getElem?_eq_getElem hk]; simp [Wo.wr, Wo.bl]
  have hid := h.id _ hmem
  refine ⟨by rw [e1]; exact hid.1, by rw [e1]; exact hid.2, by rw [e2]; exact h.b480 _ hmem, ?_⟩
  rw [e1]
  intro hx
  obtain ⟨z, hz, hz2⟩ := List.mem_map.1 hx
  rw [List.mem_take_iff_getElem] at hz
  obtain ⟨i, hi, rfl⟩ := hz
  have hi' : i < L.bl.length := by omega
  have e3 : (L.wr[i]'(by omega)).1 = L.bl[i].1 := by simp [Wo.wr, Wo.bl]
  have hnd := h.nd
  rw [List.Nodup, List.pairwise_iff_getElem] at hnd
  have := hnd i k (by rw [List.length_map]; exact hi') (by rw [List.length_map]; exact hk') (by omega)
  apply this
  rw [List.getElem_map, List.getElem_map, ← hz2, e3]
end Go.Proofs.Ytlfooilcngjeiaa

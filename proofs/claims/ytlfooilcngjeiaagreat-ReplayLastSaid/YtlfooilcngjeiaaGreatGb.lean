/- The laws of layer 8: rows of bytes that are kept; may. The laws of layer 8: a journal at work; what came in. Plain: a journal that is made of another one's state keeps the same. -/
import Derived.Test.YtlfooilcngjeiaaGreatHc
import Derived.BigQuiet
import Derived.Deep.QuietTactic
namespace Go.SL
set_option linter.unusedVariables false
set_option linter.unusedSimpArgs false
open Go.RowKit
/-- A part of a heap in which values read as bytes. -/
def Keeps (B : Assn) (R : List (Value × List UInt8)) : Prop := ∀ (X : Assn) (w : World), Sat w (B * X) → ∀ p ∈ R, Rd w p.1 p.2
theorem Keeps.nil : Keeps emp [] := fun _ _ _ _ h => by cases h
theorem Keeps.more {B : Assn} {R : List (Value × List UInt8)} (h : Keeps B R) (Y : Assn) : Keeps (B * Y) R := fun X w hs => h (Y * X) w (hs.to (star_assoc _ _ _))
theorem Keeps.snoc {B : Assn} {R : List (Value × List UInt8)} (h : Keeps B R) (T : TypeId) (v : Value) (l : List UInt8) : Keeps (bs T v l * B) (R ++ [(v, l)]) := fun X w hs p hp => by
  have hs' : Sat w (bs T v l * (B * X)) := hs.to (star_assoc _ _ _)
  rcases List.mem_append.1 hp with hp | hp
  · exact h X w hs'.right p hp
  · rw [List.mem_singleton.1 hp]; exact hs'.bsRd
theorem Keeps.set {B : Assn} {R : List (Value × List UInt8)} (h : Keeps B R) (k : Nat) (v : Value) (l : List UInt8) (hv : ∀ X w, Sat w (B * X) → Rd w v l) : Keeps B (R.set k (v, l)) := fun X w hs p hp => by
  rcases List.mem_or_eq_of_mem_set hp with hp | rfl
  · exact h X w hs p hp
  · exact hv X w hs
theorem Keeps.get {B : Assn} {R : List (Value × List UInt8)} (h : Keeps B R) {X : Assn} {w : World} (hs : Sat w (B * X)) {k : Nat} (hk : k < R.length) : Rd w R[k].1 R[k].2 := h X w hs _ (List.getElem_mem hk)
end Go.SL
namespace Go.Proofs.YtlfooilcngjeiaaGreat
set_option linter.unusedVariables false
set_option linter.unusedSimpArgs false
open Go.RowKit Go.SL
/-- append of one row of bytes to a slice of rows. -/
theorem append_row {w : World} {v : Value} {xs : List Value} {F : Assn} {n : Nat} (h : Sat w (sl 39 1 v n xs * F)) (x : Value) (hx1 : x.oneCell' = true) (hl : n ≤ 1000) :
    ∃ a c w', (Builtin.append_ #[47, 47] 47 #[v, .slice (some ⟨w.heap.size, 0, none⟩) 1 1]).run Tryz.prog (w.alloc (.cells #[x] 39 (0, 0))) = .ok (.slice a (n + 1) c) w' ∧
      Sat w' (sl 39 1 (.slice a (n + 1) c) (n + 1) (xs ++ [x]) * F) ∧ Side w w' := by
  obtain ⟨i0, hi, hz, hs0, hb0⟩ := info_parts info_bytes
  have hA := h.alloc (.cells #[x] 39 (0, 0))
  have hR : Rds (w.alloc (.cells #[x] 39 (0, 0))) 1 (.slice (some ⟨w.heap.size, 0, none⟩) 1 1) 1 [x] :=
    ⟨rfl, .inr ⟨_, _, rfl, fun j u hu => by
      rw [Addr.add_lit, Nat.zero_add]
      exact (hA.cell j).trans (by simpa using hu)⟩⟩
  obtain ⟨v', w', hrun, hsat', hside'⟩ := Sat.append (P := Tryz.prog) (ty := 47) Tryz.underlying47 hi hz hs0 hb0 rfl hA.right hR (by simpa using hx1) (by unfold maxLen; omega) (by omega)
  obtain ⟨a, c, rfl⟩ := sl_shape hsat'
  exact ⟨a, c, w', hrun, hsat', ((Side.refl w).alloc _).trans hside'⟩
/-- A block of writes of one's own reads as its bytes. -/
theorem blks_rd {L : List (Nat × List UInt8)} {X : Assn} {w : World} (h : Sat w (blksA L * X)) {p : Nat × List UInt8} (hp : p ∈ L) (h480 : p.2.length = 480) : Rd w (.slice (some ⟨p.1, 0, none⟩) 480 480) p.2 := by
  have : ∀ (M : List (Nat × List UInt8)) (G : Assn), Sat w (blksA M * G) → ∀ y ∈ M, w.heap[y.1]? = some (.cells (u8s y.2) 5 (0, 0)) := by
    intro M
    induction M with
    | nil => intro G _ y hy; cases hy
    | cons y M ih =>
      intro G h z hz
      have h' : Sat w (pt y.1 (.cells (u8s y.2) 5 (0, 0)) * (blksA M * G)) := h.to (star_assoc _ _ _)
      rcases List.mem_cons.1 hz with rfl | hz
      · exact h'.heap
      · exact ih G h'.right z hz
  have := rd_row (c := 480) (this _ _ h p hp)
  rwa [h480] at this
/-- Cells of a slice of writes. -/
theorem wrsA_cells {w : World} {v : Value} {L : Wo} {F : Assn} (h : Sat w (wrsA v L * F)) (h0 : 0 < L.length) :
    ∃ b c, v = .slice (some ⟨b, 0, none⟩) L.length c ∧ L.length ≤ c ∧ c ≤ maxLen := by
  unfold wrsA at h
  rcases (h.to (star_assoc _ _ _)).slCases with ⟨_, h1, _, _⟩ | ⟨g, cap, cur, rfl, h3, h4, _, _, _⟩
  · omega
  · exact ⟨g, cap, rfl, h3, h4⟩
theorem flatW_get {Z : List Wr} {n : Nat} (hn : n < Z.length) : (SL.flatW Z)[n * 2]? = some (.int .i64 Z[n].1) ∧ (SL.flatW Z)[n * 2 + 1]? = some Z[n].2.1 := by
  induction Z generalizing n with
  | nil => exact absurd hn (Nat.not_lt_zero _)
  | cons z Z ih =>
    cases n with
    | zero => exact ⟨rfl, rfl⟩
    | succ n =>
      have hn' : n < Z.length := by simpa using hn
      have := ih hn'
      have e : SL.flatW (z :: Z) = .int .i64 z.1 :: z.2.1 :: SL.flatW Z := rfl
      rw [e, show (n + 1) * 2 = n * 2 + 2 by omega, show n * 2 + 2 + 1 = (n * 2 + 1) + 2 by omega]
      simpa using this
theorem wrsA_cell {w : World} {b c n : Nat} {L : Wo} {F : Assn} (h : Sat w (wrsA (.slice (some ⟨b, 0, none⟩) L.length c) L * F)) (hn : n < L.length) :
    w.cell? ⟨b, n * 2, none⟩ = some (.int .i64 L[n].2.1) ∧ w.cell? ⟨b, n * 2 + 1, none⟩ = some (.slice (some ⟨L[n].1, 0, none⟩) 480 480) := by
  unfold wrsA at h
  have hw : n < (Wo.wr L).length := by simpa [Wo.wr] using hn
  obtain ⟨e1, e2⟩ := flatW_get hw
  have e3 : (Wo.wr L)[n].1 = L[n].2.1 := by simp [Wo.wr]
  have e4 : (Wo.wr L)[n].2.1 = .slice (some ⟨L[n].1, 0, none⟩) 480 480 := by simp [Wo.wr]
  rw [e3] at e1; rw [e4] at e2
  rcases (h.to (star_assoc _ _ _)).slCases with ⟨_, h1, _, _⟩ | ⟨g, cap, cur, hv, h3, h4, h5, h6, hs⟩
  · omega
  · injection hv with hv _ _
    injection hv with hv
    injection hv with hv _ _
    subst hv
    have key : ∀ k u, k < L.length * 2 → (SL.flatW (Wo.wr L))[k]? = some u → w.cell? ⟨b, k, none⟩ = some u := fun k u hk hu => by
      rw [hs.cell]
      rw [← h6, List.getElem?_take, if_pos hk, Array.getElem?_toList] at hu
      exact hu
    exact ⟨key _ _ (by omega) e1, key _ _ (by omega) e2⟩
end Go.Proofs.YtlfooilcngjeiaaGreat
namespace Go.Proofs.YtlfooilcngjeiaaGreat
open Go.RowKit Go.SL
def okI (n : Int) (l : List Int) (k : Nat) : Prop := 0 ≤ l.getD k 0 ∧ l.getD k 0 < n ∧ ∀ i, i < k → l.getD i 0 ≠ l.getD k 0
structure MayI (n : Int) (l : List Int) : Prop where
  n0 : 1 ≤ l.length
  n1 : l.length ≤ 24
  ok : ∀ k, k < l.length → okI n l k
def MayQ (B : Bool) (w : World) (e : Ending) (w' : World) : Prop := e = .returned (.bool B) ∧ ∃ m, w' = w.drewN m
def MayRel1 (n : Int) (l : List Int) (w : World) (u : Value) (wr : World) : Prop := ∃ k m : Nat, k ≤ l.length ∧ u = .int .i64 (k : Int) ∧ wr = w.drewN m ∧ ∀ i, i < k → okI n l i
def MayRel2 (l : List Int) (k : Nat) (w : World) (u : Value) (wr : World) : Prop := ∃ j m : Nat, j ≤ k ∧ u = .int .i64 (j : Int) ∧ wr = w.drewN m ∧ ∀ i, i < j → l.getD i 0 ≠ l.getD k 0
theorem drewN_add (w : World) (a b : Nat) : (w.drewN a).drewN b = w.drewN (a + b) := by simp [World.drewN, Nat.add_assoc]
end Go.Proofs.YtlfooilcngjeiaaGreat
namespace Go.Proofs.YtlfooilcngjeiaaGreat
set_option linter.unusedVariables false
set_option linter.unusedSimpArgs false
open Go.RowKit Go.SL
/-- A journal of ten blocks at work: the whole of what was there ahead beside it. -/
def S1Rel (m j d B : Nat) (w : World) (u : Value) (wr : World) : Prop :=
  ∃ (i : Nat) (S : Hp) (J : Jr) (D : Dev) (has : Has), i ≤ m ∧ u = .int .i64 (i : Int) ∧ JW 10 200 (B + i) J D has ∧ Sat wr (jrA j d J * (devA S d D * (pool S * whole w))) ∧ Side w wr
theorem IsSteps.cell {w : World} {a : Option Addr} {len cap : Nat} {X : Nat → StepV} (h : IsSteps w a len cap X) {i : Nat} (hi : i < len) :
    ∃ b off, a = some ⟨b, off, none⟩ ∧ w.cell? ⟨b, off + i * 3, none⟩ = some (.slice (X i).a (X i).len (X i).cap) ∧ w.cell? ⟨b, off + i * 3 + 1, none⟩ = some (.int .i64 (X i).data) ∧ w.cell? ⟨b, off + i * 3 + 2, none⟩ = some (.int .i64 (X i).n) ∧ IsInts w (X i).a (X i).len (X i).cap (X i).zs ∧ len ≤ cap ∧ cap ≤ 9223372036854775807 := by
  rcases h with rfl | ⟨b, off, rfl, hl, hm, hc⟩
  · omega
  · obtain ⟨c0, c1, c2, c3⟩ := hc i hi
    exact ⟨b, off, rfl, c0, c1, c2, c3, hl, by simpa [maxLen] using hm⟩
theorem IsSteps.len_le {w : World} {a : Option Addr} {len cap : Nat} {X : Nat → StepV} (h : IsSteps w a len cap X) : len ≤ 9223372036854775807 := by
  rcases h with rfl | ⟨b, off, rfl, hl, hm, hc⟩
  · omega
  · unfold maxLen at hm; omega
theorem IsInts.keep {w w' : World} {a : Option Addr} {len cap : Nat} {zs : List Int} (h : IsInts w a len cap zs) (k : ∀ a u, w.cell? a = some u → w'.cell? a = some u) : IsInts w' a len cap zs := by
  rcases h with h | ⟨x, h1, h2, h3, h4, h5, h6⟩
  · exact .inl h
  · exact .inr ⟨x, h1, h2, h3, h4, fun i hi => k _ _ (h5 i hi), h6⟩
def S1Out (j d : Nat) (w wr : World) : Prop :=
  ∃ (B : Nat) (S : Hp) (J : Jr) (D : Dev) (has : Has), B ≤ 100 ∧ JW 10 200 B J D has ∧ Sat wr (jrA j d J * (devA S d D * (pool S * whole w))) ∧ Side w wr
end Go.Proofs.YtlfooilcngjeiaaGreat
namespace Go.Proofs.YtlfooilcngjeiaaGreat
set_option linter.unusedVariables false
set_option linter.unusedSimpArgs false
open Go.RowKit Go.SL
theorem ats_get (J : Jr) {k : Nat} (hk : k < J.T.ps.length) : (Jr.ats J).getD k 0 = (told J.T.ps (k : Int)).getD (-1) := by
  unfold Jr.ats
  rw [List.getD, List.getElem?_map, List.getElem?_range hk]
  rfl
theorem ats_length (J : Jr) : (Jr.ats J).length = J.T.ps.length := by unfold Jr.ats; rw [List.length_map, List.length_range]
theorem ahead_of {P hd us a : Int} (h0 : 0 ≤ hd) (h1 : hd < P) (hu : us ≤ P) (a0 : hd - us ≤ a) (a1 : a < hd) : jAhead P hd (a % P) ≤ us := by
  have hm : a % P = a ∨ a % P = a + P := by
    by_cases hn : 0 ≤ a
    · exact .inl (Int.emod_eq_of_lt hn (by omega))
    · right
      rw [← Int.add_emod_right]
      exact Int.emod_eq_of_lt (by omega) (by omega)
  unfold jAhead
  rcases hm with e | e <;> rw [e] <;> split <;> omega
theorem state_right {J : Jr} {D : Dev} {has : Has} (h : JInv J D has) (hn : 1 ≤ J.n) : (Jr.js J).Right J.P := by
  have hps := h.ok.ps
  have hl := ats_length J
  refine ⟨h.nums.ep0, h.nums.sq1, h.nums.st0, h.nums.st1, h.ok.hd0, h.ok.hd1, h.ok.us0, h.ok.us1, ?_, ?_, ?_⟩
  · show 1 ≤ (Jr.ats J).length; omega
  · show (Jr.ats J).length ≤ 3840; have := h.nums.n1; omega
  · intro k hk
    have hk' : k < J.T.ps.length := by rw [← hl]; exact hk
    unfold Js.okAt
    show (Jr.ats J).getD k 0 = -1 ∨ _
    rw [show (Jr.js J).at_ = Jr.ats J from rfl, ats_get J hk']
    cases ht : told J.T.ps (k : Int) with
    | none => exact .inl rfl
    | some p =>
      right
      have hp := h.place ht
      have ho := h.con.pq _ _ ht
      obtain ⟨a, a0, a1, rfl⟩ := h.win _ _ ho
      refine ⟨hp.1, hp.2, ?_, ahead_of h.ok.hd0 h.ok.hd1 h.ok.us1 a0 a1⟩
      intro hm
      obtain ⟨i, hi, e⟩ := List.mem_take_iff_getElem.1 hm
      have hi1 : i < (Jr.ats J).length := by omega
      have e2 : (Jr.ats J)[i] = (Jr.ats J).getD i 0 := by rw [List.getD, List.getElem?_eq_getElem hi1]; rfl
      have e3 : (told J.T.ps (i : Int)).getD (-1) = a % (J.P : Int) := by
        rw [← ats_get J (by omega), ← e2]; exact e
      cases hti : told J.T.ps (i : Int) with
      | none => rw [hti, Option.getD_none] at e3; omega
      | some p' =>
        rw [hti, Option.getD_some] at e3
        have ho' := h.con.pq _ _ hti
        rw [e3, ho] at ho'
        injection ho' with ho'
        omega
/-- The table that is made of the places. -/
structure TbK (J : Jr) (k : Nat) : Prop where
  con : (tbN J.P (Jr.ats J) k).Con
  ps : ∀ x, told (tbN J.P (Jr.ats J) k).ps x = if x < (k : Int) then told J.T.ps x else none
  os : ∀ q x, told (tbN J.P (Jr.ats J) k).os q = some x ↔ (told J.T.os q = some x ∧ x < (k : Int))
theorem tbK {J : Jr} (ok : J.Ok) (con : J.T.Con) : ∀ k, k ≤ J.T.ps.length → TbK J k := by
  intro k
  induction k with
  | zero =>
    intro _
    refine ⟨Tb.fresh_con _ _, fun x => ?_, fun q x => ?_⟩
    · show told (Tb.fresh (Jr.ats J).length J.P).ps x = _
      rw [(Tb.fresh_told _ _ x).1]
      split
      · rename_i hx
        cases ht : told J.T.ps x with
        | none => rfl
        | some p => have := told_range ht; omega
      · rfl
    · show told (Tb.fresh (Jr.ats J).length J.P).os q = some x ↔ _
      rw [(Tb.fresh_told _ _ q).2]
      constructor
      · intro h; cases h
      · rintro ⟨h1, h2⟩
        have := told_range (con.qp _ _ h1)
        omega
  | succ k ih =>
    intro hk
    obtain ⟨c1, c2, c3⟩ := ih (by omega)
    have hg := ats_get J (k := k) (by omega)
    have hlen := tbN_len J.P (Jr.ats J) k
    rw [ats_length] at hlen
    cases ht : told J.T.ps (k : Int) with
    | none =>
      rw [ht, Option.getD_none] at hg
      have e : tbN J.P (Jr.ats J) (k + 1) = tbN J.P (Jr.ats J) k := by rw [tbN, hg, if_neg (by decide)]
      refine ⟨by rw [e]; exact c1, fun x => ?_, fun q x => ?_⟩
      · rw [e, c2]
        by_cases hx : x < (k : Int)
        · rw [if_pos hx, if_pos (by omega)]
        · rw [if_neg hx]
          by_cases hx2 : x < ((k + 1 : Nat) : Int)
          · rw [if_pos hx2, show x = (k : Int) by omega, ht]
          · rw [if_neg hx2]
      · rw [e, c3]
        constructor
        · rintro ⟨a, b⟩; exact ⟨a, by omega⟩
        · rintro ⟨a, b⟩
          refine ⟨a, ?_⟩
          have : x ≠ (k : Int) := by
            rintro rfl
            have := con.qp _ _ a
            rw [ht] at this; cases this
          omega
    | some p =>
      rw [ht, Option.getD_some] at hg
      have ho := con.pq _ _ ht
      have hr := told_range ho
      have e : tbN J.P (Jr.ats J) (k + 1) = ((tbN J.P (Jr.ats J) k).put (k : Int) p).2 := by rw [tbN, hg, if_pos hr.1]
      have hos := ok.os
      have hfree : told (tbN J.P (Jr.ats J) k).os p = none := by
        cases hf : told (tbN J.P (Jr.ats J) k).os p with
        | none => rfl
        | some x =>
          obtain ⟨a, b⟩ := (c3 p x).1 hf
          rw [ho] at a; injection a with a; omega
      have i1 : (k : Int) < ((tbN J.P (Jr.ats J) k).ps.length : Int) := by rw [hlen.1]; omega
      have p1 : p < ((tbN J.P (Jr.ats J) k).os.length : Int) := by rw [hlen.2]; have := hr.2.1; omega
      have hps := Tb.put_ps c1 (by omega : (0 : Int) ≤ (k : Int)) i1 hr.1 p1 hfree
      have hoq := Tb.put_os c1 (by omega : (0 : Int) ≤ (k : Int)) i1 hr.1 p1 hfree
      have hkn : told (tbN J.P (Jr.ats J) k).ps (k : Int) = none := by rw [c2, if_neg (by omega)]
      refine ⟨by rw [e]; exact Tb.put_con c1 (by omega) i1 hr.1 p1 hfree, fun x => ?_, fun q x => ?_⟩
      · rw [e, hps, c2]
        by_cases hx : x = (k : Int)
        · rw [if_pos hx, if_pos (by omega), hx, ht]
        · rw [if_neg hx]
          by_cases hx2 : x < (k : Int)
          · rw [if_pos hx2, if_pos (by omega)]
          · rw [if_neg hx2, if_neg (by omega)]
      · rw [e, hoq, hkn]
        by_cases hq : q = p
        · subst hq
          rw [if_pos rfl]
          constructor
          · intro h; injection h with h; rw [← h]; exact ⟨ho, by omega⟩
          · rintro ⟨a, b⟩; rw [ho] at a; exact a
        · rw [if_neg hq, if_neg (by simp), c3]
          constructor
          · rintro ⟨a, b⟩; exact ⟨a, by omega⟩
          · rintro ⟨a, b⟩
            refine ⟨a, ?_⟩
            have : x ≠ (k : Int) := by
              rintro rfl
              have h1 := con.qp _ _ a
              rw [ht] at h1; injection h1 with h1; exact hq h1.symm
            omega
theorem made_inv {J : Jr} {D : Dev} {has : Has} (h : JInv J D has) (hn : 1 ≤ J.n) : JInv (Jr.ofS J.P (Jr.js J)) D has := by
  have hr := state_right h hn
  have hok := Jr.ofS_ok hr (by have := h.ok.p0; omega) h.ok.p1
  have hl := ats_length J
  have hk := tbK h.ok h.con J.T.ps.length (Nat.le_refl _)
  have hT : (Jr.ofS J.P (Jr.js J)).T = tbN J.P (Jr.ats J) J.T.ps.length := by
    show tbN J.P (Jr.ats J) (Jr.ats J).length = _; rw [hl]
  have hps : ∀ x, told (Jr.ofS J.P (Jr.js J)).T.ps x = told J.T.ps x := by
    intro x
    rw [hT, hk.ps]
    split
    · rfl
    · rename_i hx
      cases ht : told J.T.ps x with
      | none => rfl
      | some p => have := told_range ht; omega
  have hos : ∀ q x, told (Jr.ofS J.P (Jr.js J)).T.os q = some x → told J.T.os q = some x := fun q x hq => by
    rw [hT] at hq; exact ((hk.os q x).1 hq).1
  have hjn : (Jr.ofS J.P (Jr.js J)).n = J.n := by
    show ((Jr.ats J).length : Int) = _; rw [hl]; exact h.ok.ps
  refine ⟨hok, ⟨h.nums.ep0, h.nums.ep1, h.nums.st0, h.nums.st1, h.nums.sq0, h.nums.sq1, by rw [hjn]; exact h.nums.n1, ⟨?_⟩⟩, h.dok, rfl, h.calm, h.sec, by rw [hT]; exact hk.con, ?_, ?_, ?_, ?_⟩
  · rw [hT]
    have : ∀ k, k ≤ J.T.ps.length → (tbN J.P (Jr.ats J) k).Owns := by
      intro k
      induction k with
      | zero => intro _; exact ⟨fun v hv => .inl (List.eq_of_mem_replicate hv)⟩
      | succ k ih =>
        intro hk
        rw [tbN]
        split
        · exact Tb.put_owns (ih (by omega)) _ _
        · exact ih (by omega)
    exact (this _ (Nat.le_refl _)).os
  · show J.us + 0 ≤ (J.P : Int); have := h.ok.us1; omega
  · intro p id hp; exact h.win p id (hos p id hp)
  · intro id p hp; rw [hps] at hp; exact h.dat id p hp
  · intro id hp; rw [hps] at hp; exact h.non id hp
theorem made_told {J : Jr} {D : Dev} {has : Has} (h : JInv J D has) : ∀ x, told (Jr.ofS J.P (Jr.js J)).T.ps x = told J.T.ps x := by
  intro x
  have hl := ats_length J
  have hk := tbK h.ok h.con J.T.ps.length (Nat.le_refl _)
  have hT : (Jr.ofS J.P (Jr.js J)).T = tbN J.P (Jr.ats J) J.T.ps.length := by
    show tbN J.P (Jr.ats J) (Jr.ats J).length = _; rw [hl]
  rw [hT, hk.ps]
  split
  · rfl
  · rename_i hx
    cases ht : told J.T.ps x with
    | none => rfl
    | some p => have := told_range ht; omega
theorem made_bound {J : Jr} {D : Dev} {has : Has} (h : JInv J D has) (hb : JBound J) : JBound (Jr.ofS J.P (Jr.js J)) := by
  have hl := ats_length J
  have hk := tbK h.ok h.con J.T.ps.length (Nat.le_refl _)
  have hT : (Jr.ofS J.P (Jr.js J)).T = tbN J.P (Jr.ats J) J.T.ps.length := by
    show tbN J.P (Jr.ats J) (Jr.ats J).length = _; rw [hl]
  have hjn : (Jr.ofS J.P (Jr.js J)).n = J.n := by
    show ((Jr.ats J).length : Int) = _; rw [hl]; exact h.ok.ps
  have htail : Jr.tail (Jr.ofS J.P (Jr.js J)) = Jr.tail J := rfl
  intro k hu
  have hcnt : cntN (Jr.ofS J.P (Jr.js J)).T J.P (Jr.tail J) k ≤ cntN J.T J.P (Jr.tail J) k := by
    have := cnt_mono (T := J.T) (T' := (Jr.ofS J.P (Jr.js J)).T) (P := J.P) (f := Jr.tail J) (f' := Jr.tail J) (c := 0) k fun i hi hx => by
      rw [Nat.zero_add]
      obtain ⟨x, hx⟩ := Option.isSome_iff_exists.1 hx
      rw [hT] at hx
      rw [((hk.os _ x).1 hx).1]; rfl
    rw [Nat.zero_add] at this
    omega
  have := hb k hu
  rw [hjn, htail]
  show 2 * J.us - (k : Int) + 2 * (cntN (Jr.ofS J.P (Jr.js J)).T J.P (Jr.tail J) k : Int) ≤ 5 * J.n
  omega
theorem jw_made {n P B : Nat} {J : Jr} {D : Dev} {has : Has} (h : JW n P B J D has) (hn : 1 ≤ n) : JW n P B (Jr.ofS P (Jr.js J)) D has := by
  have hP := h.jP
  have hi := made_inv h.inv (by rw [h.jn]; omega)
  have hb := made_bound h.inv h.bound
  rw [hP] at hi hb
  exact ⟨hi, hb, by show ((Jr.ats J).length : Int) = _; rw [ats_length, h.inv.ok.ps, h.jn], rfl, h.ep, h.st, h.sq, h.cr0, h.cr1, h.cw0, h.cw1, h.cf0, h.cf1⟩
end Go.Proofs.YtlfooilcngjeiaaGreat
namespace Go.Proofs.YtlfooilcngjeiaaGreat
open Go.RowKit Go.SL
theorem jw_cr {n P B : Nat} {J : Jr} {D : Dev} {has : Has} (h : JW n P B J D has) {r : Int} (h0 : D.cr ≤ r) (h1 : r ≤ D.cr + 1) : JW n P (B + 1) J { D with cr := r } has := by
  have hm := jw_more h (Nat.le_succ B)
  have e1 := h.cr0; have e2 := h.cr1
  exact ⟨hm.inv.cr _, hm.bound, hm.jn, hm.jP, hm.ep, hm.st, hm.sq, by show 0 ≤ r; omega, by show r ≤ _; omega, hm.cw0, hm.cw1, hm.cf0, hm.cf1⟩
def JReadCQ (S : Hp) (j d : Nat) (J : Jr) (D : Dev) (has : Has) (id : Int) (F : Assn) (w : World) (e : Ending) (w' : World) : Prop :=
  ∃ dv r, e = .returned (.tuple #[dv, .int .i64 0]) ∧ Sat w' (bs 5 dv ((has id).getD (zs 480)) * (jrA j d J * (devA S d { D with cr := r } * (pool S * F)))) ∧ Side w w' ∧ D.cr ≤ r ∧ r ≤ D.cr + 1
theorem jreadC_any (w : World) (S : Hp) (j d : Nat) (J : Jr) (D : Dev) (F : Assn) (has : Has) {n P B : Nat} (h : Sat w (jrA j d J * (devA S d D * (pool S * F)))) (hW : JW n P B J D has) (hB : B ≤ 1000000) {id : Int} (h0 : 0 ≤ id) (h1 : id < (n : Int)) :
    Calls Tryz.prog 16 #[ptV j, .int .i64 id] w (JReadCQ S j d J D has id F w) := by
  have hr := hW.inv.read h0 (by rw [hW.jn]; exact h1)
  have e1 := hW.cr0; have e2 := hW.cr1
  have hw : i64w (D.cr + 1) = D.cr + 1 := by simp only [i64w, wrap64]; omega
  have := jread_any w S j d J D id F h hW.inv.ok hW.inv.dok
  rw [hr] at this
  cases ht : (told J.T.ps id).isSome with
  | false =>
    rw [ht] at this
    simp only [Bool.false_eq_true, if_false] at this
    exact this.mono fun e w' ⟨dv, a, b, c⟩ => ⟨dv, D.cr, a, b.ansYes, c, by omega, by omega⟩
  | true =>
    rw [ht] at this
    simp only [if_true] at this
    exact this.mono fun e w' ⟨dv, a, b, c⟩ => ⟨dv, i64w (D.cr + 1), a, b.ansYes, c, by omega, by omega⟩
/-- Two blocks at least have what they must. -/
def RowsOf (has : Has) (R : List (Value × List UInt8)) : Prop := ∀ (k : Nat) p, R[k]? = some p → p.2 = (has (k : Int)).getD (zs 480)
theorem RowsOf.snoc {has : Has} {R : List (Value × List UInt8)} (h : RowsOf has R) (v : Value) : RowsOf has (R ++ [(v, (has (R.length : Int)).getD (zs 480))]) := by
  intro k p hp
  rcases Nat.lt_trichotomy k R.length with hk | hk | hk
  · rw [List.getElem?_append_left hk] at hp; exact h k p hp
  · subst hk; simp at hp; rw [← hp]
  · rw [List.getElem?_append_right (by omega), List.getElem?_eq_none (by simp; omega)] at hp; cases hp
def updR (R : List (Value × List UInt8)) (L : Wo) (n : Nat) : List (Value × List UInt8) := (L.take n).foldl (fun R x => R.set x.2.1.toNat (.slice (some ⟨x.1, 0, none⟩) 480 480, x.2.2)) R
theorem updR_succ (R : List (Value × List UInt8)) (L : Wo) {n : Nat} (hn : n < L.length) : updR R L (n + 1) = (updR R L n).set L[n].2.1.toNat (.slice (some ⟨L[n].1, 0, none⟩) 480 480, L[n].2.2) := by
  unfold updR
  rw [List.take_succ_eq_append_getElem hn, List.foldl_append]; rfl
theorem updR_len (R : List (Value × List UInt8)) (L : Wo) : ∀ n, n ≤ L.length → (updR R L n).length = R.length := by
  intro n
  induction n with
  | zero => intro _; simp [updR]
  | succ n ih => intro hn; rw [updR_succ R L (by omega), List.length_set]; exact ih (by omega)
theorem updR_rows {has : Has} {R : List (Value × List UInt8)} {L : Wo} {m : Nat} (h : RowsOf has R) (hb : Batch (m : Int) L.bl) : ∀ n, n ≤ L.length → RowsOf (updB has (L.bl.take n)) (updR R L n) := by
  have hll := bl_len L
  intro n
  induction n with
  | zero => intro _ k p hp; have := h k p (by simpa [updR] using hp); simpa [updB, kget] using this
  | succ n ih =>
    intro hn k p hp
    have hn' : n < L.length := by omega
    have hnb : n < L.bl.length := by omega
    have ih' := ih (by omega)
    rw [updR_succ R L hn'] at hp
    have e0 : L.bl[n] = (L[n].2.1, L[n].2.2) := by simp [Wo.bl]
    have hid := hb.id _ (List.getElem_mem hnb)
    rw [e0] at hid
    have hupd : updB has (L.bl.take (n + 1)) (k : Int) = ((kget (L.bl.take n) (k : Int)).or (if L[n].2.1 = (k : Int) then some L[n].2.2 else none)).or (has (k : Int)) := by
      unfold updB
      rw [List.take_succ_eq_append_getElem hnb, kget_append, kget_cons, e0]
      rfl
    rw [hupd]
    have hnone : L[n].2.1 = (k : Int) → kget (L.bl.take n) (k : Int) = none := by
      intro he
      cases hg : kget (L.bl.take n) (k : Int) with
      | none => rfl
      | some x =>
        exfalso
        have hm : (k : Int) ∈ (L.bl.take n).map Prod.fst := by
          unfold kget at hg
          cases hf : (L.bl.take n).find? (fun p => p.1 == (k : Int)) with
          | none => rw [hf] at hg; cases hg
          | some q =>
            have h1 := List.mem_of_find?_eq_some hf
            have h2 := List.find?_some hf
            exact List.mem_map.2 ⟨q, h1, by simpa using h2⟩
        obtain ⟨q, hq, hq2⟩ := List.mem_map.1 hm
        rw [List.mem_take_iff_getElem] at hq
        obtain ⟨i, hi, rfl⟩ := hq
        have hnd := hb.nd
        rw [List.Nodup, List.pairwise_iff_getElem] at hnd
        have := hnd i n (by rw [List.length_map]; omega) (by rw [List.length_map]; omega) (by omega)
        apply this
        rw [List.getElem_map, List.getElem_map, hq2, e0]
        exact he.symm
    by_cases hk : k = L[n].2.1.toNat
    · have hkk : L[n].2.1 = (k : Int) := by omega
      rw [hnone hkk, if_pos hkk]
      rw [← hk] at hp
      by_cases hkl : k < (updR R L n).length
      · rw [List.getElem?_set_self hkl] at hp
        injection hp with hp
        rw [← hp]; rfl
      · rw [List.getElem?_eq_none (by rw [List.length_set]; omega)] at hp; cases hp
    · have hkk : L[n].2.1 ≠ (k : Int) := by omega
      rw [if_neg hkk, Option.or_none]
      rw [List.getElem?_set_ne (by omega)] at hp
      exact ih' k p hp
end Go.Proofs.YtlfooilcngjeiaaGreat

/- Steps towards the statement StoreC. -/
import Derived.Test.YtdafdidmbeecfaaGreatDoorStoreCP28
import Derived.Test.YtdafdidmbeecfaaGreatDoorStoreCP27
import Derived.OpenShut
import Derived.Deep.DeepCutAuto
import Derived.Deep.CutBlock
import Derived.Deep.CutRange
section
namespace Go.SL
set_option linter.unusedVariables false
set_option linter.unusedSimpArgs false
open Go.RowKit
def bj (n : Int) : List UInt8 := (List.range 480).map fun i : Nat => UInt8.ofInt (n + (i : Int))
theorem bj_len (n : Int) : (bj n).length = 480 := by simp [bj]
def bjN (n : Int) (k : Nat) : List UInt8 := ((List.range k).map fun i : Nat => UInt8.ofInt (n + (i : Int))) ++ zs (480 - k)
theorem bjN_set (n : Int) (k : Nat) (h : k < 480) : (bjN n k).set k (UInt8.ofInt (n + (k : Int))) = bjN n (k + 1) := by
 have hl : ((List.range k).map fun i : Nat => UInt8.ofInt (n + (i : Int))).length = k := by simp
 unfold bjN
 rw [List.set_append_right _ _ (by omega), hl, Nat.sub_self, List.range_succ, List.map_append, List.append_assoc]
 congr 1
 unfold zs
 rw [show 480 - k = (480 - (k + 1)) + 1 by omega, List.replicate_succ]
 simp
theorem bjN_len (n : Int) (k : Nat) (h : k ≤ 480) : (bjN n k).length = 480 := by simp [bjN, zs]; omega
theorem ofInt_congr {a b : Int} (h : a % 256 = b % 256) : UInt8.ofInt a = UInt8.ofInt b := by
 apply UInt8.toNat_inj.1
 have := u8_ofInt a
 have := u8_ofInt b
 omega
theorem bj_congr {a b : Int} (h : a % 256 = b % 256) : bj a = bj b := by
 unfold bj
 refine List.map_congr_left fun i _ => ofInt_congr (by omega)
theorem rd_row {T : TypeId} {w : World} {g : Nat} {l : List UInt8} {c : Nat} (h : w.heap[g]? = some (.cells (u8s l) T (0, 0))) : Rd w (.slice (some ⟨g, 0, none⟩) l.length c) l := by
 refine ⟨by simp, .inr ⟨_, _, rfl, ?_⟩⟩
 have := At_of_take (n := l.length) h
 rwa [show (u8s l).toList.take l.length = l.map u8 from by simp [u8s, List.take_of_length_le]] at this
end Go.SL
namespace Go.Proofs.YtdafdidmbeecfaaGreatDoor
set_option linter.unusedVariables false
set_option linter.unusedSimpArgs false
open Go.RowKit Go.SL
def BlockQ (n : Int) (w : World) (e : Ending) (w' : World) : Prop :=
 ∃ g, e = .returned (.slice (some ⟨g, 0, none⟩) 480 480) ∧ Sat w' (pt g (.cells (u8s (bj n)) 5 (0, 0)) * whole w) ∧ Side w w'
theorem rd_bj {w : World} {g : Nat} {n : Int} {F : Assn} (h : Sat w (pt g (.cells (u8s (bj n)) 5 (0, 0)) * F)) : Rd w (.slice (some ⟨g, 0, none⟩) 480 480) (bj n) := by
 have := rd_row (c := 480) h.heap
 rwa [bj_len] at this
def BlockRel (g : Nat) (n : Int) (w : World) (u : Value) (wr : World) : Prop :=
 ∃ k : Nat, k ≤ 480 ∧ u = .int .i64 (k : Int) ∧ Sat wr (pt g (.cells (u8s (bjN n k)) 5 (0, 0)) * whole w) ∧ Side w wr
def freshS (n : Nat) : Js := ⟨1, 1, 0, 0, 0, List.replicate n (-1)⟩
end Go.Proofs.YtdafdidmbeecfaaGreatDoor
namespace Go.Proofs.YtdafdidmbeecfaaGreatDoor
set_option linter.unusedVariables false
set_option linter.unusedSimpArgs false
open Go.RowKit Go.SL
def IsInts (w : World) (a : Option Addr) (len cap : Nat) (zs : List Int) : Prop :=
 (a = none ∧ len = 0 ∧ cap = 0 ∧ zs = []) ∨
 ∃ x, a = some x ∧ len ≤ cap ∧ cap ≤ maxLen ∧ zs.length = cap ∧ (∀ i, i < zs.length → w.cell? (x.add i) = some (.int .i64 (zs.getD i 0))) ∧ ∀ n ∈ zs, (Lit.int .i64 n).wf = true
theorem IsInts.cell {w : World} {a : Option Addr} {len cap : Nat} {zs : List Int} (h : IsInts w a len cap zs) {i : Nat} (hi : i < len) :
  ∃ b off, a = some ⟨b, off, none⟩ ∧ w.cell? ⟨b, off + i, none⟩ = some (.int .i64 (zs.getD i 0)) ∧ len ≤ cap ∧ cap ≤ 9223372036854775807 := by
 rcases h with ⟨_, rfl, _⟩ | ⟨x, rfl, hl, hm, hz, hc, _⟩
 ·omega
 ·obtain ⟨b, off, rfl, hc'⟩ := ints_at hc (by omega)
  exact ⟨b, off, rfl, hc' i (by omega), hl, by simpa [maxLen] using hm⟩
theorem IsInts.len_le {w : World} {a : Option Addr} {len cap : Nat} {zs : List Int} (h : IsInts w a len cap zs) : len ≤ 9223372036854775807 := by
 rcases h with ⟨_, rfl, _⟩ | ⟨x, rfl, hl, hm, _⟩
 ·omega
 ·simp only [maxLen] at hm; omega
structure StepV where
 a : Option Addr
 len : Nat
 cap : Nat
 zs : List Int
 data : Int
 n : Int
def StepV.v (s : StepV) : Value := .agg #[.slice s.a s.len s.cap, .int .i64 s.data, .int .i64 s.n]
def IsSteps (w : World) (a : Option Addr) (len cap : Nat) (X : Nat → StepV) : Prop :=
 len = 0 ∨ ∃ b off, a = some ⟨b, off, none⟩ ∧ len ≤ cap ∧ cap ≤ maxLen ∧ ∀ i, i < len →
  w.cell? ⟨b, off + i * 3, none⟩ = some (.slice (X i).a (X i).len (X i).cap) ∧ w.cell? ⟨b, off + i * 3 + 1, none⟩ = some (.int .i64 (X i).data) ∧ w.cell? ⟨b, off + i * 3 + 2, none⟩ = some (.int .i64 (X i).n) ∧ IsInts w (X i).a (X i).len (X i).cap (X i).zs
def blksA (L : List (Nat × List UInt8)) : Assn := L.foldr (fun p A => pt p.1 (.cells (u8s p.2) 5 (0, 0)) * A) emp
theorem blksA_snoc (L : List (Nat × List UInt8)) (g : Nat) (l : List UInt8) : blksA (L ++ [(g, l)]) = pt g (.cells (u8s l) 5 (0, 0)) * blksA L := by
 induction L with
 | nil => rfl
 | cons x L ih =>
  show pt x.1 _ * blksA (L ++ [(g, l)]) = _ * (pt x.1 _ * blksA L)
  rw [ih]; exact star_left_comm _ _ _
abbrev Wo := List (Nat × Int × List UInt8)
def Wo.wr (L : Wo) : List Wr := L.map fun x => (x.2.1, .slice (some ⟨x.1, 0, none⟩) 480 480, x.2.2)
def Wo.bl (L : Wo) : Bl := L.map fun x => (x.2.1, x.2.2)
def wrsA (v : Value) (L : Wo) : Assn := sl 57 2 v L.length (SL.flatW L.wr) * blksA (L.map fun x => (x.1, x.2.2))
def stepW (zs : List Int) (data : Int) (k : Nat) : Bl := (List.range k).map fun i : Nat => (zs.getD i 0, bj (data + (i : Int)))
theorem append_write {w : World} {v : Value} {Z : List Wr} {F : Assn} {n : Nat} (h : Sat w (sl 57 2 v n (SL.flatW Z) * F)) (id : Int) (g : Nat) (l : List UInt8) (hl : n ≤ 1000) :
  ∃ a c w', (Builtin.append_ #[46, 46] 46 #[v, .slice (some ⟨w.heap.size, 0, none⟩) 1 1]).run Tryz.prog (w.alloc (.cells #[.int .i64 id, .slice (some ⟨g, 0, none⟩) 480 480] 57 (0, 0))) = .ok (.slice a (n + 1) c) w' ∧
   Sat w' (sl 57 2 (.slice a (n + 1) c) (n + 1) (SL.flatW (Z ++ [(id, .slice (some ⟨g, 0, none⟩) 480 480, l)])) * F) ∧ Side w w' := by
 obtain ⟨i0, hi, hz, hs0, hb0⟩ := info_parts info_write2
 have hA := h.alloc (.cells #[.int .i64 id, .slice (some ⟨g, 0, none⟩) 480 480] 57 (0, 0))
 have hR : Rds (w.alloc (.cells #[.int .i64 id, .slice (some ⟨g, 0, none⟩) 480 480] 57 (0, 0))) 2 (.slice (some ⟨w.heap.size, 0, none⟩) 1 1) 1 [.int .i64 id, .slice (some ⟨g, 0, none⟩) 480 480] :=
  ⟨rfl, .inr ⟨_, _, rfl, fun j u hu => by
   rw [Addr.add_lit, Nat.zero_add]
   exact (hA.cell j).trans (by simpa using hu)⟩⟩
 obtain ⟨v', w', hrun, hsat', hside'⟩ := Sat.append (P := Tryz.prog) (ty := 46) Tryz.underlying46 hi hz hs0 hb0 rfl hA.right hR (by simp [Value.oneCell']) (by unfold maxLen; omega) (by omega)
 obtain ⟨a, c, rfl⟩ := sl_shape hsat'
 exact ⟨a, c, w', hrun, by rw [flatW_snoc]; exact hsat', ((Side.refl w).alloc _).trans hside'⟩
def WritesQ (zs : List Int) (data : Int) (k : Nat) (w : World) (e : Ending) (w' : World) : Prop :=
 ∃ v L, e = .returned v ∧ Wo.bl L = stepW zs data k ∧ Sat w' (wrsA v L * whole w) ∧ Side w w'
theorem Wo.len {L : Wo} {zs : List Int} {data : Int} {k : Nat} (h : Wo.bl L = stepW zs data k) : L.length = k := by
 have := congrArg List.length h
 simpa [Wo.bl, stepW] using this
end Go.Proofs.YtdafdidmbeecfaaGreatDoor
namespace Go.Proofs.YtdafdidmbeecfaaGreatDoor
set_option linter.unusedVariables false
set_option linter.unusedSimpArgs false
open Go.RowKit Go.SL
def NoB : Hp := fun _ => none
theorem tbN_fresh (P n : Nat) : ∀ k, k ≤ n → tbN P (List.replicate n (-1)) k = Tb.fresh n P := by
 intro k
 induction k with
 | zero => intro _; simp [tbN]
 | succ k ih =>
  intro hk
  have : (List.replicate n (-1 : Int)).getD k 0 = -1 := by simp [List.getD, List.getElem?_replicate, show k < n by omega]
  rw [tbN, this, if_neg (by decide), ih (by omega)]
def J0 (P n : Nat) : Jr := Jr.ofS P (freshS n)
theorem J0_T (P n : Nat) : (J0 P n).T = Tb.fresh n P := by
 show tbN P (List.replicate n (-1)) (List.replicate n (-1 : Int)).length = _
 rw [List.length_replicate]; exact tbN_fresh P n n (Nat.le_refl _)
theorem fresh_right {P n : Nat} (hP : 1 ≤ P) (h0 : 1 ≤ n) (h1 : n ≤ 3840) : (freshS n).Right P :=
 ⟨show (1 : Int) ≤ 1 by decide, show (0 : Int) ≤ 281474976710655 by decide, show (1 : Int) ≤ 1 by decide, show (1 : Int) ≤ 0 + 1 by decide, show (0 : Int) ≤ 0 by decide, by show (0 : Int) < (P : Int); omega, show (0 : Int) ≤ 0 by decide, by show (0 : Int) ≤ (P : Int); omega, by simpa [freshS] using h0, by simpa [freshS] using h1, fun k hk => .inl (by
  have hk' : k < n := by simpa [freshS] using hk
  simp [freshS, List.getD, List.getElem?_replicate, hk'])⟩
theorem fresh_inv {P n : Nat} (hP : 1 ≤ P) (hP2 : P ≤ 19999) (h0 : 1 ≤ n) (h1 : n ≤ 3840) : JInv (J0 P n) (Dev.fresh (P + 1)) fun _ => none := by
 have hok := Jr.ofS_ok (fresh_right hP h0 h1) hP (by omega : P ≤ 20000)
 have hT := J0_T P n
 refine ⟨hok, ?_, ?_, rfl, ⟨rfl, rfl⟩, ?_, ?_, ?_, ?_, ?_, fun _ _ => rfl⟩
 ·refine ⟨show (1 : Int) ≤ 1 by decide, show (1 : Int) < 4294967296 by decide, show (1 : Int) ≤ 1 by decide, show (1 : Int) ≤ 0 + 1 by decide, show (0 : Int) ≤ 0 by decide, show (0 : Int) ≤ 281474976710655 by decide, ?_, ?_⟩
  ·show ((List.replicate n (-1 : Int)).length : Int) ≤ 3840
   rw [List.length_replicate]; omega
  ·rw [hT]; exact ⟨fun v hv => .inl (List.eq_of_mem_replicate hv)⟩
 ·exact ⟨by simp [Dev.fresh]; omega, by simp [Dev.fresh], by simp [Dev.fresh], by simp [Dev.fresh]⟩
 ·show (P : Int) + 1 ≤ ((List.replicate (P + 1) ([] : List UInt8)).length : Int)
  rw [List.length_replicate]; omega
 ·rw [hT]; exact Tb.fresh_con _ _
 ·show (0 : Int) + 0 ≤ (P : Int); omega
 ·intro p id h; rw [hT, (Tb.fresh_told n P p).2] at h; cases h
 ·intro id p h; rw [hT, (Tb.fresh_told n P id).1] at h; cases h
theorem fresh_bound (P n : Nat) : JBound (J0 P n) := by
 intro k hk
 have h1 : (J0 P n).us = 0 := rfl
 have h2 : (J0 P n).n = ((List.replicate n (-1 : Int)).length : Int) := rfl
 have h3 := cntN_le (J0 P n).T (J0 P n).P (Jr.tail (J0 P n)) k
 rw [h1] at hk ⊢
 rw [h2, List.length_replicate]
 omega
theorem J0_n (P n : Nat) : (J0 P n).n = (n : Int) := by show ((List.replicate n (-1 : Int)).length : Int) = n; rw [List.length_replicate]
theorem rdI_sl {w : World} {v : Value} {l : List Int} {F : Assn} (h : Sat w (sl 3 1 v l.length (i64v l) * F)) : RdI w v l := by
 rcases h.slCases with ⟨rfl, h0, _, _⟩ | ⟨g, cap, cur, rfl, h3, h4, h5, h6, hF⟩
 ·exact .inl ⟨_, _, rfl, List.eq_nil_of_length_eq_zero h0⟩
 ·refine .inr ⟨g, 0, cap, rfl, h3, h4, fun k hk => ?_⟩
  rw [Nat.zero_add, hF.cell]
  have e := congrArg (·[k]?) h6
  simp only [List.getElem?_take, Nat.mul_one, hk, if_true, i64v, List.getElem?_map, Array.getElem?_toList] at e
  rw [e, List.getElem?_eq_getElem hk, List.getD, List.getElem?_eq_getElem hk]; rfl
theorem devLen (n : Nat) : (Dev.fresh n).sec.length = n := by simp [Dev.fresh]
theorem wrsA_reads (S : Hp) (v : Value) (L : Wo) (h480 : ∀ x ∈ L, x.2.2.length = 480) (F : Assn) : Reads S v L.wr (wrsA v L * F) := by
 intro S' X w' _ hs
 have hl : L.wr.length = L.length := by simp [Wo.wr]
 refine ⟨?_, ?_⟩
 ·have : Sat w' (sl 57 2 v L.wr.length (SL.flatW L.wr) * (X * (pool S' * (blksA (L.map fun x => (x.1, x.2.2)) * F)))) := hs.to (by unfold wrsA; rw [hl]; ac_rfl)
  exact rdW_of_sl this
 ·have hb : Sat w' (blksA (L.map fun x => (x.1, x.2.2)) * (X * (pool S' * (sl 57 2 v L.length (SL.flatW L.wr) * F)))) := hs.to (by unfold wrsA; ac_rfl)
  intro z hz
  obtain ⟨x, hx, rfl⟩ := List.mem_map.1 hz
  have : ∀ (M : List (Nat × List UInt8)) (G : Assn), Sat w' (blksA M * G) → ∀ y ∈ M, w'.heap[y.1]? = some (.cells (u8s y.2) 5 (0, 0)) := by
   intro M
   induction M with
   | nil => intro G _ y hy; cases hy
   | cons y M ih =>
    intro G h z hz
    have h' : Sat w' (pt y.1 (.cells (u8s y.2) 5 (0, 0)) * (blksA M * G)) := h.to (star_assoc _ _ _)
    rcases List.mem_cons.1 hz with rfl | hz
    ·exact h'.heap
    ·exact ih G h'.right z hz
  have h1 := this _ _ hb (x.1, x.2.2) (List.mem_map.2 ⟨x, hx, rfl⟩)
  have := rd_row (c := 480) h1
  rw [h480 x hx] at this
  exact this
theorem may_batch {n : Int} {L : Wo} (h : Batch n L.bl) : mayW n L.wr := by
 have hl : L.wr.length = L.bl.length := by simp [Wo.wr, Wo.bl]
 refine ⟨by rw [hl]; exact h.n0, by rw [hl]; exact h.n1, fun k hk => ?_⟩
 have hk' : k < L.bl.length := by omega
 have hk'' : k < L.length := by simpa [Wo.wr] using hk
 have hmem := List.getElem_mem hk'
 have e1 : (L.wr.getD k Wr.nil).1 = L.bl[k].1 := by rw [List.getD, List.getElem?_eq_getElem hk]; simp [Wo.wr, Wo.bl]
 have e2 : (L.wr.getD k Wr.nil).2.2 = L.bl[k].2 := by rw [List.getD, List.getElem?_eq_getElem hk]; simp [Wo.wr, Wo.bl]
 have hid := h.id _ hmem
 refine ⟨by rw [e1]; exact hid.1, by rw [e1]; exact hid.2, by rw [e2]; exact h.b480 _ hmem, ?_⟩
 rw [e1]
 intro hx
 obtain ⟨z, hz, hz2⟩ := List.mem_map.1 hx
 rw [List.mem_take_iff_getElem] at hz
 obtain ⟨i, hi, rfl⟩ := hz
 have hi' : i < L.bl.length := by omega
 have e3 : (L.wr[i]'(by omega)).1 = L.bl[i].1 := by simp [Wo.wr, Wo.bl]
 have hnd := h.nd
 rw [List.Nodup, List.pairwise_iff_getElem] at hnd
 have := hnd i k (by rw [List.length_map]; exact hi') (by rw [List.length_map]; exact hk') (by omega)
 apply this
 rw [List.getElem_map, List.getElem_map, ← hz2, e3]
end Go.Proofs.YtdafdidmbeecfaaGreatDoor
namespace Go.Proofs.YtdafdidmbeecfaaGreatDoor
set_option linter.unusedVariables false
set_option linter.unusedSimpArgs false
open Go.RowKit Go.SL
theorem bl_len (L : Wo) : (Wo.bl L).length = L.length := by simp [Wo.bl]
def ShownQ (w : World) (e : Ending) (w' : World) : Prop := e = .returned (.bool true) ∧ Sat w' (whole w) ∧ Side w w'
end Go.Proofs.YtdafdidmbeecfaaGreatDoor
end

/- Steps towards the statement StoreC. -/
import Derived.Test.YtdafdidmbeecfaaGreatDoorStoreCP32
import Derived.BigQuiet
import Derived.Deep.QuietTactic
section
namespace Go.SL
set_option linter.unusedVariables false
set_option linter.unusedSimpArgs false
open Go.RowKit
def Keeps (B : Assn) (R : List (Value × List UInt8)) : Prop := ∀ (X : Assn) (w : World), Sat w (B * X) → ∀ p ∈ R, Rd w p.1 p.2
theorem Keeps.nil : Keeps emp [] := fun _ _ _ _ h => by cases h
theorem Keeps.more {B : Assn} {R : List (Value × List UInt8)} (h : Keeps B R) (Y : Assn) : Keeps (B * Y) R := fun X w hs => h (Y * X) w (hs.to (star_assoc _ _ _))
theorem Keeps.snoc {B : Assn} {R : List (Value × List UInt8)} (h : Keeps B R) (T : TypeId) (v : Value) (l : List UInt8) : Keeps (bs T v l * B) (R ++ [(v, l)]) := fun X w hs p hp => by
 have hs' : Sat w (bs T v l * (B * X)) := hs.to (star_assoc _ _ _)
 rcases List.mem_append.1 hp with hp | hp
 ·exact h X w hs'.right p hp
 ·rw [List.mem_singleton.1 hp]; exact hs'.bsRd
theorem Keeps.set {B : Assn} {R : List (Value × List UInt8)} (h : Keeps B R) (k : Nat) (v : Value) (l : List UInt8) (hv : ∀ X w, Sat w (B * X) → Rd w v l) : Keeps B (R.set k (v, l)) := fun X w hs p hp => by
 rcases List.mem_or_eq_of_mem_set hp with hp | rfl
 ·exact h X w hs p hp
 ·exact hv X w hs
theorem Keeps.get {B : Assn} {R : List (Value × List UInt8)} (h : Keeps B R) {X : Assn} {w : World} (hs : Sat w (B * X)) {k : Nat} (hk : k < R.length) : Rd w R[k].1 R[k].2 := h X w hs _ (List.getElem_mem hk)
end Go.SL
namespace Go.Proofs.YtdafdidmbeecfaaGreatDoor
set_option linter.unusedVariables false
set_option linter.unusedSimpArgs false
open Go.RowKit Go.SL
theorem flatW_get {Z : List Wr} {n : Nat} (hn : n < Z.length) : (SL.flatW Z)[n * 2]? = some (.int .i64 Z[n].1) ∧ (SL.flatW Z)[n * 2 + 1]? = some Z[n].2.1 := by
 induction Z generalizing n with
 | nil => exact absurd hn (Nat.not_lt_zero _)
 | cons z Z ih =>
  cases n with
  | zero => exact ⟨rfl, rfl⟩
  | succ n =>
   have hn' : n < Z.length := by simpa using hn
   have := ih hn'
   have e : SL.flatW (z :: Z) = .int .i64 z.1 :: z.2.1 :: SL.flatW Z := rfl
   rw [e, show (n + 1) * 2 = n * 2 + 2 by omega, show n * 2 + 2 + 1 = (n * 2 + 1) + 2 by omega]
   simpa using this
end Go.Proofs.YtdafdidmbeecfaaGreatDoor
namespace Go.Proofs.YtdafdidmbeecfaaGreatDoor
set_option linter.unusedVariables false
set_option linter.unusedSimpArgs false
open Go.RowKit Go.SL
theorem IsSteps.cell {w : World} {a : Option Addr} {len cap : Nat} {X : Nat → StepV} (h : IsSteps w a len cap X) {i : Nat} (hi : i < len) :
  ∃ b off, a = some ⟨b, off, none⟩ ∧ w.cell? ⟨b, off + i * 3, none⟩ = some (.slice (X i).a (X i).len (X i).cap) ∧ w.cell? ⟨b, off + i * 3 + 1, none⟩ = some (.int .i64 (X i).data) ∧ w.cell? ⟨b, off + i * 3 + 2, none⟩ = some (.int .i64 (X i).n) ∧ IsInts w (X i).a (X i).len (X i).cap (X i).zs ∧ len ≤ cap ∧ cap ≤ 9223372036854775807 := by
 rcases h with rfl | ⟨b, off, rfl, hl, hm, hc⟩
 ·omega
 ·obtain ⟨c0, c1, c2, c3⟩ := hc i hi
  exact ⟨b, off, rfl, c0, c1, c2, c3, hl, by simpa [maxLen] using hm⟩
theorem IsSteps.len_le {w : World} {a : Option Addr} {len cap : Nat} {X : Nat → StepV} (h : IsSteps w a len cap X) : len ≤ 9223372036854775807 := by
 rcases h with rfl | ⟨b, off, rfl, hl, hm, hc⟩
 ·omega
 ·unfold maxLen at hm; omega
theorem IsInts.keep {w w' : World} {a : Option Addr} {len cap : Nat} {zs : List Int} (h : IsInts w a len cap zs) (k : ∀ a u, w.cell? a = some u → w'.cell? a = some u) : IsInts w' a len cap zs := by
 rcases h with h | ⟨x, h1, h2, h3, h4, h5, h6⟩
 ·exact .inl h
 ·exact .inr ⟨x, h1, h2, h3, h4, fun i hi => k _ _ (h5 i hi), h6⟩
end Go.Proofs.YtdafdidmbeecfaaGreatDoor
namespace Go.Proofs.YtdafdidmbeecfaaGreatDoor
set_option linter.unusedVariables false
set_option linter.unusedSimpArgs false
open Go.RowKit Go.SL
theorem ats_get (J : Jr) {k : Nat} (hk : k < J.T.ps.length) : (Jr.ats J).getD k 0 = (told J.T.ps (k : Int)).getD (-1) := by
 unfold Jr.ats
 rw [List.getD, List.getElem?_map, List.getElem?_range hk]
 rfl
theorem ats_length (J : Jr) : (Jr.ats J).length = J.T.ps.length := by unfold Jr.ats; rw [List.length_map, List.length_range]
theorem ahead_of {P hd us a : Int} (h0 : 0 ≤ hd) (h1 : hd < P) (hu : us ≤ P) (a0 : hd - us ≤ a) (a1 : a < hd) : jAhead P hd (a % P) ≤ us := by
 have hm : a % P = a ∨ a % P = a + P := by
  by_cases hn : 0 ≤ a
  ·exact .inl (Int.emod_eq_of_lt hn (by omega))
  ·right
   rw [← Int.add_emod_right]
   exact Int.emod_eq_of_lt (by omega) (by omega)
 unfold jAhead
 rcases hm with e | e <;> rw [e] <;> split <;> omega
theorem state_right {J : Jr} {D : Dev} {has : Has} (h : JInv J D has) (hn : 1 ≤ J.n) : (Jr.js J).Right J.P := by
 have hps := h.ok.ps
 have hl := ats_length J
 refine ⟨h.nums.ep0, h.nums.sq1, h.nums.st0, h.nums.st1, h.ok.hd0, h.ok.hd1, h.ok.us0, h.ok.us1, ?_, ?_, ?_⟩
 ·show 1 ≤ (Jr.ats J).length; omega
 ·show (Jr.ats J).length ≤ 3840; have := h.nums.n1; omega
 ·intro k hk
  have hk' : k < J.T.ps.length := by rw [← hl]; exact hk
  unfold Js.okAt
  show (Jr.ats J).getD k 0 = -1 ∨ _
  rw [show (Jr.js J).at_ = Jr.ats J from rfl, ats_get J hk']
  cases ht : told J.T.ps (k : Int) with
  | none => exact .inl rfl
  | some p =>
   right
   have hp := h.place ht
   have ho := h.con.pq _ _ ht
   obtain ⟨a, a0, a1, rfl⟩ := h.win _ _ ho
   refine ⟨hp.1, hp.2, ?_, ahead_of h.ok.hd0 h.ok.hd1 h.ok.us1 a0 a1⟩
   intro hm
   obtain ⟨i, hi, e⟩ := List.mem_take_iff_getElem.1 hm
   have hi1 : i < (Jr.ats J).length := by omega
   have e2 : (Jr.ats J)[i] = (Jr.ats J).getD i 0 := by rw [List.getD, List.getElem?_eq_getElem hi1]; rfl
   have e3 : (told J.T.ps (i : Int)).getD (-1) = a % (J.P : Int) := by
    rw [← ats_get J (by omega), ← e2]; exact e
   cases hti : told J.T.ps (i : Int) with
   | none => rw [hti, Option.getD_none] at e3; omega
   | some p' =>
    rw [hti, Option.getD_some] at e3
    have ho' := h.con.pq _ _ hti
    rw [e3, ho] at ho'
    injection ho' with ho'
    omega
structure TbK (J : Jr) (k : Nat) : Prop where
 con : (tbN J.P (Jr.ats J) k).Con
 ps : ∀ x, told (tbN J.P (Jr.ats J) k).ps x = if x < (k : Int) then told J.T.ps x else none
 os : ∀ q x, told (tbN J.P (Jr.ats J) k).os q = some x ↔ (told J.T.os q = some x ∧ x < (k : Int))
theorem tbK {J : Jr} (ok : J.Ok) (con : J.T.Con) : ∀ k, k ≤ J.T.ps.length → TbK J k := by
 intro k
 induction k with
 | zero =>
  intro _
  refine ⟨Tb.fresh_con _ _, fun x => ?_, fun q x => ?_⟩
  ·show told (Tb.fresh (Jr.ats J).length J.P).ps x = _
   rw [(Tb.fresh_told _ _ x).1]
   split
   ·rename_i hx
    cases ht : told J.T.ps x with
    | none => rfl
    | some p => have := told_range ht; omega
   ·rfl
  ·show told (Tb.fresh (Jr.ats J).length J.P).os q = some x ↔ _
   rw [(Tb.fresh_told _ _ q).2]
   constructor
   ·intro h; cases h
   ·rintro ⟨h1, h2⟩
    have := told_range (con.qp _ _ h1)
    omega
 | succ k ih =>
  intro hk
  obtain ⟨c1, c2, c3⟩ := ih (by omega)
  have hg := ats_get J (k := k) (by omega)
  have hlen := tbN_len J.P (Jr.ats J) k
  rw [ats_length] at hlen
  cases ht : told J.T.ps (k : Int) with
  | none =>
   rw [ht, Option.getD_none] at hg
   have e : tbN J.P (Jr.ats J) (k + 1) = tbN J.P (Jr.ats J) k := by rw [tbN, hg, if_neg (by decide)]
   refine ⟨by rw [e]; exact c1, fun x => ?_, fun q x => ?_⟩
   ·rw [e, c2]
    by_cases hx : x < (k : Int)
    ·rw [if_pos hx, if_pos (by omega)]
    ·rw [if_neg hx]
     by_cases hx2 : x < ((k + 1 : Nat) : Int)
     ·rw [if_pos hx2, show x = (k : Int) by omega, ht]
     ·rw [if_neg hx2]
   ·rw [e, c3]
    constructor
    ·rintro ⟨a, b⟩; exact ⟨a, by omega⟩
    ·rintro ⟨a, b⟩
     refine ⟨a, ?_⟩
     have : x ≠ (k : Int) := by
      rintro rfl
      have := con.qp _ _ a
      rw [ht] at this; cases this
     omega
  | some p =>
   rw [ht, Option.getD_some] at hg
   have ho := con.pq _ _ ht
   have hr := told_range ho
   have e : tbN J.P (Jr.ats J) (k + 1) = ((tbN J.P (Jr.ats J) k).put (k : Int) p).2 := by rw [tbN, hg, if_pos hr.1]
   have hos := ok.os
   have hfree : told (tbN J.P (Jr.ats J) k).os p = none := by
    cases hf : told (tbN J.P (Jr.ats J) k).os p with
    | none => rfl
    | some x =>
     obtain ⟨a, b⟩ := (c3 p x).1 hf
     rw [ho] at a; injection a with a; omega
   have i1 : (k : Int) < ((tbN J.P (Jr.ats J) k).ps.length : Int) := by rw [hlen.1]; omega
   have p1 : p < ((tbN J.P (Jr.ats J) k).os.length : Int) := by rw [hlen.2]; have := hr.2.1; omega
   have hps := Tb.put_ps c1 (by omega : (0 : Int) ≤ (k : Int)) i1 hr.1 p1 hfree
   have hoq := Tb.put_os c1 (by omega : (0 : Int) ≤ (k : Int)) i1 hr.1 p1 hfree
   have hkn : told (tbN J.P (Jr.ats J) k).ps (k : Int) = none := by rw [c2, if_neg (by omega)]
   refine ⟨by rw [e]; exact Tb.put_con c1 (by omega) i1 hr.1 p1 hfree, fun x => ?_, fun q x => ?_⟩
   ·rw [e, hps, c2]
    by_cases hx : x = (k : Int)
    ·rw [if_pos hx, if_pos (by omega), hx, ht]
    ·rw [if_neg hx]
     by_cases hx2 : x < (k : Int)
     ·rw [if_pos hx2, if_pos (by omega)]
     ·rw [if_neg hx2, if_neg (by omega)]
   ·rw [e, hoq, hkn]
    by_cases hq : q = p
    ·subst hq
     rw [if_pos rfl]
     constructor
     ·intro h; injection h with h; rw [← h]; exact ⟨ho, by omega⟩
     ·rintro ⟨a, b⟩; rw [ho] at a; exact a
    ·rw [if_neg hq, if_neg (by simp), c3]
     constructor
     ·rintro ⟨a, b⟩; exact ⟨a, by omega⟩
     ·rintro ⟨a, b⟩
      refine ⟨a, ?_⟩
      have : x ≠ (k : Int) := by
       rintro rfl
       have h1 := con.qp _ _ a
       rw [ht] at h1; injection h1 with h1; exact hq h1.symm
      omega
theorem made_inv {J : Jr} {D : Dev} {has : Has} (h : JInv J D has) (hn : 1 ≤ J.n) : JInv (Jr.ofS J.P (Jr.js J)) D has := by
 have hr := state_right h hn
 have hok := Jr.ofS_ok hr (by have := h.ok.p0; omega) h.ok.p1
 have hl := ats_length J
 have hk := tbK h.ok h.con J.T.ps.length (Nat.le_refl _)
 have hT : (Jr.ofS J.P (Jr.js J)).T = tbN J.P (Jr.ats J) J.T.ps.length := by
  show tbN J.P (Jr.ats J) (Jr.ats J).length = _; rw [hl]
 have hps : ∀ x, told (Jr.ofS J.P (Jr.js J)).T.ps x = told J.T.ps x := by
  intro x
  rw [hT, hk.ps]
  split
  ·rfl
  ·rename_i hx
   cases ht : told J.T.ps x with
   | none => rfl
   | some p => have := told_range ht; omega
 have hos : ∀ q x, told (Jr.ofS J.P (Jr.js J)).T.os q = some x → told J.T.os q = some x := fun q x hq => by
  rw [hT] at hq; exact ((hk.os q x).1 hq).1
 have hjn : (Jr.ofS J.P (Jr.js J)).n = J.n := by
  show ((Jr.ats J).length : Int) = _; rw [hl]; exact h.ok.ps
 refine ⟨hok, ⟨h.nums.ep0, h.nums.ep1, h.nums.st0, h.nums.st1, h.nums.sq0, h.nums.sq1, by rw [hjn]; exact h.nums.n1, ⟨?_⟩⟩, h.dok, rfl, h.calm, h.sec, by rw [hT]; exact hk.con, ?_, ?_, ?_, ?_⟩
 ·rw [hT]
  have : ∀ k, k ≤ J.T.ps.length → (tbN J.P (Jr.ats J) k).Owns := by
   intro k
   induction k with
   | zero => intro _; exact ⟨fun v hv => .inl (List.eq_of_mem_replicate hv)⟩
   | succ k ih =>
    intro hk
    rw [tbN]
    split
    ·exact Tb.put_owns (ih (by omega)) _ _
    ·exact ih (by omega)
  exact (this _ (Nat.le_refl _)).os
 ·show J.us + 0 ≤ (J.P : Int); have := h.ok.us1; omega
 ·intro p id hp; exact h.win p id (hos p id hp)
 ·intro id p hp; rw [hps] at hp; exact h.dat id p hp
 ·intro id hp; rw [hps] at hp; exact h.non id hp
theorem made_told {J : Jr} {D : Dev} {has : Has} (h : JInv J D has) : ∀ x, told (Jr.ofS J.P (Jr.js J)).T.ps x = told J.T.ps x := by
 intro x
 have hl := ats_length J
 have hk := tbK h.ok h.con J.T.ps.length (Nat.le_refl _)
 have hT : (Jr.ofS J.P (Jr.js J)).T = tbN J.P (Jr.ats J) J.T.ps.length := by
  show tbN J.P (Jr.ats J) (Jr.ats J).length = _; rw [hl]
 rw [hT, hk.ps]
 split
 ·rfl
 ·rename_i hx
  cases ht : told J.T.ps x with
  | none => rfl
  | some p => have := told_range ht; omega
theorem made_bound {J : Jr} {D : Dev} {has : Has} (h : JInv J D has) (hb : JBound J) : JBound (Jr.ofS J.P (Jr.js J)) := by
 have hl := ats_length J
 have hk := tbK h.ok h.con J.T.ps.length (Nat.le_refl _)
 have hT : (Jr.ofS J.P (Jr.js J)).T = tbN J.P (Jr.ats J) J.T.ps.length := by
  show tbN J.P (Jr.ats J) (Jr.ats J).length = _; rw [hl]
 have hjn : (Jr.ofS J.P (Jr.js J)).n = J.n := by
  show ((Jr.ats J).length : Int) = _; rw [hl]; exact h.ok.ps
 have htail : Jr.tail (Jr.ofS J.P (Jr.js J)) = Jr.tail J := rfl
 intro k hu
 have hcnt : cntN (Jr.ofS J.P (Jr.js J)).T J.P (Jr.tail J) k ≤ cntN J.T J.P (Jr.tail J) k := by
  have := cnt_mono (T := J.T) (T' := (Jr.ofS J.P (Jr.js J)).T) (P := J.P) (f := Jr.tail J) (f' := Jr.tail J) (c := 0) k fun i hi hx => by
   rw [Nat.zero_add]
   obtain ⟨x, hx⟩ := Option.isSome_iff_exists.1 hx
   rw [hT] at hx
   rw [((hk.os _ x).1 hx).1]; rfl
  rw [Nat.zero_add] at this
  omega
 have := hb k hu
 rw [hjn, htail]
 show 2 * J.us - (k : Int) + 2 * (cntN (Jr.ofS J.P (Jr.js J)).T J.P (Jr.tail J) k : Int) ≤ 5 * J.n
 omega
end Go.Proofs.YtdafdidmbeecfaaGreatDoor
namespace Go.Proofs.YtdafdidmbeecfaaGreatDoor
open Go.RowKit Go.SL
def RowsOf (has : Has) (R : List (Value × List UInt8)) : Prop := ∀ (k : Nat) p, R[k]? = some p → p.2 = (has (k : Int)).getD (zs 480)
theorem RowsOf.snoc {has : Has} {R : List (Value × List UInt8)} (h : RowsOf has R) (v : Value) : RowsOf has (R ++ [(v, (has (R.length : Int)).getD (zs 480))]) := by
 intro k p hp
 rcases Nat.lt_trichotomy k R.length with hk | hk | hk
 ·rw [List.getElem?_append_left hk] at hp; exact h k p hp
 ·subst hk; simp at hp; rw [← hp]
 ·rw [List.getElem?_append_right (by omega), List.getElem?_eq_none (by simp; omega)] at hp; cases hp
end Go.Proofs.YtdafdidmbeecfaaGreatDoor
end
section
namespace Go.Proofs.YtdafdidmbeecfaaGreatDoor
set_option linter.unusedVariables false
set_option linter.unusedSimpArgs false
open Go.RowKit Go.SL
theorem IsInts.le {w : World} {a : Option Addr} {len cap : Nat} {zs : List Int} (h : IsInts w a len cap zs) : len ≤ zs.length ∧ len ≤ cap ∧ cap ≤ 9223372036854775807 := by
 rcases h with ⟨_, rfl, rfl, rfl⟩ | ⟨x, rfl, hl, hm, hz, _, _⟩
 ·simp
 ·unfold maxLen at hm; exact ⟨by omega, hl, hm⟩
end Go.Proofs.YtdafdidmbeecfaaGreatDoor
namespace Go.SL
set_option linter.unusedVariables false
set_option linter.unusedSimpArgs false
open Go.RowKit
def bls (l : List Bool) : Array Value := (l.map Value.bool).toArray
theorem size_bls (l : List Bool) : (bls l).size = l.length := by simp [bls]
theorem get_bls {l : List Bool} {i : Nat} (h : i < l.length) : (bls l)[i]? = some (.bool (l.getD i false)) := by
 simp [bls, List.getD, List.getElem?_eq_getElem h]
theorem set_bls (l : List Bool) (i : Nat) (x : Bool) : (bls l).setIfInBounds i (.bool x) = bls (l.set i x) := by simp [bls, List.map_set]
theorem made_bls (n : Nat) : madeCells (Value.bool false).cells (n * 1) = bls (List.replicate n false) := by
 apply Array.ext
 ·simp [size_madeCells, size_bls]
 ·intro i h1 h2
  simp [madeCells, bls, Value.cells, Nat.mod_one]
end Go.SL
namespace Go.Proofs.YtdafdidmbeecfaaGreatDoor
set_option linter.unusedVariables false
set_option linter.unusedSimpArgs false
open Go.RowKit Go.SL
theorem info_bool : (Tryz.prog.info? 4).map (fun i => (i.zero, i.size, i.bytes)) = some (some (.bool false), 1, 1) := by kernel_rfl
theorem make_bls (n : Nat) (hn : n ≤ 1048576) (w : World) : (Instr.makeSlice 99 (.int .i64 n) (.int .i64 n)).run Tryz.prog w =
  .ok (.slice (some ⟨w.heap.size, 0, none⟩) n n) (w.alloc (.cells (bls (List.replicate n false)) 4 (0, 0))) := by
 obtain ⟨i, hi, hz, hs, hb⟩ := info_parts info_bool
 have := run_make (P := Tryz.prog) w 99 4 i _ Tryz.underlying99 hi hz .i64 .i64 n n (by omega) (by omega) (by rw [hb]; omega) (by omega)
 rw [this, hs]
 simp only [Int.toNat_natCast]
 rw [made_bls]
def SeenOf (n : Nat) (bs : List Bool) (M : List (Int × Int)) : Prop := bs.length = n ∧ ∀ k : Nat, k < n → (bs.getD k false = true ↔ (k : Int) ∈ M.map Prod.fst)
theorem seen0 (n : Nat) : SeenOf n (List.replicate n false) [] := ⟨by simp, fun k hk => by simp [List.getD, List.getElem?_replicate, hk]⟩
theorem seen_snoc {n : Nat} {bs : List Bool} {M : List (Int × Int)} (h : SeenOf n bs M) {id : Nat} (hid : id < n) (q : Int) : SeenOf n (bs.set id true) (M ++ [((id : Int), q)]) := by
 refine ⟨by rw [List.length_set]; exact h.1, fun k hk => ?_⟩
 rw [List.map_append, List.mem_append]
 by_cases hki : k = id
 ·subst hki
  have : (bs.set k true).getD k false = true := by simp [List.getD, h.1, hk]
  rw [this]
  exact ⟨fun _ => .inr (by simp), fun _ => rfl⟩
 ·have e : (bs.set id true).getD k false = bs.getD k false := by simp [List.getD, List.getElem?_set_ne (Ne.symm hki)]
  rw [e, h.2 k hk]
  simp
  omega
end Go.Proofs.YtdafdidmbeecfaaGreatDoor
end

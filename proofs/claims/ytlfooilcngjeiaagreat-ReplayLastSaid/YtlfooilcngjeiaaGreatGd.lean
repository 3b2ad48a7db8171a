/- The laws of layer 8: what blocks must have, by their numbers; blocks that may be written over. -/
import Derived.Test.YtlfooilcngjeiaaGreatGb
namespace Go.SL
set_option linter.unusedVariables false
set_option linter.unusedSimpArgs false
open Go.RowKit
/-- A block of 480 bytes, whatever they are. -/
def blkA (T : TypeId) (g : Nat) : Assn := ex fun l : List UInt8 => fact (l.length = 480) * pt g (.cells (u8s l) T (0, 0))
def blksE (T : TypeId) (gs : List Nat) : Assn := gs.foldr (fun g A => blkA T g * A) emp
theorem Sat.blkOpen {w : World} {T : TypeId} {g : Nat} {F : Assn} (h : Sat w (blkA T g * F)) : ∃ l : List UInt8, l.length = 480 ∧ Sat w (pt g (.cells (u8s l) T (0, 0)) * F) := by
  obtain ⟨l, h⟩ := Sat.ex_star_iff.1 h
  obtain ⟨hl, h⟩ := Sat.fact_iff.1 (h.to (star_assoc _ _ _))
  exact ⟨l, hl, h⟩
theorem Sat.blkShut {w : World} {T : TypeId} {g : Nat} {l : List UInt8} {F : Assn} (h : Sat w (pt g (.cells (u8s l) T (0, 0)) * F)) (hl : l.length = 480) : Sat w (blkA T g * F) :=
  Sat.ex_star_iff.2 ⟨l, (Sat.fact_iff.2 ⟨hl, h⟩).to (star_assoc _ _ _).symm⟩
theorem blksE_get (T : TypeId) {gs : List Nat} {k : Nat} (hk : k < gs.length) : blksE T gs = blkA T gs[k] * blksE T (gs.eraseIdx k) := by
  induction gs generalizing k with
  | nil => exact absurd hk (Nat.not_lt_zero _)
  | cons g gs ih =>
    cases k with
    | zero => rfl
    | succ k =>
      have hk' : k < gs.length := by simpa using hk
      show blkA T g * blksE T gs = blkA T gs[k] * (blkA T g * blksE T (gs.eraseIdx k))
      rw [ih hk']
      exact star_left_comm _ _ _
/-- What numbers tell of blocks: a number below 0: nothing. -/
def updH (hs : List Int) (M : List (Int × Int)) : List Int := M.foldl (fun hs p => hs.set p.1.toNat p.2) hs
theorem updH_len (hs : List Int) (M : List (Int × Int)) : (updH hs M).length = hs.length := by
  induction M generalizing hs with
  | nil => rfl
  | cons p M ih => show (updH (hs.set _ _) M).length = _; rw [ih, List.length_set]
theorem updH_snoc (hs : List Int) (M : List (Int × Int)) (p : Int × Int) : updH hs (M ++ [p]) = (updH hs M).set p.1.toNat p.2 := by
  unfold updH; rw [List.foldl_append]; rfl
end Go.SL
namespace Go.Proofs.YtlfooilcngjeiaaGreat
set_option linter.unusedVariables false
set_option linter.unusedSimpArgs false
open Go.RowKit Go.SL
theorem blksA_E {L : List (Nat × List UInt8)} (h480 : ∀ x ∈ L, x.2.length = 480) {w : World} {F : Assn} (h : Sat w (blksA L * F)) : Sat w (blksE 5 (L.map Prod.fst) * F) := by
  induction L generalizing F with
  | nil => exact h
  | cons x L ih =>
    have h1 : Sat w (pt x.1 (.cells (u8s x.2) 5 (0, 0)) * (blksA L * F)) := h.to (star_assoc _ _ _)
    have h2 := h1.blkShut (h480 _ List.mem_cons_self)
    have h3 := ih (fun y hy => h480 y (List.mem_cons_of_mem _ hy)) (F := blkA 5 x.1 * F) (h2.to (star_left_comm _ _ _))
    exact h3.to (by show _ = (blkA 5 x.1 * blksE _ _) * F; ac_rfl)
def wrsS (v : Value) (L : Wo) : Assn := sl 41 2 v L.length (SL.flatW L.wr)
theorem wrsS_cell {w : World} {b c n : Nat} {L : Wo} {F : Assn} (h : Sat w (wrsS (.slice (some ⟨b, 0, none⟩) L.length c) L * F)) (hn : n < L.length) :
    w.cell? ⟨b, n * 2, none⟩ = some (.int .i64 L[n].2.1) ∧ w.cell? ⟨b, n * 2 + 1, none⟩ = some (.slice (some ⟨L[n].1, 0, none⟩) 480 480) := by
  unfold wrsS at h
  have hw : n < (Wo.wr L).length := by simpa [Wo.wr] using hn
  obtain ⟨e1, e2⟩ := flatW_get hw
  have e3 : (Wo.wr L)[n].1 = L[n].2.1 := by simp [Wo.wr]
  have e4 : (Wo.wr L)[n].2.1 = .slice (some ⟨L[n].1, 0, none⟩) 480 480 := by simp [Wo.wr]
  rw [e3] at e1; rw [e4] at e2
  rcases h.slCases with ⟨_, h1, _, _⟩ | ⟨g, cap, cur, hv, h3, h4, h5, h6, hs⟩
  · omega
  · injection hv with hv _ _
    injection hv with hv
    injection hv with hv _ _
    subst hv
    have key : ∀ k u, k < L.length * 2 → (SL.flatW (Wo.wr L))[k]? = some u → w.cell? ⟨b, k, none⟩ = some u := fun k u hk hu => by
      rw [hs.cell]
      rw [← h6, List.getElem?_take, if_pos hk, Array.getElem?_toList] at hu
      exact hu
    exact ⟨key _ _ (by omega) e1, key _ _ (by omega) e2⟩
/-- What blocks must have is what the numbers tell. -/
def HasOf (m : Nat) (has : Has) (hs : List Int) : Prop := ∀ k : Nat, k < m → (hs.getD k 0 = -1 ∧ has (k : Int) = none) ∨ (0 ≤ hs.getD k 0 ∧ has (k : Int) = some (bj (hs.getD k 0)))
abbrev mBl (M : List (Int × Int)) : Bl := M.map fun p => (p.1, bj p.2)
theorem hasOf_upd {m : Nat} : ∀ (M : List (Int × Int)) (has : Has) (hs : List Int), hs.length = m → HasOf m has hs → (∀ p ∈ M, 0 ≤ p.1 ∧ p.1 < (m : Int) ∧ 0 ≤ p.2) → (M.map Prod.fst).Nodup → HasOf m (updB has (mBl M)) (updH hs M) := by
  intro M
  induction M with
  | nil => intro has hs _ h _ _ k hk; have := h k hk; simpa [updB, kget, updH] using this
  | cons p M ih =>
    intro has hs hl h hM hnd
    have hp := hM p List.mem_cons_self
    rw [List.map_cons, List.nodup_cons] at hnd
    have h1 : HasOf m (updB has (mBl [p])) (hs.set p.1.toNat p.2) := by
      intro k hk
      have hkg : updB has (mBl [p]) (k : Int) = (if p.1 = (k : Int) then some (bj p.2) else none).or (has (k : Int)) := by
        unfold updB mBl
        simp only [List.map_cons, List.map_nil, kget_cons]
        rfl
      rw [hkg]
      by_cases hkp : p.1 = (k : Int)
      · have e : p.1.toNat = k := by omega
        rw [if_pos hkp, e]
        right
        have : (hs.set k p.2).getD k 0 = p.2 := by simp [List.getD, hl, hk]
        rw [this]
        exact ⟨hp.2.2, rfl⟩
      · have e : p.1.toNat ≠ k := by omega
        rw [if_neg hkp, Option.none_or]
        have : (hs.set p.1.toNat p.2).getD k 0 = hs.getD k 0 := by simp [List.getD, List.getElem?_set_ne e]
        rw [this]
        exact h k hk
    have h2 := ih _ _ (by rw [List.length_set]; exact hl) h1 (fun q hq => hM q (List.mem_cons_of_mem _ hq)) hnd.2
    have e : updB has (mBl (p :: M)) = updB (updB has (mBl [p])) (mBl M) := by
      funext id
      unfold updB mBl
      simp only [List.map_cons, List.map_nil, kget_cons]
      by_cases hid : p.1 = id
      · rw [if_pos hid, if_pos hid]
        have : kget (M.map fun p => (p.1, bj p.2)) id = none := by
          unfold kget
          rw [Option.map_eq_none_iff, List.find?_eq_none]
          intro q hq
          obtain ⟨r, hr, rfl⟩ := List.mem_map.1 hq
          simp only [beq_iff_eq]
          intro he
          exact hnd.1 (List.mem_map.2 ⟨r, hr, by rw [hid]; exact he⟩)
        rw [this]; rfl
      · rw [if_neg hid, if_neg hid]; rfl
    rw [e]
    exact h2
theorem stepW_may {zs : List Int} {data n : Int} {k : Nat} (hk : k ≤ zs.length) : Batch n (stepW zs data k) ↔ MayI n (zs.take k) := by
  have hlen : (stepW zs data k).length = k := by simp [stepW]
  have hlt : (zs.take k).length = k := by rw [List.length_take]; omega
  have hfst : (stepW zs data k).map Prod.fst = zs.take k := by
    apply List.ext_getElem
    · rw [List.length_map, hlen, hlt]
    · intro i h1 h2
      rw [List.getElem_map, List.getElem_take]
      simp only [stepW, List.getElem_map, List.getElem_range, List.getD]
      rw [List.getElem?_eq_getElem (by rw [hlt] at h2; omega)]; rfl
  have hget : ∀ i, i < k → (zs.take k).getD i 0 = zs.getD i 0 := fun i hi => by simp [List.getD, List.getElem?_take, hi]
  constructor
  · intro h
    refine ⟨by rw [hlt, ← hlen]; exact h.n0, by rw [hlt, ← hlen]; exact h.n1, fun i hi => ?_⟩
    rw [hlt] at hi
    have h1 := h.id (zs.getD i 0, bj (data + (i : Int))) (List.mem_map.2 ⟨i, List.mem_range.2 hi, rfl⟩)
    refine ⟨by rw [hget i hi]; exact h1.1, by rw [hget i hi]; exact h1.2, fun j hj => ?_⟩
    have hnd := h.nd
    rw [hfst, List.Nodup, List.pairwise_iff_getElem] at hnd
    have := hnd j i (by rw [hlt]; omega) (by rw [hlt]; omega) hj
    rw [List.getD, List.getD, List.getElem?_eq_getElem (by rw [hlt]; omega), List.getElem?_eq_getElem (by rw [hlt]; omega)]
    exact this
  · intro h
    refine ⟨by rw [hlen, ← hlt]; exact h.n0, by rw [hlen, ← hlt]; exact h.n1, ?_, ?_, ?_⟩
    · intro x hx
      obtain ⟨i, hi, rfl⟩ := List.mem_map.1 hx
      have := h.ok i (by rw [hlt]; exact List.mem_range.1 hi)
      rw [← hget i (List.mem_range.1 hi)]
      exact ⟨this.1, this.2.1⟩
    · intro x hx
      obtain ⟨i, hi, rfl⟩ := List.mem_map.1 hx
      exact bj_len _
    · rw [hfst, List.Nodup, List.pairwise_iff_getElem]
      intro i j hi hj hij
      have := (h.ok j hj).2.2 i hij
      rw [List.getD, List.getD, List.getElem?_eq_getElem hi, List.getElem?_eq_getElem hj] at this
      exact this
end Go.Proofs.YtlfooilcngjeiaaGreat
namespace Go.Proofs.YtlfooilcngjeiaaGreat
set_option linter.unusedVariables false
set_option linter.unusedSimpArgs false
open Go.RowKit Go.SL
theorem IsInts.le {w : World} {a : Option Addr} {len cap : Nat} {zs : List Int} (h : IsInts w a len cap zs) : len ≤ zs.length ∧ len ≤ cap ∧ cap ≤ 9223372036854775807 := by
  rcases h with ⟨_, rfl, rfl, rfl⟩ | ⟨x, rfl, hl, hm, hz, _, _⟩
  · simp
  · unfold maxLen at hm; exact ⟨by omega, hl, hm⟩
theorem IsInts.rdI {w : World} {a : Option Addr} {len cap : Nat} {zs : List Int} (h : IsInts w a len cap zs) {m : Nat} (hm : m ≤ len) (h1 : 1 ≤ m) : RdI w (.slice a (zs.take m).length cap) (zs.take m) := by
  have hle := h.le
  obtain ⟨b, o, ha, _⟩ := h.cell (i := 0) (by omega)
  subst ha
  have hlt : (zs.take m).length = m := by rw [List.length_take]; omega
  refine .inr ⟨b, o, cap, rfl, by omega, by unfold maxLen; omega, fun k hk => ?_⟩
  rw [hlt] at hk
  obtain ⟨b', o', hab, hc, _⟩ := h.cell (i := k) (by omega)
  injection hab with hab
  injection hab with hb ho _
  subst hb; subst ho
  rw [hc]
  simp [List.getD, List.getElem?_take, hk]
theorem sat_drewN {w : World} {P : Assn} (h : Sat w P) (n : Nat) : Sat (w.drewN n) P := h
end Go.Proofs.YtlfooilcngjeiaaGreat
namespace Go.SL
set_option linter.unusedVariables false
set_option linter.unusedSimpArgs false
open Go.RowKit
def bls (l : List Bool) : Array Value := (l.map Value.bool).toArray
theorem size_bls (l : List Bool) : (bls l).size = l.length := by simp [bls]
theorem get_bls {l : List Bool} {i : Nat} (h : i < l.length) : (bls l)[i]? = some (.bool (l.getD i false)) := by
  simp [bls, List.getD, List.getElem?_eq_getElem h]
theorem set_bls (l : List Bool) (i : Nat) (x : Bool) : (bls l).setIfInBounds i (.bool x) = bls (l.set i x) := by simp [bls, List.map_set]
theorem made_bls (n : Nat) : madeCells (Value.bool false).cells (n * 1) = bls (List.replicate n false) := by
  apply Array.ext
  · simp [size_madeCells, size_bls]
  · intro i h1 h2
    simp [madeCells, bls, Value.cells, Nat.mod_one]
end Go.SL
namespace Go.Proofs.YtlfooilcngjeiaaGreat
set_option linter.unusedVariables false
set_option linter.unusedSimpArgs false
open Go.RowKit Go.SL
theorem info_bool : (Tryz.prog.info? 4).map (fun i => (i.zero, i.size, i.bytes)) = some (some (.bool false), 1, 1) := by kernel_rfl
theorem make_bls (n : Nat) (hn : n ≤ 1048576) (w : World) : (Instr.makeSlice 38 (.int .i64 n) (.int .i64 n)).run Tryz.prog w =
    .ok (.slice (some ⟨w.heap.size, 0, none⟩) n n) (w.alloc (.cells (bls (List.replicate n false)) 4 (0, 0))) := by
  obtain ⟨i, hi, hz, hs, hb⟩ := info_parts info_bool
  have := run_make (P := Tryz.prog) w 38 4 i _ Tryz.underlying38 hi hz .i64 .i64 n n (by omega) (by omega) (by rw [hb]; omega) (by omega)
  rw [this, hs]
  simp only [Int.toNat_natCast]
  rw [made_bls]
/-- What was met: of each number whether it is among those of M. -/
def SeenOf (n : Nat) (bs : List Bool) (M : List (Int × Int)) : Prop := bs.length = n ∧ ∀ k : Nat, k < n → (bs.getD k false = true ↔ (k : Int) ∈ M.map Prod.fst)
theorem seen0 (n : Nat) : SeenOf n (List.replicate n false) [] := ⟨by simp, fun k hk => by simp [List.getD, List.getElem?_replicate, hk]⟩
theorem seen_snoc {n : Nat} {bs : List Bool} {M : List (Int × Int)} (h : SeenOf n bs M) {id : Nat} (hid : id < n) (q : Int) : SeenOf n (bs.set id true) (M ++ [((id : Int), q)]) := by
  refine ⟨by rw [List.length_set]; exact h.1, fun k hk => ?_⟩
  rw [List.map_append, List.mem_append]
  by_cases hki : k = id
  · subst hki
    have : (bs.set k true).getD k false = true := by simp [List.getD, h.1, hk]
    rw [this]
    exact ⟨fun _ => .inr (by simp), fun _ => rfl⟩
  · have e : (bs.set id true).getD k false = bs.getD k false := by simp [List.getD, List.getElem?_set_ne (Ne.symm hki)]
    rw [e, h.2 k hk]
    simp
    omega
end Go.Proofs.YtlfooilcngjeiaaGreat

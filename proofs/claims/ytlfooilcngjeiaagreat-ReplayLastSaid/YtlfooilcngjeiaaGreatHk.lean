/- The laws of layer 8: block, fresh. The laws of layer 8: what comes in; writes, may. The laws of layer 8: a fresh journal; shown. The laws of layer 8: shown. The laws of layer 8: a journal with room, step by step. -/
import Derived.Test.YtlfooilcngjeiaaGreatJq
import Derived.Test.YtlfooilcngjeiaaGreatPd
import Derived.OpenShut
import Derived.Deep.DeepCutAuto
import Derived.Deep.CutBlock
import Derived.Deep.CutRange
namespace Go.SL
set_option linter.unusedVariables false
set_option linter.unusedSimpArgs false
open Go.RowKit
/-- A block that is a number all over. -/
def bj (n : Int) : List UInt8 := (List.range 480).map fun i : Nat => UInt8.ofInt (n + (i : Int))
theorem bj_len (n : Int) : (bj n).length = 480 := by simp [bj]
def bjN (n : Int) (k : Nat) : List UInt8 := ((List.range k).map fun i : Nat => UInt8.ofInt (n + (i : Int))) ++ zs (480 - k)
theorem bjN_set (n : Int) (k : Nat) (h : k < 480) : (bjN n k).set k (UInt8.ofInt (n + (k : Int))) = bjN n (k + 1) := by
  have hl : ((List.range k).map fun i : Nat => UInt8.ofInt (n + (i : Int))).length = k := by simp
  unfold bjN
  rw [List.set_append_right _ _ (by omega), hl, Nat.sub_self, List.range_succ, List.map_append, List.append_assoc]
  congr 1
  unfold zs
  rw [show 480 - k = (480 - (k + 1)) + 1 by omega, List.replicate_succ]
  simp
theorem bjN_len (n : Int) (k : Nat) (h : k ≤ 480) : (bjN n k).length = 480 := by simp [bjN, zs]; omega
theorem ofInt_congr {a b : Int} (h : a % 256 = b % 256) : UInt8.ofInt a = UInt8.ofInt b := by
  apply UInt8.toNat_inj.1
  have := u8_ofInt a
  have := u8_ofInt b
  omega
theorem bj_congr {a b : Int} (h : a % 256 = b % 256) : bj a = bj b := by
  unfold bj
  refine List.map_congr_left fun i _ => ofInt_congr (by omega)
theorem rd_row {T : TypeId} {w : World} {g : Nat} {l : List UInt8} {c : Nat} (h : w.heap[g]? = some (.cells (u8s l) T (0, 0))) : Rd w (.slice (some ⟨g, 0, none⟩) l.length c) l := by
  refine ⟨by simp, .inr ⟨_, _, rfl, ?_⟩⟩
  have := At_of_take (n := l.length) h
  rwa [show (u8s l).toList.take l.length = l.map u8 from by simp [u8s, List.take_of_length_le]] at this
end Go.SL
namespace Go.Proofs.YtlfooilcngjeiaaGreat
set_option linter.unusedVariables false
set_option linter.unusedSimpArgs false
open Go.RowKit Go.SL
def BlockQ (n : Int) (w : World) (e : Ending) (w' : World) : Prop :=
  ∃ g, e = .returned (.slice (some ⟨g, 0, none⟩) 480 480) ∧ Sat w' (pt g (.cells (u8s (bj n)) 5 (0, 0)) * whole w) ∧ Side w w'
theorem rd_bj {w : World} {g : Nat} {n : Int} {F : Assn} (h : Sat w (pt g (.cells (u8s (bj n)) 5 (0, 0)) * F)) : Rd w (.slice (some ⟨g, 0, none⟩) 480 480) (bj n) := by
  have := rd_row (c := 480) h.heap
  rwa [bj_len] at this
def BlockRel (g : Nat) (n : Int) (w : World) (u : Value) (wr : World) : Prop :=
  ∃ k : Nat, k ≤ 480 ∧ u = .int .i64 (k : Int) ∧ Sat wr (pt g (.cells (u8s (bjN n k)) 5 (0, 0)) * whole w) ∧ Side w wr
/-- A fresh state. -/
def freshS (n : Nat) : Js := ⟨1, 1, 0, 0, 0, List.replicate n (-1)⟩
def FreshQ (n : Nat) (w : World) (e : Ending) (w' : World) : Prop := ∃ v, e = .returned ((freshS n).v v) ∧ Sat w' (sl 3 1 v n (i64v (List.replicate n (-1))) * whole w) ∧ Side w w'
def FreshRel (n b : Nat) (X : Assn) (w : World) (u : Value) (wr : World) : Prop :=
  ∃ (k : Nat) (v : Value), k ≤ n ∧ u = .int .i64 (k : Int) ∧ Sat wr (pt b (.cells #[.int .u32 1, .int .u64 1, .int .u64 0, .int .i64 0, .int .i64 0, v] 35 (0, 0)) * (sl 3 1 v k (i64v (List.replicate k (-1))) * X)) ∧ Side w wr
end Go.Proofs.YtlfooilcngjeiaaGreat
namespace Go.Proofs.YtlfooilcngjeiaaGreat
set_option linter.unusedVariables false
set_option linter.unusedSimpArgs false
open Go.RowKit Go.SL
/-- A slice of ints that came in. -/
def IsInts (w : World) (a : Option Addr) (len cap : Nat) (zs : List Int) : Prop :=
  (a = none ∧ len = 0 ∧ cap = 0 ∧ zs = []) ∨
  ∃ x, a = some x ∧ len ≤ cap ∧ cap ≤ maxLen ∧ zs.length = cap ∧ (∀ i, i < zs.length → w.cell? (x.add i) = some (.int .i64 (zs.getD i 0))) ∧ ∀ n ∈ zs, (Lit.int .i64 n).wf = true
theorem IsInts.cell {w : World} {a : Option Addr} {len cap : Nat} {zs : List Int} (h : IsInts w a len cap zs) {i : Nat} (hi : i < len) :
    ∃ b off, a = some ⟨b, off, none⟩ ∧ w.cell? ⟨b, off + i, none⟩ = some (.int .i64 (zs.getD i 0)) ∧ len ≤ cap ∧ cap ≤ 9223372036854775807 := by
  rcases h with ⟨_, rfl, _⟩ | ⟨x, rfl, hl, hm, hz, hc, _⟩
  · omega
  · obtain ⟨b, off, rfl, hc'⟩ := ints_at hc (by omega)
    exact ⟨b, off, rfl, hc' i (by omega), hl, by simpa [maxLen] using hm⟩
theorem IsInts.len_le {w : World} {a : Option Addr} {len cap : Nat} {zs : List Int} (h : IsInts w a len cap zs) : len ≤ 9223372036854775807 := by
  rcases h with ⟨_, rfl, _⟩ | ⟨x, rfl, hl, hm, _⟩
  · omega
  · simp only [maxLen] at hm; omega
/-- A step that came in. -/
structure StepV where
  a : Option Addr
  len : Nat
  cap : Nat
  zs : List Int
  data : Int
  n : Int
def StepV.v (s : StepV) : Value := .agg #[.slice s.a s.len s.cap, .int .i64 s.data, .int .i64 s.n]
/-- Steps that came in. -/
def IsSteps (w : World) (a : Option Addr) (len cap : Nat) (X : Nat → StepV) : Prop :=
  len = 0 ∨ ∃ b off, a = some ⟨b, off, none⟩ ∧ len ≤ cap ∧ cap ≤ maxLen ∧ ∀ i, i < len →
    w.cell? ⟨b, off + i * 3, none⟩ = some (.slice (X i).a (X i).len (X i).cap) ∧ w.cell? ⟨b, off + i * 3 + 1, none⟩ = some (.int .i64 (X i).data) ∧ w.cell? ⟨b, off + i * 3 + 2, none⟩ = some (.int .i64 (X i).n) ∧ IsInts w (X i).a (X i).len (X i).cap (X i).zs
/-- Blocks of bytes. -/
def blksA (L : List (Nat × List UInt8)) : Assn := L.foldr (fun p A => pt p.1 (.cells (u8s p.2) 5 (0, 0)) * A) emp
theorem blksA_snoc (L : List (Nat × List UInt8)) (g : Nat) (l : List UInt8) : blksA (L ++ [(g, l)]) = pt g (.cells (u8s l) 5 (0, 0)) * blksA L := by
  induction L with
  | nil => rfl
  | cons x L ih =>
    show pt x.1 _ * blksA (L ++ [(g, l)]) = _ * (pt x.1 _ * blksA L)
    rw [ih]; exact star_left_comm _ _ _
/-- Writes of one's own: where the bytes lie, the block's number, the bytes. -/
abbrev Wo := List (Nat × Int × List UInt8)
def Wo.wr (L : Wo) : List Wr := L.map fun x => (x.2.1, .slice (some ⟨x.1, 0, none⟩) 480 480, x.2.2)
def Wo.bl (L : Wo) : Bl := L.map fun x => (x.2.1, x.2.2)
def wrsA (v : Value) (L : Wo) : Assn := sl 41 2 v L.length (SL.flatW L.wr) * blksA (L.map fun x => (x.1, x.2.2))
def stepW (zs : List Int) (data : Int) (k : Nat) : Bl := (List.range k).map fun i : Nat => (zs.getD i 0, bj (data + (i : Int)))
theorem stepW_succ (zs : List Int) (data : Int) (k : Nat) : stepW zs data (k + 1) = stepW zs data k ++ [(zs.getD k 0, bj (data + (k : Int)))] := by simp [stepW, List.range_succ]
theorem append_write {w : World} {v : Value} {Z : List Wr} {F : Assn} {n : Nat} (h : Sat w (sl 41 2 v n (SL.flatW Z) * F)) (id : Int) (g : Nat) (l : List UInt8) (hl : n ≤ 1000) :
    ∃ a c w', (Builtin.append_ #[37, 37] 37 #[v, .slice (some ⟨w.heap.size, 0, none⟩) 1 1]).run Tryz.prog (w.alloc (.cells #[.int .i64 id, .slice (some ⟨g, 0, none⟩) 480 480] 41 (0, 0))) = .ok (.slice a (n + 1) c) w' ∧
      Sat w' (sl 41 2 (.slice a (n + 1) c) (n + 1) (SL.flatW (Z ++ [(id, .slice (some ⟨g, 0, none⟩) 480 480, l)])) * F) ∧ Side w w' := by
  obtain ⟨i0, hi, hz, hs0, hb0⟩ := info_parts info_write2
  have hA := h.alloc (.cells #[.int .i64 id, .slice (some ⟨g, 0, none⟩) 480 480] 41 (0, 0))
  have hR : Rds (w.alloc (.cells #[.int .i64 id, .slice (some ⟨g, 0, none⟩) 480 480] 41 (0, 0))) 2 (.slice (some ⟨w.heap.size, 0, none⟩) 1 1) 1 [.int .i64 id, .slice (some ⟨g, 0, none⟩) 480 480] :=
    ⟨rfl, .inr ⟨_, _, rfl, fun j u hu => by
      rw [Addr.add_lit, Nat.zero_add]
      exact (hA.cell j).trans (by simpa using hu)⟩⟩
  obtain ⟨v', w', hrun, hsat', hside'⟩ := Sat.append (P := Tryz.prog) (ty := 37) Tryz.underlying37 hi hz hs0 hb0 rfl hA.right hR (by simp [Value.oneCell']) (by unfold maxLen; omega) (by omega)
  obtain ⟨a, c, rfl⟩ := sl_shape hsat'
  exact ⟨a, c, w', hrun, by rw [flatW_snoc]; exact hsat', ((Side.refl w).alloc _).trans hside'⟩
def WritesQ (zs : List Int) (data : Int) (k : Nat) (w : World) (e : Ending) (w' : World) : Prop :=
  ∃ v L, e = .returned v ∧ Wo.bl L = stepW zs data k ∧ Sat w' (wrsA v L * whole w) ∧ Side w w'
def WritesRel (b m : Nat) (o : Obj) (zs : List Int) (data : Int) (w : World) (u3 u4 : Value) (wr : World) : Prop :=
  ∃ (k : Nat) (L : Wo), k ≤ m ∧ u4 = .int .i64 (k : Int) ∧ Wo.bl L = stepW zs data k ∧ Sat wr (wrsA u3 L * (pt b o * whole w)) ∧ Side w wr
theorem Wo.len {L : Wo} {zs : List Int} {data : Int} {k : Nat} (h : Wo.bl L = stepW zs data k) : L.length = k := by
  have := congrArg List.length h
  simpa [Wo.bl, stepW] using this
theorem bj_wrap (a : Int) : bj (IntKind.i64.wrap a) = bj a := bj_congr (by rw [IntKind.wrap_i64]; omega)
end Go.Proofs.YtlfooilcngjeiaaGreat
namespace Go.Proofs.YtlfooilcngjeiaaGreat
set_option linter.unusedVariables false
set_option linter.unusedSimpArgs false
open Go.RowKit Go.SL
def NoB : Hp := fun _ => none
theorem tbN_fresh (P n : Nat) : ∀ k, k ≤ n → tbN P (List.replicate n (-1)) k = Tb.fresh n P := by
  intro k
  induction k with
  | zero => intro _; simp [tbN]
  | succ k ih =>
    intro hk
    have : (List.replicate n (-1 : Int)).getD k 0 = -1 := by simp [List.getD, List.getElem?_replicate, show k < n by omega]
    rw [tbN, this, if_neg (by decide), ih (by omega)]
def J0 (P n : Nat) : Jr := Jr.ofS P (freshS n)
theorem J0_T (P n : Nat) : (J0 P n).T = Tb.fresh n P := by
  show tbN P (List.replicate n (-1)) (List.replicate n (-1 : Int)).length = _
  rw [List.length_replicate]; exact tbN_fresh P n n (Nat.le_refl _)
theorem fresh_right {P n : Nat} (hP : 1 ≤ P) (h0 : 1 ≤ n) (h1 : n ≤ 3840) : (freshS n).Right P :=
  ⟨show (1 : Int) ≤ 1 by decide, show (0 : Int) ≤ 281474976710655 by decide, show (1 : Int) ≤ 1 by decide, show (1 : Int) ≤ 0 + 1 by decide, show (0 : Int) ≤ 0 by decide, by show (0 : Int) < (P : Int); omega, show (0 : Int) ≤ 0 by decide, by show (0 : Int) ≤ (P : Int); omega, by simpa [freshS] using h0, by simpa [freshS] using h1, fun k hk => .inl (by
    have hk' : k < n := by simpa [freshS] using hk
    simp [freshS, List.getD, List.getElem?_replicate, hk'])⟩
theorem fresh_inv {P n : Nat} (hP : 1 ≤ P) (hP2 : P ≤ 19999) (h0 : 1 ≤ n) (h1 : n ≤ 3840) : JInv (J0 P n) (Dev.fresh (P + 1)) fun _ => none := by
  have hok := Jr.ofS_ok (fresh_right hP h0 h1) hP (by omega : P ≤ 20000)
  have hT := J0_T P n
  refine ⟨hok, ?_, ?_, rfl, ⟨rfl, rfl⟩, ?_, ?_, ?_, ?_, ?_, fun _ _ => rfl⟩
  · refine ⟨show (1 : Int) ≤ 1 by decide, show (1 : Int) < 4294967296 by decide, show (1 : Int) ≤ 1 by decide, show (1 : Int) ≤ 0 + 1 by decide, show (0 : Int) ≤ 0 by decide, show (0 : Int) ≤ 281474976710655 by decide, ?_, ?_⟩
    · show ((List.replicate n (-1 : Int)).length : Int) ≤ 3840
      rw [List.length_replicate]; omega
    · rw [hT]; exact ⟨fun v hv => .inl (List.eq_of_mem_replicate hv)⟩
  · exact ⟨by simp [Dev.fresh]; omega, by simp [Dev.fresh], by simp [Dev.fresh], by simp [Dev.fresh]⟩
  · show (P : Int) + 1 ≤ ((List.replicate (P + 1) ([] : List UInt8)).length : Int)
    rw [List.length_replicate]; omega
  · rw [hT]; exact Tb.fresh_con _ _
  · show (0 : Int) + 0 ≤ (P : Int); omega
  · intro p id h; rw [hT, (Tb.fresh_told n P p).2] at h; cases h
  · intro id p h; rw [hT, (Tb.fresh_told n P id).1] at h; cases h
theorem fresh_bound (P n : Nat) : JBound (J0 P n) := by
  intro k hk
  have h1 : (J0 P n).us = 0 := rfl
  have h2 : (J0 P n).n = ((List.replicate n (-1 : Int)).length : Int) := rfl
  have h3 := cntN_le (J0 P n).T (J0 P n).P (Jr.tail (J0 P n)) k
  rw [h1] at hk ⊢
  rw [h2, List.length_replicate]
  omega
theorem J0_n (P n : Nat) : (J0 P n).n = (n : Int) := by show ((List.replicate n (-1 : Int)).length : Int) = n; rw [List.length_replicate]
theorem rdI_sl {w : World} {v : Value} {l : List Int} {F : Assn} (h : Sat w (sl 3 1 v l.length (i64v l) * F)) : RdI w v l := by
  rcases h.slCases with ⟨rfl, h0, _, _⟩ | ⟨g, cap, cur, rfl, h3, h4, h5, h6, hF⟩
  · exact .inl ⟨_, _, rfl, List.eq_nil_of_length_eq_zero h0⟩
  · refine .inr ⟨g, 0, cap, rfl, h3, h4, fun k hk => ?_⟩
    rw [Nat.zero_add, hF.cell]
    have e := congrArg (·[k]?) h6
    simp only [List.getElem?_take, Nat.mul_one, hk, if_true, i64v, List.getElem?_map, Array.getElem?_toList] at e
    rw [e, List.getElem?_eq_getElem hk, List.getD, List.getElem?_eq_getElem hk]; rfl
/-- A fresh journal on a device. -/
theorem jfresh_any (w : World) (S : Hp) (d : Nat) (D : Dev) (F : Assn) (n P : Nat) (a : Value) (h : Sat w (devA S d D * F)) (hv : RdI w a (List.replicate n (-1))) (hP : 1 ≤ P) (hP2 : P ≤ 19999) (h0 : 1 ≤ n) (h1 : n ≤ 3840)
    (hD : P + 1 ≤ D.sec.length) (hD2 : D.sec.length ≤ 20000) :
    Calls Tryz.prog 7 #[ptV d, .int .i64 (P : Int), (freshS n).v a] w (JNewQ d (J0 P n) w) :=
  jnew_any w S d D F h P (freshS n) a hv hP (by omega) hD hD2 (show (0 : Int) ≤ 0 by decide) (fresh_right hP h0 h1)
theorem devLen (n : Nat) : (Dev.fresh n).sec.length = n := by simp [Dev.fresh]
/-- Writes of one's own may be handed to Commit. -/
theorem wrsA_reads (S : Hp) (v : Value) (L : Wo) (h480 : ∀ x ∈ L, x.2.2.length = 480) (F : Assn) : Reads S v L.wr (wrsA v L * F) := by
  intro S' X w' _ hs
  have hl : L.wr.length = L.length := by simp [Wo.wr]
  refine ⟨?_, ?_⟩
  · have : Sat w' (sl 41 2 v L.wr.length (SL.flatW L.wr) * (X * (pool S' * (blksA (L.map fun x => (x.1, x.2.2)) * F)))) := hs.to (by unfold wrsA; rw [hl]; ac_rfl)
    exact rdW_of_sl this
  · have hb : Sat w' (blksA (L.map fun x => (x.1, x.2.2)) * (X * (pool S' * (sl 41 2 v L.length (SL.flatW L.wr) * F)))) := hs.to (by unfold wrsA; ac_rfl)
    intro z hz
    obtain ⟨x, hx, rfl⟩ := List.mem_map.1 hz
    have : ∀ (M : List (Nat × List UInt8)) (G : Assn), Sat w' (blksA M * G) → ∀ y ∈ M, w'.heap[y.1]? = some (.cells (u8s y.2) 5 (0, 0)) := by
      intro M
      induction M with
      | nil => intro G _ y hy; cases hy
      | cons y M ih =>
        intro G h z hz
        have h' : Sat w' (pt y.1 (.cells (u8s y.2) 5 (0, 0)) * (blksA M * G)) := h.to (star_assoc _ _ _)
        rcases List.mem_cons.1 hz with rfl | hz
        · exact h'.heap
        · exact ih G h'.right z hz
    have h1 := this _ _ hb (x.1, x.2.2) (List.mem_map.2 ⟨x, hx, rfl⟩)
    have := rd_row (c := 480) h1
    rw [h480 x hx] at this
    exact this
/-- A batch of one's own writes. -/
theorem commitW_any (w : World) (S : Hp) (j d : Nat) (J : Jr) (D : Dev) (F : Assn) (v : Value) (L : Wo) (has : Has) (h : Sat w (jrA j d J * (devA S d D * (pool S * (wrsA v L * F))))) (hI : JInv J D has) (h480 : ∀ x ∈ L, x.2.2.length = 480) (hl : L.length ≤ 1000) (B : Bool) (hB : B = true ↔ mayW J.n L.wr) :
    Calls Tryz.prog 9 #[ptV j, v] w (CommitQ S j d (jcommit J D B L.bl) (wrsA v L * F) w) := by
  have := jcommit_any w S j d J D (wrsA v L * F) v L.wr h hI.ok hI.nums hI.dok (by simp [Wo.wr]; omega) (wrsA_reads S v L h480 F) B hB
  have e : plainW L.wr = L.bl := by
    unfold plainW Wo.wr Wo.bl
    rw [List.map_map]; rfl
  rw [e] at this
  exact this
theorem batch_may {n : Int} {L : Wo} (h : mayW n L.wr) : Batch n L.bl := by
  have hl : L.wr.length = L.bl.length := by simp [Wo.wr, Wo.bl]
  have hmem : ∀ x ∈ L.bl, ∃ z ∈ L.wr, z.1 = x.1 ∧ z.2.2 = x.2 := by
    intro x hx
    obtain ⟨y, hy, rfl⟩ := List.mem_map.1 hx
    exact ⟨_, List.mem_map.2 ⟨y, hy, rfl⟩, rfl, rfl⟩
  refine ⟨by rw [← hl]; exact h.n0, by rw [← hl]; exact h.n1, ?_, ?_, ?_⟩
  · intro x hx
    obtain ⟨z, hz, e1, e2⟩ := hmem x hx
    have := mayW_mem h hz
    rw [← e1]; exact ⟨this.1, this.2.1⟩
  · intro x hx
    obtain ⟨z, hz, e1, e2⟩ := hmem x hx
    rw [← e2]; exact (mayW_mem h hz).2.2
  · have e : L.bl.map Prod.fst = L.wr.map Prod.fst := by unfold Wo.bl Wo.wr; rw [List.map_map, List.map_map]; rfl
    rw [e, List.Nodup, List.pairwise_iff_getElem]
    intro i k hi hk hik
    rw [List.length_map] at hi hk
    have hok := (h.ok k hk)
    unfold okW at hok
    have h4 := hok.2.2.2
    intro heq
    apply h4
    rw [List.getElem_map, List.getElem_map] at heq
    rw [List.getD, List.getElem?_eq_getElem hk, Option.getD_some, ← heq]
    refine List.mem_map.2 ⟨L.wr[i], ?_, rfl⟩
    rw [List.mem_take_iff_getElem]
    exact ⟨i, by omega, rfl⟩
theorem may_batch {n : Int} {L : Wo} (h : Batch n L.bl) : mayW n L.wr := by
  have hl : L.wr.length = L.bl.length := by simp [Wo.wr, Wo.bl]
  refine ⟨by rw [hl]; exact h.n0, by rw [hl]; exact h.n1, fun k hk => ?_⟩
  have hk' : k < L.bl.length := by omega
  have hk'' : k < L.length := by simpa [Wo.wr] using hk
  have hmem := List.getElem_mem hk'
  have e1 : (L.wr.getD k Wr.nil).1 = L.bl[k].1 := by rw [List.getD, List.getElem?_eq_getElem hk]; simp [Wo.wr, Wo.bl]
  have e2 : (L.wr.getD k Wr.nil).2.2 = L.bl[k].2 := by rw [List.getD, List.getElem?_eq_getElem hk]; simp [Wo.wr, Wo.bl]
  have hid := h.id _ hmem
  refine ⟨by rw [e1]; exact hid.1, by rw [e1]; exact hid.2, by rw [e2]; exact h.b480 _ hmem, ?_⟩
  rw [e1]
  intro hx
  obtain ⟨z, hz, hz2⟩ := List.mem_map.1 hx
  rw [List.mem_take_iff_getElem] at hz
  obtain ⟨i, hi, rfl⟩ := hz
  have hi' : i < L.bl.length := by omega
  have e3 : (L.wr[i]'(by omega)).1 = L.bl[i].1 := by simp [Wo.wr, Wo.bl]
  have hnd := h.nd
  rw [List.Nodup, List.pairwise_iff_getElem] at hnd
  have := hnd i k (by rw [List.length_map]; exact hi') (by rw [List.length_map]; exact hk') (by omega)
  apply this
  rw [List.getElem_map, List.getElem_map, ← hz2, e3]
end Go.Proofs.YtlfooilcngjeiaaGreat
namespace Go.Proofs.YtlfooilcngjeiaaGreat
set_option linter.unusedVariables false
set_option linter.unusedSimpArgs false
open Go.RowKit Go.SL
def sL1 : Bl := [(3, bj 1), (4, bj 2)]
def sL2 : Bl := [(3, bj 3)]
def sH1 : Has := updB (fun _ => none) sL1
def sJ1 : Jr := (J0 200 10).done sL1 0
def sJ2 : Jr := sJ1.done [(3, bj 3), (4, bj 2)] 2
theorem s_mov1 : movB (J0 200 10) (fun _ => none) sL1 = [] := by rfl
theorem s_own : ownersN sJ1.T 200 0 2 = [(3, 0), (4, 1)] := by kernel_rfl
theorem s_mov2 : movB sJ1 sH1 sL2 = [(4, bj 2)] := by
  have e : movB sJ1 sH1 sL2 = mvL sH1 (ownK sL2) (ownersN sJ1.T 200 0 2) := rfl
  rw [e, s_own]
  rfl
theorem s_at3 : (Jr.ats sJ2).getD 3 0 = 2 ∧ (Jr.ats sJ2).getD 4 0 = 3 ∧ (Jr.ats sJ2).length = 10 ∧ sJ2.sq = 2 ∧ sJ2.hd = 4 ∧ sJ2.us = 2 ∧ sJ2.fr = 2 ∧ sJ2.T.ps.length = 10 := by
  refine ⟨by kernel_rfl, by kernel_rfl, by kernel_rfl, by kernel_rfl, by kernel_rfl, by kernel_rfl, by kernel_rfl, by kernel_rfl⟩
theorem s_b1 : Batch 10 sL1 := ⟨by decide, by decide, by intro x hx; simp [sL1] at hx; rcases hx with rfl | rfl <;> decide, by intro x hx; simp [sL1] at hx; rcases hx with rfl | rfl <;> exact bj_len _, by decide⟩
theorem s_b2 : Batch 10 sL2 := ⟨by decide, by decide, by intro x hx; simp [sL2] at hx; rcases hx with rfl <;> decide, by intro x hx; simp [sL2] at hx; rcases hx with rfl <;> exact bj_len _, by decide⟩
theorem s_c1 : ∃ D', jcommit (J0 200 10) (Dev.fresh 201) true sL1 = (0, sJ1, D') ∧ JInv sJ1 D' sH1 := by
  have hI := fresh_inv (P := 200) (n := 10) (by decide) (by decide) (by decide) (by decide)
  have hn := never_full hI (fresh_bound 200 10) (by decide) (L := sL1) s_b1
  obtain ⟨D', hd⟩ := commit_done hI (L := sL1) s_b1 (by decide) hn
  have h1 := hd.run
  have h2 := hd.inv
  rw [s_mov1] at h1 h2
  exact ⟨D', h1, h2⟩
theorem s_c2 {D : Dev} (hI : JInv sJ1 D sH1) : ∃ D', jcommit sJ1 D true sL2 = (0, sJ2, D') ∧ JInv sJ2 D' (updB sH1 sL2) := by
  have hn : ¬ (sJ1.P : Int) - sJ1.us - sJ1.fr < ((sL2 ++ movB sJ1 sH1 sL2).length : Int) := by rw [s_mov2]; decide
  obtain ⟨D', hd⟩ := commit_done hI (L := sL2) s_b2 (by decide) hn
  have h1 := hd.run
  have h2 := hd.inv
  rw [s_mov2] at h1 h2
  exact ⟨D', h1, h2⟩
theorem s_read {D : Dev} (hI : JInv sJ2 D (updB sH1 sL2)) : ∃ D', sJ2.read D 3 = ((0, bj 3), sJ2, D') ∧ JInv sJ2 D' (updB sH1 sL2) := by
  have h := hI.read (id := 3) (by decide) (by decide)
  have e : (updB sH1 sL2 3).getD (zs 480) = bj 3 := rfl
  rw [e] at h
  refine ⟨_, h, ?_⟩
  split
  · exact hI.cr _
  · exact hI
end Go.Proofs.YtlfooilcngjeiaaGreat
namespace Go.Proofs.YtlfooilcngjeiaaGreat
set_option linter.unusedVariables false
set_option linter.unusedSimpArgs false
open Go.RowKit Go.SL
/-- A journal that keeps what it is given, of n blocks and P places, behind at most B batches and reads. -/
structure JW (n P B : Nat) (J : Jr) (D : Dev) (has : Has) : Prop where
  inv : JInv J D has
  bound : JBound J
  jn : J.n = (n : Int)
  jP : J.P = P
  ep : J.ep = 1
  st : J.st = 1
  sq : J.sq ≤ (B : Int)
  cr0 : 0 ≤ D.cr
  cr1 : D.cr ≤ 100 * (B : Int)
  cw0 : 0 ≤ D.cw
  cw1 : D.cw ≤ 100 * (B : Int)
  cf0 : 0 ≤ D.cf
  cf1 : D.cf ≤ (B : Int)
theorem jw_fresh {n P : Nat} (hP : 1 ≤ P) (hP2 : P ≤ 19999) (h0 : 1 ≤ n) (h1 : n ≤ 3840) : JW n P 0 (J0 P n) (Dev.fresh (P + 1)) fun _ => none :=
  ⟨fresh_inv hP hP2 h0 h1, fresh_bound P n, J0_n P n, rfl, rfl, rfl, show (0 : Int) ≤ 0 by decide, show (0 : Int) ≤ 0 by decide, show (0 : Int) ≤ 0 by decide, show (0 : Int) ≤ 0 by decide, show (0 : Int) ≤ 0 by decide, show (0 : Int) ≤ 0 by decide, show (0 : Int) ≤ 0 by decide⟩
theorem jw_more {n P B B' : Nat} {J : Jr} {D : Dev} {has : Has} (h : JW n P B J D has) (hB : B ≤ B') : JW n P B' J D has :=
  ⟨h.inv, h.bound, h.jn, h.jP, h.ep, h.st, by have := h.sq; omega, h.cr0, by have := h.cr1; omega, h.cw0, by have := h.cw1; omega, h.cf0, by have := h.cf1; omega⟩
theorem jw_commit {n P B : Nat} {J : Jr} {D : Dev} {has : Has} (h : JW n P B J D has) (hP : 5 * n + 240 ≤ 2 * P) (hB : B ≤ 1000000) {L : Bl} (hb : Batch (n : Int) L) :
    ∃ J' D', jcommit J D true L = (0, J', D') ∧ JW n P (B + 1) J' D' (updB has L) ∧ D.cr ≤ D'.cr ∧ D'.cr ≤ D.cr + 2 * (L.length : Int) ∧ D.cw ≤ D'.cw ∧ D'.cw ≤ D.cw + 3 * (L.length : Int) ∧ D'.cf = D.cf + 1 ∧ J.sq ≤ J'.sq := by
  have hb' : Batch J.n L := by rw [h.jn]; exact hb
  have hnf := never_full h.inv h.bound (by rw [h.jn, h.jP]; omega) hb'
  obtain ⟨D', hd⟩ := commit_done h.inv hb' (by have := h.sq; omega) hnf
  have hbd := bound_done h.inv h.bound hb' hnf
  have hml := movB_len J has L h.inv.ok.us0
  have hc := Jr.cleaned_range h.inv.ok.us0 L.length
  have hn1 := hb.n1
  have e1 := h.cr0; have e2 := h.cr1; have e3 := h.cw0; have e4 := h.cw1; have e5 := h.cf0; have e6 := h.cf1; have e7 := h.sq
  have h1 := hd.cr; have h2 := hd.cw; have h3 := hd.cf
  rw [addN_eq _ e1 (by omega)] at h1
  rw [addN_eq _ e3 (by omega)] at h2
  have h3' : D'.cf = D.cf + 1 := by rw [h3]; simp only [i64w, wrap64]; omega
  refine ⟨_, D', hd.run, ⟨hd.inv, hbd, h.jn, h.jP, h.ep, h.st, ?_, by omega, by omega, by omega, by omega, by omega, by omega⟩, by omega, by omega, by omega, by omega, h3', ?_⟩
  · show J.sq + 1 ≤ _
    omega
  · show J.sq ≤ J.sq + 1
    omega
theorem jw_read {n P B : Nat} {J : Jr} {D : Dev} {has : Has} (h : JW n P B J D has) (hB : B ≤ 1000000) {id : Int} (h0 : 0 ≤ id) (h1 : id < (n : Int)) :
    ∃ D', J.read D id = ((0, (has id).getD (zs 480)), J, D') ∧ JW n P (B + 1) J D' has ∧ D'.cr = D.cr + (if (told J.T.ps id).isSome then 1 else 0) ∧ D'.cw = D.cw ∧ D'.cf = D.cf := by
  have hr := h.inv.read h0 (by rw [h.jn]; exact h1)
  have e1 := h.cr0; have e2 := h.cr1
  have hw : i64w (D.cr + 1) = D.cr + 1 := by simp only [i64w, wrap64]; omega
  have hm := jw_more h (Nat.le_succ B)
  cases ht : (told J.T.ps id).isSome with
  | false =>
    rw [ht] at hr
    simp only [Bool.false_eq_true, if_false] at hr ⊢
    exact ⟨D, hr, hm, by omega, rfl, rfl⟩
  | true =>
    rw [ht] at hr
    simp only [if_true] at hr ⊢
    refine ⟨_, hr, ⟨hm.inv.cr _, hm.bound, hm.jn, hm.jP, hm.ep, hm.st, hm.sq, ?_, ?_, hm.cw0, hm.cw1, hm.cf0, hm.cf1⟩, ?_, rfl, rfl⟩
    · show 0 ≤ i64w (D.cr + 1); rw [hw]; omega
    · show i64w (D.cr + 1) ≤ _; rw [hw]; omega
    · show i64w (D.cr + 1) = _; rw [hw]
def CYesQ (S : Hp) (j d n P B : Nat) (v : Value) (L : Wo) (J : Jr) (D : Dev) (has : Has) (F : Assn) (w : World) (e : Ending) (w' : World) : Prop :=
  ∃ S' J' D', Ext S S' ∧ e = .returned (.int .i64 0) ∧ Sat w' (jrA j d J' * (devA S' d D' * (pool S' * (wrsA v L * F)))) ∧ Side w w' ∧ JW n P (B + 1) J' D' (updB has L.bl) ∧
    D.cr ≤ D'.cr ∧ D'.cr ≤ D.cr + 2 * (L.length : Int) ∧ D.cw ≤ D'.cw ∧ D'.cw ≤ D.cw + 3 * (L.length : Int) ∧ D'.cf = D.cf + 1 ∧ J.sq ≤ J'.sq
def CNoQ (S : Hp) (j d : Nat) (v : Value) (L : Wo) (J : Jr) (D : Dev) (F : Assn) (w : World) (e : Ending) (w' : World) : Prop :=
  ∃ S', Ext S S' ∧ e = .returned (.int .i64 1) ∧ Sat w' (jrA j d J * (devA S' d D * (pool S' * (wrsA v L * F)))) ∧ Side w w'
def CAnyQ (S : Hp) (j d n P B : Nat) (v : Value) (L : Wo) (F : Assn) (w : World) (e : Ending) (w' : World) : Prop :=
  ∃ S' J' D' has' rc, Ext S S' ∧ e = .returned (.int .i64 rc) ∧ Sat w' (jrA j d J' * (devA S' d D' * (pool S' * (wrsA v L * F)))) ∧ Side w w' ∧ JW n P (B + 1) J' D' has'
theorem bl_len (L : Wo) : (Wo.bl L).length = L.length := by simp [Wo.bl]
section
variable (w : World) (S : Hp) (j d : Nat) (J : Jr) (D : Dev) (F : Assn) (v : Value) (L : Wo) (has : Has) {n P B : Nat}
theorem cyes_any (h : Sat w (jrA j d J * (devA S d D * (pool S * (wrsA v L * F))))) (hW : JW n P B J D has) (hP : 5 * n + 240 ≤ 2 * P) (hB : B ≤ 1000000) (h480 : ∀ x ∈ L, x.2.2.length = 480) (hb : Batch (n : Int) L.bl) :
    Calls Tryz.prog 9 #[ptV j, v] w (CYesQ S j d n P B v L J D has F w) := by
  obtain ⟨J', D', h1, h2, h3⟩ := jw_commit hW hP hB hb
  have hl := hb.n1
  rw [bl_len] at hl h3
  have := commitW_any w S j d J D F v L has h hW.inv h480 (by omega) true ⟨fun _ => may_batch (by rw [hW.jn]; exact hb), fun _ => rfl⟩
  rw [h1] at this
  exact this.mono fun e w' ⟨S', a, b, c, dd⟩ => ⟨S', J', D', a, b, c, dd, h2, h3⟩
theorem cno_any (h : Sat w (jrA j d J * (devA S d D * (pool S * (wrsA v L * F))))) (hW : JW n P B J D has) (h480 : ∀ x ∈ L, x.2.2.length = 480) (hl : L.length ≤ 1000) (hb : ¬ Batch (n : Int) L.bl) :
    Calls Tryz.prog 9 #[ptV j, v] w (CNoQ S j d v L J D F w) := by
  have := commitW_any w S j d J D F v L has h hW.inv h480 hl false ⟨fun h => (by cases h), fun h => absurd (by rw [← hW.jn]; exact batch_may h) hb⟩
  have en : jcommit J D false L.bl = (1, J, D) := by unfold jcommit; rw [if_pos rfl]
  rw [en] at this
  exact this
theorem cany_any (h : Sat w (jrA j d J * (devA S d D * (pool S * (wrsA v L * F))))) (hW : JW n P B J D has) (hP : 5 * n + 240 ≤ 2 * P) (hB : B ≤ 1000000) (h480 : ∀ x ∈ L, x.2.2.length = 480) (hl : L.length ≤ 1000) :
    Calls Tryz.prog 9 #[ptV j, v] w (CAnyQ S j d n P B v L F w) := by
  by_cases hb : Batch (n : Int) L.bl
  · exact (cyes_any w S j d J D F v L has h hW hP hB h480 hb).mono fun e w' ⟨S', J', D', a, b, c, dd, h2, _⟩ => ⟨S', J', D', _, 0, a, b, c, dd, h2⟩
  · exact (cno_any w S j d J D F v L has h hW h480 hl hb).mono fun e w' ⟨S', a, b, c, dd⟩ => ⟨S', J, D, has, 1, a, b, c, dd, jw_more hW (Nat.le_succ B)⟩
end
theorem stepW_480 (zs : List Int) (data : Int) (k : Nat) {L : Wo} (h : Wo.bl L = stepW zs data k) : ∀ x ∈ L, x.2.2.length = 480 := by
  intro x hx
  have : (x.2.1, x.2.2) ∈ Wo.bl L := List.mem_map.2 ⟨x, hx, rfl⟩
  rw [h] at this
  obtain ⟨i, _, e⟩ := List.mem_map.1 this
  injection e with _ e
  rw [← e]; exact bj_len _
def JReadQ (S : Hp) (j d n P B : Nat) (J : Jr) (D : Dev) (has : Has) (id : Int) (F : Assn) (w : World) (e : Ending) (w' : World) : Prop :=
  ∃ dv D', e = .returned (.tuple #[dv, .int .i64 0]) ∧ Sat w' (bs 5 dv ((has id).getD (zs 480)) * (jrA j d J * (devA S d D' * (pool S * F)))) ∧ Side w w' ∧ JW n P (B + 1) J D' has ∧ D'.cr = D.cr + (if (told J.T.ps id).isSome then 1 else 0) ∧ D'.cw = D.cw ∧ D'.cf = D.cf
theorem jreadW_any (w : World) (S : Hp) (j d : Nat) (J : Jr) (D : Dev) (F : Assn) (has : Has) {n P B : Nat} (h : Sat w (jrA j d J * (devA S d D * (pool S * F)))) (hW : JW n P B J D has) (hB : B ≤ 1000000) {id : Int} (h0 : 0 ≤ id) (h1 : id < (n : Int)) :
    Calls Tryz.prog 16 #[ptV j, .int .i64 id] w (JReadQ S j d n P B J D has id F w) := by
  obtain ⟨D', r1, r2, r3, r4, r5⟩ := jw_read hW hB h0 h1
  have := jread_any w S j d J D id F h hW.inv.ok hW.inv.dok
  rw [r1] at this
  exact this.mono fun e w' ⟨dv, a, b, c⟩ => ⟨dv, D', a, b.ansYes, c, r2, r3, r4, r5⟩
def JReadNoQ (S : Hp) (j d : Nat) (J : Jr) (D : Dev) (F : Assn) (w : World) (e : Ending) (w' : World) : Prop :=
  e = .returned (.tuple #[.slice none 0 0, .int .i64 1]) ∧ Sat w' (jrA j d J * (devA S d D * (pool S * F))) ∧ Side w w'
theorem jreadNo_any (w : World) (S : Hp) (j d : Nat) (J : Jr) (D : Dev) (F : Assn) (has : Has) {n P B : Nat} (h : Sat w (jrA j d J * (devA S d D * (pool S * F)))) (hW : JW n P B J D has) {id : Int} (h0 : id < 0 ∨ (n : Int) ≤ id) :
    Calls Tryz.prog 16 #[ptV j, .int .i64 id] w (JReadNoQ S j d J D F w) := by
  have := jread_any w S j d J D id F h hW.inv.ok hW.inv.dok
  have e : J.read D id = ((1, []), J, D) := by unfold Jr.read; rw [if_pos (by rw [hW.jn]; exact h0)]
  rw [e] at this
  refine this.mono ?_
  rintro e w' ⟨dv, a, b, c⟩
  obtain ⟨rfl, b'⟩ := b.ansNo (show (1 : Int) ≠ 0 by decide)
  exact ⟨a, b', c⟩
theorem room_quiet (w : World) (j d : Nat) (J : Jr) (F : Assn) (h : Sat w (jrA j d J * F)) (hJ : J.Ok) :
    Calls Tryz.prog 29 #[ptV j] w fun e w' => e = .returned (.int .i64 ((J.P : Int) - J.us - J.fr)) ∧ ∃ m, w' = w.drewN m := by
  obtain ⟨r, t, hx⟩ := h.jrOpen
  have c1 : w.cell? ⟨j, 1, none⟩ = some (ptV r) := hx.cell 1
  have c8 : w.cell? ⟨j, 8, none⟩ = some (.int .i64 J.us) := hx.cell 8
  have c9 : w.cell? ⟨j, 9, none⟩ = some (.int .i64 J.fr) := hx.cell 9
  have hR := hx.front2
  have hlen : ∀ w', Sat w' (ringA r (ringL J.P) * (pt j (.cells (J.cells d r t) 72 (0, 0)) * (tableA t J.T * F))) → Calls Tryz.prog 55 #[ptV r] w' (IntIs J.P w') := fun w' h => by
    have := ringLen_any w' r (ringL J.P) _ h
    rwa [ringL_length] at this
  obtain ⟨p0, p1, _, _, _, u0, u1, _, _, f0, f1⟩ := hJ
  have hl := hlen w hR
  have hld := hlen w.drew hR
  have hP : (J.P : Int) ≤ 20000 := by omega
  have hP0 : 0 ≤ (J.P : Int) := by omega
  have hu2 : J.us ≤ 20000 := by omega
  clear h hx hR hlen
  go_enter Tryz.func29, Tryz.ntmps29
  have s1 : IntKind.i64.wrap ((J.P : Int) - J.us) = (J.P : Int) - J.us := by rw [IntKind.wrap_i64]; omega
  have s2 : IntKind.i64.wrap ((J.P : Int) - J.us - J.fr) = (J.P : Int) - J.us - J.fr := by rw [IntKind.wrap_i64]; omega
  go_wp2_with fail
  go_region_held3 (fun w' => w'.cell? ⟨j, 1, none⟩ = some (ptV r) ∧ w'.cell? ⟨j, 8, none⟩ = some (.int .i64 J.us) ∧ w'.cell? ⟨j, 9, none⟩ = some (.int .i64 J.fr)) (first | exact ⟨c1, c8, c9⟩) (first
    | (go_at_call 55; (with_reducible refine hld.mono ?_); rintro e w1 ⟨rfl, rfl⟩))
  go_wp2
  go_ret
  exact ⟨rfl, 1, rfl⟩
def ShownQ (w : World) (e : Ending) (w' : World) : Prop := e = .returned (.bool true) ∧ Sat w' (whole w) ∧ Side w w'
end Go.Proofs.YtlfooilcngjeiaaGreat

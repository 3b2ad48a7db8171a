/- The laws of layer 8: what comes in; writes, may. -/
import Derived.Test.YtlfooilcngjeiaaHa
import Derived.OpenShut
namespace Go.Proofs.Ytlfooilcngjeiaa
set_option linter.unusedVariables false
set_option linter.unusedSimpArgs false
open Go.RowKit Go.SL
/-- A slice of ints that came in. -/
def IsInts (w : World) (a : Option Addr) (len cap : Nat) (zs : List Int) : Prop :=
  (a = none ∧ len = 0 ∧ cap = 0 ∧ zs = []) ∨
  ∃ x, a = some x ∧ len ≤ cap ∧ cap ≤ maxLen ∧ zs.length = cap ∧ (∀ i, i < zs.length → w.cell? (x.add i) = some (.int .i64 (zs.getD i 0))) ∧ ∀ n ∈ zs, (Lit.int .i64 n).wf = true
theorem IsInts.cell {w : World} {a : Option Addr} {len cap : Nat} {zs : List Int} (h : IsInts w a len cap zs) {i : Nat} (hi : i < len) :
    ∃ b off, a = some ⟨b, off, none⟩ ∧ w.cell? ⟨b, off + i, none⟩ = some (.int .i64 (zs.getD i 0)) ∧ len ≤ cap ∧ cap ≤ 9223372036854775807 := by
  rcases h with ⟨_, rfl, _⟩ | ⟨x, rfl, hl, hm, hz, hc, _⟩
  · omega
  · obtain ⟨b, off, rfl, hc'⟩ := ints_at hc (by omega)
    exact ⟨b, off, rfl, hc' i (by omega), hl, by simpa [maxLen] using hm⟩
theorem IsInts.len_le {w : World} {a : Option Addr} {len cap : Nat} {zs : List Int} (h : IsInts w a len cap zs) : len ≤ 9223372036854775807 := by
  rcases h with ⟨_, rfl, _⟩ | ⟨x, rfl, hl, hm, _⟩
  · omega
  · simp only [maxLen] at hm; omega
/-- A step that came in. -/
structure StepV where
  a : Option Addr
  len : Nat
  cap : Nat
  zs : List Int
  data : Int
  n : Int
def StepV.v (s : StepV) : Value := .agg #[.slice s.a s.len s.cap, .int .i64 s.data, .int .i64 s.n]
/-- Steps that came in. -/
def IsSteps (w : World) (a : Option Addr) (len cap : Nat) (X : Nat → StepV) : Prop :=
  len = 0 ∨ ∃ b off, a = some ⟨b, off, none⟩ ∧ len ≤ cap ∧ cap ≤ maxLen ∧ ∀ i, i < len →
    w.cell? ⟨b, off + i * 3, none⟩ = some (.slice (X i).a (X i).len (X i).cap) ∧ w.cell? ⟨b, off + i * 3 + 1, none⟩ = some (.int .i64 (X i).data) ∧ w.cell? ⟨b, off + i * 3 + 2, none⟩ = some (.int .i64 (X i).n) ∧ IsInts w (X i).a (X i).len (X i).cap (X i).zs
/-- Blocks of bytes. -/
def blksA (L : List (Nat × List UInt8)) : Assn := L.foldr (fun p A => pt p.1 (.cells (u8s p.2) 5 (0, 0)) * A) emp
theorem blksA_snoc (L : List (Nat × List UInt8)) (g : Nat) (l : List UInt8) : blksA (L ++ [(g, l)]) = pt g (.cells (u8s l) 5 (0, 0)) * blksA L := by
  induction L with
  | nil => rfl
  | cons x L ih =>
    show pt x.1 _ * blksA (L ++ [(g, l)]) = _ * (pt x.1 _ * blksA L)
    rw [ih]; exact star_left_comm _ _ _
/-- Writes of one's own: where the bytes lie, the block's number, the bytes. -/
abbrev Wo := List (Nat × Int × List UInt8)
def Wo.wr (L : Wo) : List Wr := L.map fun x => (x.2.1, .slice (some ⟨x.1, 0, none⟩) 480 480, x.2.2)
def Wo.bl (L : Wo) : Bl := L.map fun x => (x.2.1, x.2.2)
def wrsA (v : Value) (L : Wo) : Assn := sl 53 2 v L.length (SL.flatW L.wr) * blksA (L.map fun x => (x.1, x.2.2))
def stepW (zs : List Int) (data : Int) (k : Nat) : Bl := (List.range k).map fun i : Nat => (zs.getD i 0, bj (data + (i : Int)))
theorem stepW_succ (zs : List Int) (data : Int) (k : Nat) : stepW zs data (k + 1) = stepW zs data k ++ [(zs.getD k 0, bj (data + (k : Int)))] := by simp [stepW, List.range_succ]
theorem append_write {w : World} {v : Value} {Z : List Wr} {F : Assn} {n : Nat} (h : Sat w (sl 53 2 v n (SL.flatW Z) * F)) (id : Int) (g : Nat) (l : List UInt8) (hl : n ≤ 1000) :
    ∃ a c w', (Builtin.append_ #[45, 45] 45 #[v, .slice (some ⟨w.heap.size, 0, none⟩) 1 1]).run Try.prog (w.alloc (.cells #[.int .i64 id, .slice (some ⟨g, 0, none⟩) 480 480] 53 (0, 0))) = .ok (.slice a (n + 1) c) w' ∧
      Sat w' (sl 53 2 (.slice a (n + 1) c) (n + 1) (SL.flatW (Z ++ [(id, .slice (some ⟨g, 0, none⟩) 480 480, l)])) * F) ∧ Side w w' := by
  obtain ⟨i0, hi, hz, hs0, hb0⟩ := info_parts info_write2
  have hA := h.alloc (.cells #[.int .i64 id, .slice (some ⟨g, 0, none⟩) 480 480] 53 (0, 0))
  have hR : Rds (w.alloc (.cells #[.int .i64 id, .slice (some ⟨g, 0, none⟩) 480 480] 53 (0, 0))) 2 (.slice (some ⟨w.heap.size, 0, none⟩) 1 1) 1 [.int .i64 id, .slice (some ⟨g, 0, none⟩) 480 480] :=
    ⟨rfl, .inr ⟨_, _, rfl, fun j u hu => by
      rw [Addr.add_lit, Nat.zero_add]
      exact (hA.cell j).trans (by simpa using hu)⟩⟩
  obtain ⟨v', w', hrun, hsat', hside'⟩ := Sat.append (P := Try.prog) (ty := 45) Try.underlying45 hi hz hs0 hb0 rfl hA.right hR (by simp [Value.oneCell']) (by unfold maxLen; omega) (by omega)
  obtain ⟨a, c, rfl⟩ := sl_shape hsat'
  exact ⟨a, c, w', hrun, by rw [flatW_snoc]; exact hsat', ((Side.refl w).alloc _).trans hside'⟩
theorem block_enters : ∀ args w, (callFunc 23 args).run Try.prog w = .ok (.enter 23 args) w := enters Try.func23 (by kernel_rfl) rfl
def WritesQ (zs : List Int) (data : Int) (k : Nat) (w : World) (e : Ending) (w' : World) : Prop :=
  ∃ v L, e = .returned v ∧ Wo.bl L = stepW zs data k ∧ Sat w' (wrsA v L * whole w) ∧ Side w w'
def WritesRel (b m : Nat) (o : Obj) (zs : List Int) (data : Int) (w : World) (u3 u4 : Value) (wr : World) : Prop :=
  ∃ (k : Nat) (L : Wo), k ≤ m ∧ u4 = .int .i64 (k : Int) ∧ Wo.bl L = stepW zs data k ∧ Sat wr (wrsA u3 L * (pt b o * whole w)) ∧ Side w wr
theorem Wo.len {L : Wo} {zs : List Int} {data : Int} {k : Nat} (h : Wo.bl L = stepW zs data k) : L.length = k := by
  have := congrArg List.length h
  simpa [Wo.bl, stepW] using this
theorem bj_wrap (a : Int) : bj (IntKind.i64.wrap a) = bj a := bj_congr (by rw [IntKind.wrap_i64]; omega)
set_option maxRecDepth 100000 in
set_option maxHeartbeats 2000000 in
theorem writes_any (w : World) (s : StepV) (hz : IsInts w s.a s.len s.cap s.zs) (m : Nat) (hm : m = if s.len < 30 then s.len else 30) :
    Calls Try.prog 19 #[s.v] w (WritesQ s.zs s.data m w) := by
  obtain ⟨a, len, cap, zs, data, n⟩ := s
  dsimp only at hz hm ⊢
  have hlen := hz.len_le
  have Hz := SL.hid hz
  have hml : m ≤ len := by split at hm <;> omega
  have hm30 : m ≤ 30 := by split at hm <;> omega
  have hmx : m < len → 30 ≤ m := by split at hm <;> omega
  have Hmx := SL.hid hmx
  unfold StepV.v
  dsimp only
  have h1 := (Sat.whole w).alloc (.cells #[.slice a len cap, .int .i64 data, .int .i64 n] 48 (0, 0))
  have d1 := (Side.refl w).alloc (.cells #[.slice a len cap, .int .i64 data, .int .i64 n] 48 (0, 0))
  clear hz hm hmx
  go_enter Try.func19, Try.ntmps19
  go_wp2_with fail
  generalize w.alloc (.cells #[.slice a len cap, .int .i64 data, .int .i64 n] 48 (0, 0)) = w1 at h1 d1 ⊢
  generalize w.heap.size = b at h1 ⊢
  go_loopw [3, 4] (fun u3 u4 wr => WritesRel b m (.cells #[.slice a len cap, .int .i64 data, .int .i64 n] 48 (0, 0)) zs data w u3 u4 wr) (fun _ u _ => m - (intOf u).toNat)
  case atStart =>
    refine ⟨0, [], Nat.zero_le _, rfl, rfl, ?_, d1⟩
    exact (h1.slNil 53 2).to (by unfold wrsA; show _ = (sl _ _ _ _ _ * emp) * _; rw [star_emp]; rfl)
  case round =>
    clear h1 d1
    obtain ⟨k, L, hk, rfl, hL, hsat, hside⟩ := hrel
    have hLl := Wo.len hL
    have hwl : (Wo.wr L).length = k := by simp [Wo.wr, hLl]
    have H0 : Sat wr (sl 53 2 u3 (Wo.wr L).length (SL.flatW (Wo.wr L)) * (pt b (.cells #[.slice a len cap, .int .i64 data, .int .i64 n] 48 (0, 0)) * (blksA (L.map fun x => (x.1, x.2.2)) * whole w))) := hsat.to (by unfold wrsA; rw [hwl, hLl]; ac_rfl)
    have c0 : wr.cell? ⟨b, 0, none⟩ = some (.slice a len cap) := H0.front2.cell 0
    have hk30 : (k : Int) ≤ 30 := by omega
    by_cases hlt : k < m
    · have hlt' : (k : Int) < (len : Int) := by omega
      have hlt30 : (k : Int) < 30 := by omega
      obtain ⟨g, off, rfl, hcz, hlc, hcap⟩ := Hz.out.cell (show k < len by omega)
      have hst := stepW_succ zs data k
      have hcz' : wr.cell? ⟨g, off + k, none⟩ = some (.int .i64 (zs.getD k 0)) := (H0.to (by ac_rfl : _ = (sl 53 2 u3 (Wo.wr L).length (SL.flatW (Wo.wr L)) * (pt b (.cells #[.slice (some ⟨g, off, none⟩) len cap, .int .i64 data, .int .i64 n] 48 (0, 0)) * blksA (L.map fun x => (x.1, x.2.2)))) * whole w)).cellOld hcz
      have c1 : wr.cell? ⟨b, 1, none⟩ = some (.int .i64 data) := H0.front2.cell 1
      rw [hwl] at H0
      obtain ⟨va, vc, rfl⟩ := sl_shape H0
      have hbw := bj_wrap (data + (k : Int))
      have HH := SL.hid H0; have Hst := SL.hid hst; have Hbw := SL.hid hbw; have HL := SL.hid hL; have Hwl := SL.hid hwl; have Hside := SL.hid hside
      clear hcz hsat hst hL hwl hLl hside hbw
      generalize zs.getD k 0 = id at hcz' Hst
      go_wp2_with fail
      have hbq : bj (IntKind.i64.wrap (data + (k : Int))) = bj (data + (k : Int)) := Hbw.out
      obtain ⟨q, hq⟩ : ∃ q, IntKind.i64.wrap (data + (k : Int)) = q := ⟨_, rfl⟩
      rw [hq] at hbq
      have hB := block_any q wr.drew
      have Hbq := SL.hid hbq
      clear hbq
      have HD := SL.hid (Sat.drew HH.out)
      go_region_law (first
        | (refine step_append_run hrun rfl _ _ rfl rfl (by rfl) (by rfl) ?_)
        | (refine step_call_run hB block_enters rfl _ _ rfl (by rfl) ?_; rintro e w4 ⟨gb, rfl, h4, d4⟩; refine ⟨_, rfl, ?_⟩; have q0 : w4.cell? ⟨b, 0, none⟩ = some (.slice (some ⟨g, off, none⟩) len cap) := h4.cellOld (W := wr.drew) c0; have q1 : w4.cell? ⟨b, 1, none⟩ = some (.int .i64 data) := h4.cellOld (W := wr.drew) c1; have q2 : w4.cell? ⟨g, off + k, none⟩ = some (.int .i64 id) := h4.cellOld (W := wr.drew) hcz'; obtain ⟨xa, xc, w5, hrun, h5, d5⟩ := append_write ((h4.under HD.out).front2) id gb (bj (data + (k : Int))) (by omega)))
      all_goals
        have D5 := SL.hid (((Hside.out.drew).trans d4).trans d5)
        have H5 := SL.hid h5
        clear h5 d5 hrun h4 d4 q0 q1 q2 hB c0 c1 hcz'
        go_wp2
        go_roundw
        case rel =>
          refine ⟨k + 1, L ++ [(gb, id, bj (data + (k : Int)))], by omega, by go_num, ?_, ?_, D5.out⟩
          · rw [Hst.out, ← HL.out]; simp [Wo.bl]
          · have h := H5.out
            unfold wrsA
            have e1 : (L ++ [(gb, id, bj (data + (k : Int)))]).length = k + 1 := by rw [List.length_append, Wo.len HL.out]; rfl
            have e2 : Wo.wr (L ++ [(gb, id, bj (data + (k : Int)))]) = Wo.wr L ++ [(id, .slice (some ⟨gb, 0, none⟩) 480 480, bj (data + (k : Int)))] := by simp [Wo.wr]
            have e3 : (L ++ [(gb, id, bj (data + (k : Int)))]).map (fun x => (x.1, x.2.2)) = L.map (fun x => (x.1, x.2.2)) ++ [(gb, bj (data + (k : Int)))] := by simp
            rw [e1, e2, e3, blksA_snoc]
            rw [Hbq.out] at h
            exact h.to (by ac_rfl)
        case measure => simp [intOf]; omega
    · obtain rfl : k = m := by omega
      have hfin : Sat wr (wrsA u3 L * whole w) := (hsat.to (by ac_rfl : _ = pt b (.cells #[.slice a len cap, .int .i64 data, .int .i64 n] 48 (0, 0)) * (wrsA u3 L * whole w))).right
      rw [hwl] at H0
      obtain ⟨va, vc, rfl⟩ := sl_shape H0
      have Hs := SL.hid hfin
      clear hsat H0 hfin hwl hLl
      by_cases h30 : k < len
      · have hlt' : (k : Int) < (len : Int) := by omega
        have := Hmx.out h30
        obtain rfl : k = 30 := by omega
        go_wp2
        go_ret
        exact ⟨_, L, rfl, hL, Hs.out, hside⟩
      · have hlt' : ¬ (k : Int) < (len : Int) := by omega
        have hd : decide ((k : Int) < (len : Int)) = false := by simpa using hlt'
        go_wp2
        go_ret
        exact ⟨_, L, rfl, hL, Hs.out, hside⟩
end Go.Proofs.Ytlfooilcngjeiaa

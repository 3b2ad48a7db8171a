/- replay: where. -/
import Derived.Test.YtlfooilcngjeiaaQe
namespace Go.SL
set_option linter.unusedVariables false
set_option linter.unusedSimpArgs false
open Go.RowKit
def u64s (l : List Int) : Array Value := (l.map (Value.int .u64)).toArray
theorem size_u64s (l : List Int) : (u64s l).size = l.length := by simp [u64s]
theorem get_u64s (l : List Int) (i : Nat) : (u64s l)[i]? = l[i]?.map (Value.int .u64) := by simp [u64s]
theorem set_u64s (l : List Int) (i : Nat) (x : Int) : (u64s l).setIfInBounds i (.int .u64 x) = u64s (l.set i x) := by simp [u64s, List.map_set]
theorem get_u64s_lt {l : List Int} {i : Nat} (h : i < l.length) : (u64s l)[i]? = some (.int .u64 (l.getD i 0)) := by
  rw [get_u64s, List.getD, List.getElem?_eq_getElem h]; rfl
theorem made_u64s (n : Nat) : madeCells (Value.int .u64 0).cells (n * 1) = u64s (List.replicate n 0) := by
  apply Array.ext
  · simp [size_madeCells, size_u64s]
  · intro i h1 h2
    simp [madeCells, u64s, Value.cells, Nat.mod_one]
/-- where: the places, and the numbers, of all blocks so far. -/
def vstep (sq : Int) (s : List Int × List Int) (x : Fnd) : List Int × List Int :=
  if x.1.sq ≤ sq ∧ s.2.getD x.1.id.toNat 0 < x.1.sq then (s.1.set x.1.id.toNat (x.2 : Int), s.2.set x.1.id.toNat x.1.sq) else s
def vstart (B : Nat) : List Int × List Int := (List.replicate B (-1), List.replicate B 0)
def whereL (L : List Fnd) (sq : Int) (B : Nat) : List Int := (L.foldl (vstep sq) (vstart B)).1
theorem vstep_len (sq : Int) (L : List Fnd) (s : List Int × List Int) : (L.foldl (vstep sq) s).1.length = s.1.length ∧ (L.foldl (vstep sq) s).2.length = s.2.length := by
  induction L generalizing s with
  | nil => exact ⟨rfl, rfl⟩
  | cons x L ih =>
    have h := ih (vstep sq s x)
    have : (vstep sq s x).1.length = s.1.length ∧ (vstep sq s x).2.length = s.2.length := by
      unfold vstep; split
      · simp
      · exact ⟨rfl, rfl⟩
    exact ⟨h.1.trans this.1, h.2.trans this.2⟩
theorem whereL_len (L : List Fnd) (sq : Int) (B : Nat) : (whereL L sq B).length = B := by
  unfold whereL; rw [(vstep_len sq L _).1]; simp [vstart]
end Go.SL
namespace Go.Proofs.Ytlfooilcngjeiaa
set_option linter.unusedVariables false
set_option linter.unusedSimpArgs false
open Go.RowKit Go.SL
theorem info_u64 : (Try.prog.info? 23).map (fun i => (i.zero, i.size, i.bytes)) = some (some (.int .u64 0), 1, 8) := by kernel_rfl
theorem make_u64s (n : Nat) (hn : n ≤ 1048576) (w : World) : (Instr.makeSlice 165 (.int .i64 n) (.int .i64 n)).run Try.prog w =
    .ok (.slice (some ⟨w.heap.size, 0, none⟩) n n) (w.alloc (.cells (u64s (List.replicate n 0)) 23 (0, 0))) := by
  obtain ⟨i, hi, hz, hs, hb⟩ := info_parts info_u64
  have := run_make (P := Try.prog) w 165 23 i _ Try.underlying165 hi hz .i64 .i64 n n (by omega) (by omega) (by rw [hb]; omega) (by omega)
  rw [this, hs]
  simp only [Int.toNat_natCast]
  rw [made_u64s]
def WhereQ (l : List Int) (w : World) (e : Ending) (w' : World) : Prop := ∃ g, e = .returned (.slice (some ⟨g, 0, none⟩) l.length l.length) ∧ Sat w' (pt g (.cells (ints l) 3 (0, 0)) * whole w) ∧ Side w w'
def WhereRel1 (g B : Nat) (w : World) (u : Value) (wr : World) : Prop :=
  ∃ k : Nat, k ≤ B ∧ u = .int .i64 (k : Int) ∧ Sat wr (pt g (.cells (ints (List.replicate k (-1) ++ List.replicate (B - k) 0)) 3 (0, 0)) * whole w) ∧ Side w wr
def WhereRel2 (ga gl : Nat) (L : List Fnd) (sq : Int) (B : Nat) (w : World) (u : Value) (wr : World) : Prop :=
  ∃ k : Nat, k ≤ L.length ∧ u = .int .i64 (k : Int) ∧ Sat wr (pt ga (.cells (ints ((L.take k).foldl (vstep sq) (vstart B)).1) 3 (0, 0)) * (pt gl (.cells (u64s ((L.take k).foldl (vstep sq) (vstart B)).2) 23 (0, 0)) * whole w)) ∧ Side w wr
set_option maxRecDepth 100000 in
set_option maxHeartbeats 2000000 in
theorem where_any (w : World) (v : Value) (L : List Fnd) (sq : Int) (B : Nat) (h : RdF w v L) (hB : B ≤ 3840) (hok : ∀ x ∈ L, x.1.ok = true ∧ x.1.id < (B : Int)) (hl : L.length ≤ 1000000) :
    Calls Try.prog 56 #[v, .int .u64 sq, .int .i64 (B : Int)] w (WhereQ (whereL L sq B) w) := by
  have hln : (L.length : Int) ≤ 1000000 := by omega
  have hBn : (B : Int) ≤ 3840 := by omega
  have H0 := SL.hid h
  have Hok := SL.hid hok
  obtain ⟨a, c, rfl⟩ := h.shape
  clear h hok
  have hmk := make_ints B (by omega) w
  have h1 := (Sat.whole w).alloc (.cells (ints (List.replicate B 0)) 3 (0, 0))
  have d1 := (Side.refl w).alloc (.cells (ints (List.replicate B 0)) 3 (0, 0))
  go_enter Try.func56, Try.ntmps56
  go_wp2_with fail
  generalize w.alloc (.cells (ints (List.replicate B 0)) 3 (0, 0)) = w1 at h1 d1 ⊢
  generalize w.heap.size = ga at h1 ⊢
  clear hmk
  go_loopw [16] (fun u wr => WhereRel1 ga B w u wr) (fun u _ => B - (intOf u).toNat)
  case atStart => exact ⟨0, Nat.zero_le _, rfl, h1, d1⟩
  case round =>
    clear h1 d1
    obtain ⟨k, hk, rfl, hsat, hside⟩ := hrel
    by_cases hlt : k < B
    · have hlt' : (k : Int) < (B : Int) := by omega
      have hf := hsat.frozen k
      have hv : wr.cell? ⟨ga, k, none⟩ = some (.int .i64 ((List.replicate k (-1) ++ List.replicate (B - k) (0 : Int)).getD k 0)) := (hsat.cell k).trans (get_ints_lt (by simp; omega))
      generalize (List.replicate k (-1) ++ List.replicate (B - k) (0 : Int)).getD k 0 = q at hv
      have h4 := hsat.setCell k (.int .i64 (-1))
      rw [set_ints, fill_next B k (-1) hlt] at h4
      have H4 := SL.hid h4
      clear hsat h4
      go_wp2
      go_roundw
      case rel => exact ⟨k + 1, by omega, by go_num, H4.out, hside.setCell _ _⟩
      case measure => simp [intOf]; omega
    · obtain rfl : k = B := by omega
      have hfull : List.replicate k (-1 : Int) ++ List.replicate (k - k) 0 = (vstart k).1 := by simp [vstart]
      rw [hfull] at hsat
      have hmk := make_u64s k (by omega) wr
      have h2 := (hsat.alloc (.cells (u64s (List.replicate k 0)) 23 (0, 0))).front2
      have d2 := hside.alloc (.cells (u64s (List.replicate k 0)) 23 (0, 0))
      clear hsat hside hfull
      go_wp2_with fail
      generalize wr.alloc (.cells (u64s (List.replicate k 0)) 23 (0, 0)) = w2 at h2 d2 ⊢
      generalize wr.heap.size = gl at h2 ⊢
      clear hmk
      go_loopw [27] (fun u wr => WhereRel2 ga gl L sq k w u wr) (fun u _ => L.length - (intOf u).toNat)
      case atStart => exact ⟨0, Nat.zero_le _, rfl, h2, d2⟩
      case round =>
        clear h2 d2
        generalize k = B at *
        obtain ⟨k, hk, rfl, hsat, hside⟩ := hrel
        have hR : RdF wr (.slice a L.length c) L := H0.out.keep (hsat.to (by ac_rfl : _ = (pt ga _ * pt gl _) * whole w))
        by_cases hlt : k < L.length
        · have hlt' : (k : Int) < (L.length : Int) := by omega
          obtain ⟨g, off, c', hv, t, p, ht, c0, c1, c2, c3, c4, c5, c6, c7⟩ := fnd_cells hR hlt
          cases hv
          have hst := foldl_take (vstep sq) (vstart B) L hlt
          obtain ⟨hok, hid⟩ := Hok.out _ (List.getElem_mem hlt)
          rw [ht] at hst hok hid
          have hlen := vstep_len sq (L.take k) (vstart B)
          obtain ⟨-, -, -, -, -, -, -, -, -, hid0, -⟩ := ok_range hok
          dsimp only at hid hid0
          generalize (L.take k).foldl (vstep sq) (vstart B) = s at hsat hst hlen
          obtain ⟨at_, last⟩ := s
          simp only [vstart, List.length_replicate] at hlen
          obtain ⟨hla, hll⟩ := hlen
          dsimp only at hsat
          obtain ⟨id, hidn⟩ := Int.eq_ofNat_of_zero_le hid0
          rw [hidn] at c6 hid
          have hidb : id < B := by omega
          have ca : wr.cell? ⟨ga, id, none⟩ = some (.int .i64 (at_.getD id 0)) := (hsat.cell id).trans (get_ints_lt (by omega))
          have cl : wr.cell? ⟨gl, id, none⟩ = some (.int .u64 (last.getD id 0)) := (hsat.front2.cell id).trans (get_u64s_lt (by omega))
          have hst2 : (L.take (k + 1)).foldl (vstep sq) (vstart B) = if t.sq ≤ sq ∧ last.getD id 0 < t.sq then (at_.set id (p : Int), last.set id t.sq) else (at_, last) := by
            rw [hst]; simp only [vstep, hidn, Int.toNat_natCast]
          have Hst := SL.hid hst2
          clear hR ht hok hst hst2 hidn
          generalize last.getD id 0 = ls at cl Hst
          have hA := hsat.alloc (.cells #[.int .u32 t.ep, .int .u64 t.st, .int .u64 t.sq, .int .u64 t.fl, .int .i64 t.ix, .int .i64 t.ct, .int .i64 (id : Int), .int .i64 (p : Int)] 119 (0, 0))
          have hsA := hside.alloc (.cells #[.int .u32 t.ep, .int .u64 t.st, .int .u64 t.sq, .int .u64 t.fl, .int .i64 t.ix, .int .i64 t.ct, .int .i64 (id : Int), .int .i64 (p : Int)] 119 (0, 0))
          have cl2 := cell_alloc wr (.cells #[.int .u32 t.ep, .int .u64 t.st, .int .u64 t.sq, .int .u64 t.fl, .int .i64 t.ix, .int .i64 t.ct, .int .i64 (id : Int), .int .i64 (p : Int)] 119 (0, 0)) _ _ cl
          have hltw : wr.heap.size < (wr.alloc (.cells #[.int .u32 t.ep, .int .u64 t.st, .int .u64 t.sq, .int .u64 t.fl, .int .i64 t.ix, .int .i64 t.ct, .int .i64 (id : Int), .int .i64 (p : Int)] 119 (0, 0))).heap.size := by simp
          obtain ⟨w5, hw5⟩ : ∃ w5, wr.alloc (.cells #[.int .u32 t.ep, .int .u64 t.st, .int .u64 t.sq, .int .u64 t.fl, .int .i64 t.ix, .int .i64 t.ct, .int .i64 (id : Int), .int .i64 (p : Int)] 119 (0, 0)) = w5 := ⟨_, rfl⟩
          have Hw5 := SL.hid hw5
          rw [hw5] at hA hsA cl2 hltw
          have e2 : w5.cell? ⟨wr.heap.size, 2, none⟩ = some (.int .u64 t.sq) := hA.cell 2
          have e6 : w5.cell? ⟨wr.heap.size, 6, none⟩ = some (.int .i64 (id : Int)) := hA.cell 6
          clear hw5
          by_cases h1 : t.sq ≤ sq
          · by_cases h2 : ls < t.sq
            · have hst3 : (L.take (k + 1)).foldl (vstep sq) (vstart B) = (at_.set id (p : Int), last.set id t.sq) := by rw [Hst.out, if_pos ⟨h1, h2⟩]
              have Hst3 := SL.hid hst3
              clear Hst hst3
              go_wp2_with fail
              rw [Hw5.out]
              clear c0 c1 c2 c3 c4 c5 c6 c7 hsat ca cl
              generalize wr.heap.size = b11 at *
              go_quiet (fail)
              go_wp2_with fail
              have hD : Sat (w5.drewN nq) (pt b11 (.cells #[.int .u32 t.ep, .int .u64 t.st, .int .u64 t.sq, .int .u64 t.fl, .int .i64 t.ix, .int .i64 t.ct, .int .i64 (id : Int), .int .i64 (p : Int)] 119 (0, 0)) * (pt ga (.cells (ints at_) 3 (0, 0)) * (pt gl (.cells (u64s last) 23 (0, 0)) * whole w))) := hA.drew
              have hsD := hsA.drewN nq
              clear hA hsA cl2 e2 e6 hltw
              generalize w5.drewN nq = w6 at hD hsD ⊢
              obtain ⟨BIG, hBIG⟩ : ∃ X, X = pt b11 (.cells #[.int .u32 t.ep, .int .u64 t.st, .int .u64 t.sq, .int .u64 t.fl, .int .i64 t.ix, .int .i64 t.ct, .int .i64 (id : Int), .int .i64 (p : Int)] 119 (0, 0)) := ⟨_, rfl⟩
              have g2 : ∀ w', Sat w' BIG → w'.cell? ⟨b11, 2, none⟩ = some (.int .u64 t.sq) := fun w' h => ((hBIG ▸ h : Sat w' (pt b11 (.cells #[.int .u32 t.ep, .int .u64 t.st, .int .u64 t.sq, .int .u64 t.fl, .int .i64 t.ix, .int .i64 t.ct, .int .i64 (id : Int), .int .i64 (p : Int)] 119 (0, 0)))).addEmp).cell 2
              have g6 : ∀ w', Sat w' BIG → w'.cell? ⟨b11, 6, none⟩ = some (.int .i64 (id : Int)) := fun w' h => ((hBIG ▸ h : Sat w' (pt b11 (.cells #[.int .u32 t.ep, .int .u64 t.st, .int .u64 t.sq, .int .u64 t.fl, .int .i64 t.ix, .int .i64 t.ct, .int .i64 (id : Int), .int .i64 (p : Int)] 119 (0, 0)))).addEmp).cell 6
              have g7 : ∀ w', Sat w' BIG → w'.cell? ⟨b11, 7, none⟩ = some (.int .i64 (p : Int)) := fun w' h => ((hBIG ▸ h : Sat w' (pt b11 (.cells #[.int .u32 t.ep, .int .u64 t.st, .int .u64 t.sq, .int .u64 t.fl, .int .i64 t.ix, .int .i64 t.ct, .int .i64 (id : Int), .int .i64 (p : Int)] 119 (0, 0)))).addEmp).cell 7
              have ca6 : w6.cell? ⟨ga, id, none⟩ = some (.int .i64 (at_.getD id 0)) := (hD.front2.cell id).trans (get_ints_lt (by omega))
              have fa6 : w6.frozen? ⟨ga, id, none⟩ = false := hD.front2.frozen id
              have h7 := hD.front2.setCell id (.int .i64 (p : Int))
              rw [set_ints] at h7
              have cl7 : (w6.setCell ⟨ga, id, none⟩ (.int .i64 (p : Int))).cell? ⟨gl, id, none⟩ = some (.int .u64 (last.getD id 0)) := (h7.front3.cell id).trans (get_u64s_lt (by omega))
              have fl7 : (w6.setCell ⟨ga, id, none⟩ (.int .i64 (p : Int))).frozen? ⟨gl, id, none⟩ = false := h7.front3.frozen id
              have h8 := h7.front3.setCell id (.int .u64 t.sq)
              rw [set_u64s] at h8
              have K6 : Sat w6 BIG := hBIG ▸ hD.left
              have K7 : Sat (w6.setCell ⟨ga, id, none⟩ (.int .i64 (p : Int))) BIG := hBIG ▸ h7.front2.left
              have K8 : Sat ((w6.setCell ⟨ga, id, none⟩ (.int .i64 (p : Int))).setCell ⟨gl, id, none⟩ (.int .u64 t.sq)) BIG := hBIG ▸ h8.front3.left
              have K6d := K6.drew; have K7d := K7.drew; have K8d := K8.drew
              have H8 := SL.hid (h8.front3.right.front2)
              clear hD h7 h8 hBIG
              go_region_held3 (fun w' => Sat w' BIG) (first | (with_reducible exact K6) | (with_reducible exact K7) | (with_reducible exact K8) | (with_reducible exact K6d) | (with_reducible exact K7d) | (with_reducible exact K8d)) (fail)
              all_goals
                go_wp2
                go_roundw
                case rel => exact ⟨k + 1, by omega, by go_num, by rw [Hst3.out]; exact H8.out.drew, ((hsD.setCell _ _).setCell _ _).drew⟩
                case measure => simp [intOf]; omega
            · have hd2 : decide (ls < t.sq) = false := by simpa using h2
              have hst3 : (L.take (k + 1)).foldl (vstep sq) (vstart B) = (at_, last) := by rw [Hst.out, if_neg (fun h => h2 h.2)]
              have Hst3 := SL.hid hst3
              have HA := SL.hid hA
              clear Hst hst3 hA
              go_wp2_with fail
              rw [Hw5.out]
              clear c0 c1 c2 c3 c4 c5 c6 c7 hsat ca cl
              go_quiet (fail)
              go_wp2
              go_roundw
              case rel => exact ⟨k + 1, by omega, by go_num, by rw [Hst3.out]; exact HA.out.right.drew, hsA.drewN nq⟩
              case measure => simp [intOf]; omega
          · have hd1 : decide (t.sq ≤ sq) = false := by simpa using h1
            have hst3 : (L.take (k + 1)).foldl (vstep sq) (vstart B) = (at_, last) := by rw [Hst.out, if_neg (fun h => h1 h.1)]
            have Hst3 := SL.hid hst3
            have HA := SL.hid hA
            clear Hst hst3 hA
            go_wp2_with fail
            rw [Hw5.out]
            clear c0 c1 c2 c3 c4 c5 c6 c7 hsat ca cl
            go_quiet (fail)
            go_wp2
            go_roundw
            case rel => exact ⟨k + 1, by omega, by go_num, by rw [Hst3.out]; exact HA.out.right.drew, hsA.drewN nq⟩
            case measure => simp [intOf]; omega
        · obtain rfl : k = L.length := by omega
          rw [List.take_length] at hsat
          have hlen : (L.foldl (vstep sq) (vstart B)).1.length = B := whereL_len L sq B
          go_wp2_with fail
          go_ret
          exact ⟨ga, by rw [show (whereL L sq B).length = B from hlen]; rfl, hsat.drop2, hside⟩
end Go.Proofs.Ytlfooilcngjeiaa

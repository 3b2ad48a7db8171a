/- BatchOver: the walk. -/
import Derived.Test.YtcgpegdnicnciaaOv
namespace Go.SL
set_option linter.unusedVariables false
set_option linter.unusedSimpArgs false
open Go.RowKit
/-- copy as a step of a region that draws its order: its run is known. -/
theorem step_copy_run {P : Program} {ops : Array Oper} {o : Oper} {a : Act} {w w' : World} {K : Act → World → Prop} {Q : Exit → Act → World → Prop} {E : Prop} {t1 t2 ty : TypeId} {dv sv v' : Value}
    (hrun : (Builtin.copy_ #[t1, t2] ty #[dv, sv]).run P w = .ok v' w') (hgd : o.guard = none) (d s : Operand) (hty : o.type = ty)
    (ho : o.op = .call { callee := .builtin .copy, args := #[d, s], argTypes := #[t1, t2] }) (hd : a.eval d = dv) (hs : a.eval s = sv)
    (h : K (a.put o.dst v') w') : if Region.wanted o (yielded ops a.tmps) = true then Oper.wp P o a w K Q else E := by
  have hw : Region.wanted o (yielded ops a.tmps) = true := by simp [Region.wanted, hgd]
  rw [if_pos hw]
  subst hty hd hs
  unfold Oper.wp
  simp [execOp, ho, resolve, invoke, builtin, hrun, Result.andThen]
  exact h
theorem u8_one (l : List UInt8) : ∀ v ∈ l.map u8, v.oneCell' = true := by
  intro v hv
  obtain ⟨x, _, rfl⟩ := List.mem_map.1 hv
  rfl
theorem run_copy_bytes {P : Program} {w : World} {g h : Nat} {l k : List UInt8} {T dT : TypeId} (hu : P.underlying dT = some (.slice T)) (hs : (P.info? T).map (·.size) = some 1)
    (hg : w.heap[g]? = some (.cells (u8s l) T (0, 0))) (hk : w.heap[h]? = some (.cells (u8s k) T (0, 0))) (hl : k.length = l.length) (ty : TypeId) :
    (Builtin.copy_ #[dT, dT] ty #[.slice (some ⟨g, 0, none⟩) l.length l.length, .slice (some ⟨h, 0, none⟩) k.length k.length]).run P w = .ok (goInt k.length) (w.setRow g (u8s k)) := by
  have hAt : At w ⟨h, 0, none⟩ (k.map u8) := by
    have := At_of_take (n := k.length) hk
    rwa [show (u8s k).toList.take k.length = k.map u8 from by simp [u8s, List.take_of_length_le]] at this
  have := run_copy_row (P := P) w dT dT ty T g 0 l.length l.length ⟨h, 0, none⟩ k.length k.length (u8s l) T (k.map u8) hu hs hg (by simp [hl]) hAt (by simp [size_u8s, hl]) (u8_one k)
  rw [this]
  have e : List.drop (0 + (k.map u8).length) (u8s l).toList = [] := List.drop_of_length_le (by simp [u8s, hl])
  rw [e, List.take_zero, List.nil_append, List.append_nil, List.length_map]
  rfl
end Go.SL
namespace Go.Proofs.Ytcgpegdnicnciaa
set_option linter.unusedVariables false
set_option linter.unusedSimpArgs false
open Go.RowKit Go.SL
def overA (S : Hp) (b : Nat) (v : Value) (gs : List (Nat × List UInt8)) (g : Nat) (B : List Bool) (D : CB) (w0 : World) : Assn :=
  batchA 54 5 S b (.iface 27 v) 0 [] D * (pool S * (rowsR v gs * (pt g (.cells (bools B) 4 (0, 0)) * whole w0)))
def Over1 (b : Nat) (v : Value) (gs : List (Nat × List UInt8)) (g : Nat) (w0 : World) (gk : Nat) (u : Value) (wr : World) : Prop :=
  ∃ (i : Nat) (S : Hp) (D : CB) (B : List Bool), i ≤ 20 ∧ 20 - i ≤ gk ∧ u = .int .i64 (i : Int) ∧ Told D B ∧ Sat wr (overA S b v gs g B D w0) ∧ Side w0 wr
def Over2 (S : Hp) (b : Nat) (v : Value) (gs : List (Nat × List UInt8)) (g : Nat) (B : List Bool) (D : CB) (w0 : World) (gk : Nat) (u : Value) (wr : World) : Prop :=
  ∃ k : Nat, k ≤ 8 ∧ 8 - k ≤ gk ∧ u = .int .i64 (k : Int) ∧ Sat wr (overA S b v (overN gs k) g B D w0) ∧ Side w0 wr
def overB (S : Hp) (f b : Nat) (v : Value) (gs : List (Nat × List UInt8)) (g : Nat) (B : List Bool) (E D : CB) (w0 : World) : Assn :=
  batchA 54 5 S f (.iface 27 v) 0 [] E * overA S b v gs g B D w0
def Over3 (f b : Nat) (v : Value) (gs : List (Nat × List UInt8)) (g : Nat) (B : List Bool) (w0 : World) (gk : Nat) (u : Value) (wr : World) : Prop :=
  ∃ (k : Nat) (S : Hp) (E D : CB), k ≤ 8 ∧ 8 - k ≤ gk ∧ u = .int .i64 (k : Int) ∧ Told2 E B ∧ Told2 D B ∧ Sat wr (overB S f b v (overN gs 8) g B E D w0) ∧ Side w0 wr
theorem over_old {S : Hp} {b : Nat} {v : Value} {gs : List (Nat × List UInt8)} {g : Nat} {B : List Bool} {D : CB} {w0 wr : World} (h : Sat wr (overA S b v gs g B D w0)) {a : Addr} {u : Value} (hc : w0.cell? a = some u) : wr.cell? a = some u :=
  (h.right.right.right.right.addEmp.to (star_comm _ _)).cellOld hc
/-- A row of rows, where it is. -/
theorem rowCell {w : World} {g0 n c : Nat} {gs : List (Nat × List UInt8)} {F : Assn} (h : Sat w (rowsR (.slice (some ⟨g0, 0, none⟩) n c) gs * F)) {i : Nat} {p : Nat × List UInt8} (hp : gs[i]? = some p) :
    w.cell? ⟨g0, i, none⟩ = some (.slice (some ⟨p.1, 0, none⟩) p.2.length p.2.length) := by
  have h' : Sat w (sl 31 1 (.slice (some ⟨g0, 0, none⟩) n c) gs.length (rowVals gs) * (rowsA 5 gs * F)) := h.to (star_assoc _ _ _)
  rcases h'.rds.2 with ⟨hv, _⟩ | ⟨a', c', hv, hat⟩
  · cases hv
  · cases hv
    have := hat i (.slice (some ⟨p.1, 0, none⟩) p.2.length p.2.length) (by simp [rowVals, hp])
    rwa [Addr.add_lit, Nat.zero_add] at this
theorem rows_480 {gs : List (Nat × List UInt8)} {n : Nat} (h : gs.map Prod.snd = rowBlks n) : ∀ p ∈ gs, p.2.length = 480 := by
  intro p hp
  have : p.2 ∈ rowBlks n := h ▸ List.mem_map_of_mem hp
  obtain ⟨i, _, e⟩ := List.mem_map.1 this
  rw [← e]; exact blk_len _
theorem over_small {gs : List (Nat × List UInt8)} {k : Nat} (h : ∀ p ∈ gs, p.2.length = 480) : allSmall (overN gs k) := by
  intro p hp
  rcases List.mem_append.1 hp with hp | hp
  · obtain ⟨q, _, rfl⟩ := List.mem_map.1 hp
    simp [small, blk_len]
  · have := h p (List.mem_of_mem_drop hp)
    simp [small, this]
theorem info_u8_1 : (Try.prog.info? 5).map (·.size) = some 1 := by kernel_rfl
def overRest (gs : List (Nat × List UInt8)) (k : Nat) : List (Nat × List UInt8) := (gs.take k).map (fun p => (p.1, blk 7)) ++ gs.drop (k + 1)
/-- One row of the rows is written over. -/
theorem over_step {w : World} {v : Value} {gs : List (Nat × List UInt8)} {k : Nat} {p : Nat × List UInt8} {X : Assn} (hp : gs[k]? = some p) (h480 : ∀ p ∈ gs, p.2.length = 480) (h : Sat w (rowsR v (overN gs k) * X)) :
    Sat w (pt p.1 (.cells (u8s p.2) 5 (0, 0)) * (sl 31 1 v gs.length (rowVals gs) * (rowsA 5 (overRest gs k) * X))) := by
  obtain ⟨hk, rfl⟩ := List.getElem?_eq_some_iff.1 hp
  unfold rowsR at h
  rw [overN_length, overN_vals gs k h480, (overN_split gs k hk).1, rowsA_mid] at h
  exact h.to (by unfold overRest; ac_rfl)
theorem over_back {w : World} {v : Value} {gs : List (Nat × List UInt8)} {k : Nat} {p : Nat × List UInt8} {X : Assn} (hp : gs[k]? = some p) (h480 : ∀ p ∈ gs, p.2.length = 480)
    (h : Sat w (pt p.1 (.cells (u8s (blk 7)) 5 (0, 0)) * (sl 31 1 v gs.length (rowVals gs) * (rowsA 5 (overRest gs k) * X)))) : Sat w (rowsR v (overN gs (k + 1)) * X) := by
  obtain ⟨hk, rfl⟩ := List.getElem?_eq_some_iff.1 hp
  unfold rowsR
  rw [overN_length, overN_vals gs (k + 1) h480, (overN_split gs k hk).2, rowsA_mid]
  exact h.to (by unfold overRest; ac_rfl)
theorem overN_at {gs : List (Nat × List UInt8)} {k : Nat} {p : Nat × List UInt8} (hp : gs[k]? = some p) : (overN gs k)[k]? = some p := by
  obtain ⟨hk, rfl⟩ := List.getElem?_eq_some_iff.1 hp
  have hl : ((gs.take k).map fun p => (p.1, blk 7)).length = k := by simp; omega
  rw [(overN_split gs k hk).1, List.getElem?_append_right (by omega), hl, Nat.sub_self]; rfl
theorem overN_next {gs : List (Nat × List UInt8)} {k : Nat} {p : Nat × List UInt8} (hp : gs[k]? = some p) : (overN gs (k + 1))[k]? = some (p.1, blk 7) := by
  obtain ⟨hk, rfl⟩ := List.getElem?_eq_some_iff.1 hp
  have hl : ((gs.take k).map fun p => (p.1, blk 7)).length = k := by simp; omega
  rw [(overN_split gs k hk).2, List.getElem?_append_right (by omega), hl, Nat.sub_self]; rfl
theorem rd_at {w : World} {g : Nat} {l : List UInt8} {F : Assn} (hl : l.length = 480) (h : Sat w (pt g (.cells (u8s l) 5 (0, 0)) * F)) : Rd w (.slice (some ⟨g, 0, none⟩) 480 480) l := by
  have := rd_row (c := 480) h.heap
  rwa [hl] at this
theorem over_nil {w : World} {S : Hp} {v : Value} {F : Assn} (h : Sat w (writesA 61 5 S v (asc []) * F)) : ∃ a c, v = .slice a 0 c := by
  obtain ⟨Z, _, _, h⟩ := h.writesOpen
  have e : (asc []).length = 0 := by simp only [asc, List.length_map, sorted_length, List.length_nil, List.map_nil]
  rw [e] at h
  exact sl_shape h
theorem over_copy {w : World} {g0 c0 gA : Nat} {gs : List (Nat × List UInt8)} {k : Nat} {p : Nat × List UInt8} {X : Assn} (hp : gs[k]? = some p) (h480 : ∀ p ∈ gs, p.2.length = 480) (hq : p.2.length = 480)
    (h : Sat w (pt gA (.cells (u8s (blk 7)) 5 (0, 0)) * (pt p.1 (.cells (u8s p.2) 5 (0, 0)) * (sl 31 1 (.slice (some ⟨g0, 0, none⟩) 8 c0) gs.length (rowVals gs) * (rowsA 5 (overRest gs k) * X))))) :
    ∃ w' v', (Builtin.copy_ #[31, 31] 3 #[.slice (some ⟨p.1, 0, none⟩) 480 480, .slice (some ⟨gA, 0, none⟩) 480 480]).run Try.prog w = .ok v' w' ∧
      Sat w' (rowsR (.slice (some ⟨g0, 0, none⟩) 8 c0) (overN gs (k + 1)) * X) ∧ Side w w' ∧ w'.cell? ⟨g0, k, none⟩ = some (.slice (some ⟨p.1, 0, none⟩) 480 480) := by
  have hr := run_copy_bytes (P := Try.prog) (l := p.2) (k := blk 7) (dT := 31) Try.underlying31 info_u8_1 h.front2.heap h.heap (by rw [blk_len, hq]) 3
  rw [hq, blk_len] at hr
  have h2 := h.front2.setRow (cs' := u8s (blk 7))
  have h3 := over_back hp h480 h2.drop2
  refine ⟨_, _, hr, h3, (Side.refl w).setRow _ _, ?_⟩
  have := rowCell h3 (overN_next hp)
  rwa [blk_len] at this
set_option maxRecDepth 100000 in
set_option maxHeartbeats 4000000 in
theorem over_any (a0 : Option Addr) (len cap : Nat) (zs : List Int) (w : World) (hz : IsInts w a0 len cap zs) :
    Calls Try.prog 6 #[.slice a0 len cap] w (ShownQ w) := by
  have hlen : len ≤ 9223372036854775807 := hz.len_le
  have Hz := SL.hid hz; clear hz
  go_enter Try.func6, Try.ntmps6
  go_wp2_with fail
  refine (shown_any w).mono ?_
  rintro e w1 ⟨rfl, h1, d1⟩
  go_wp2_with fail
  refine (rows_any 8 (by omega) _ w1 h1).mono ?_
  rintro e w2 ⟨v, gs, rfl, hgs, h2, d2⟩
  have hl := rows_length hgs
  have hs := rows_small hgs
  have h480 := rows_480 hgs
  have H2 : Sat w2 (rowsR v gs * whole w) := by
    unfold rowsR; rw [hl]; exact h2.to (star_assoc _ _ _).symm
  obtain ⟨g0, c0, rfl⟩ : ∃ g0 c0, v = .slice (some ⟨g0, 0, none⟩) 8 c0 := by
    rcases h2.slCases with ⟨_, h0, _⟩ | ⟨g, cap, cur, rfl, _⟩
    · omega
    · exact ⟨_, _, rfl⟩
  have Hgs := SL.hid hgs; have Hl := SL.hid hl; have H480 := SL.hid h480; clear hgs hl h480 h2 h1
  go_wp2_with fail
  refine (new_any _ _ _).mono ?_
  rintro e w3 ⟨b, rfl, h3, d3⟩
  have H3 : Sat w3 (batchA 54 5 NoBlocks b (.iface 27 (.slice (some ⟨g0, 0, none⟩) 8 c0)) 0 [] [] * (pool NoBlocks * (rowsR (.slice (some ⟨g0, 0, none⟩) 8 c0) gs * whole w))) := (h3 NoBlocks).under H2.poolEmp
  clear h3 H2
  have hmk := make_bools8
  go_wp2_with fail
  have H4 := H3.alloc (.cells (bools eight) 4 (0, 0))
  have d4 := (((d1.trans d2).trans d3).alloc (.cells (bools eight) 4 (0, 0)))
  generalize w3.alloc (.cells (bools eight) 4 (0, 0)) = w4 at H4 d4 ⊢
  generalize w3.heap.size = g at H4 ⊢
  clear H3 d1 d2 d3 hmk
  go_loopg [7] 20 (fun gk u wr => Over1 b (.slice (some ⟨g0, 0, none⟩) 8 c0) gs g w gk u wr)
  case atStart => exact ⟨0, NoBlocks, [], eight, by omega, by omega, rfl, told0, H4.back4, d4⟩
  case round =>
    clear H4 d4
    obtain ⟨i, S, D, B, hi, hgk, rfl, htold, hsat, hside⟩ := hrel
    by_cases hgo : i < len ∧ i < 20
    · obtain ⟨hil, h20⟩ := hgo
      have hil' : (i : Int) < (len : Int) := by omega
      have h20' : (i : Int) < 20 := by omega
      obtain ⟨bb, off, rfl, hcz, hlc, hcap⟩ := Hz.out.cell hil
      have hcz' := over_old hsat hcz
      clear hcz
      generalize zs.getD i 0 = z at hcz'
      have hand := and16 z
      have hm0 : 0 ≤ z % 65536 := by omega
      obtain ⟨a, ha⟩ := Int.eq_ofNat_of_zero_le (show 0 ≤ z % 65536 % 8 by omega)
      have ha8 : a < 8 := by omega
      have ha8' : (a : Int) < 8 := by omega
      have hpt : Sat wr (pt g (.cells (bools B) 4 (0, 0)) * (batchA 54 5 S b (.iface 27 (.slice (some ⟨g0, 0, none⟩) 8 c0)) 0 [] D * (pool S * (rowsR (.slice (some ⟨g0, 0, none⟩) 8 c0) gs * whole w)))) := Sat.front4 hsat
      have cr := read_rows wr S b (.slice (some ⟨g0, 0, none⟩) 8 c0) gs 0 _ _ (a : Int) _ hs (by rw [Hl.out]; decide) hsat
      rw [htold.ans Hgs.out ha8] at cr
      have Htold := SL.hid htold; have Ha := SL.hid ha
      have hBl := htold.1
      have HBl := SL.hid hBl
      clear htold hpt hsat hBl
      have ha1 : (a : Int) ≤ 7 := by omega
      have ha0 : 0 ≤ (a : Int) := by omega
      go_wp2_with fail
      try rw [Ha.out]
      refine cr.mono ?_
      rintro e w5 ⟨S5, x, E5, rfl, h5, d5⟩
      clear cr hcz' hand hm0
      obtain ⟨BIG, hBIG⟩ : ∃ X, X = (bs 5 x (blk (1000 + (a : Int))) * (overA S5 b (.slice (some ⟨g0, 0, none⟩) 8 c0) gs g B (rdD 0 [] D gs (a : Int)) w)) := ⟨_, rfl⟩
      have H5 : Sat w5 BIG := hBIG ▸ h5.ansYes
      have HB : Hid (∀ w', Sat w' BIG → Sat w' (bs 5 x (blk (1000 + (a : Int))) * (overA S5 b (.slice (some ⟨g0, 0, none⟩) 8 c0) gs g B (rdD 0 [] D gs (a : Int)) w))) := fun w' h => hBIG ▸ h
      have cx : ∀ w', Sat w' BIG → (convert 31 9 x).run Try.prog w' = .ok (.string (str (blk (1000 + (a : Int))))) w' := fun w' h => run_text w' x _ (HB.out w' h).bsRd
      have hb0 : ((0 : Int) != 0) = false := by decide
      have hsum : IntKind.i64.wrap (1000 + (a : Int)) = 1000 + (a : Int) := by rw [IntKind.wrap_i64]; omega
      clear hBIG h5 ha
      go_wp2_with fail
      go_region_held (fun w' => Sat w' BIG) (first | assumption | exact H5.drew)
        (first
          | (go_at_call 11; (with_reducible refine (block_c (1000 + (a : Int)) _).mono ?_); rintro e wA ⟨gA, rfl, hA, dA⟩; have hA' := hA.under (Q := BIG) (by assumption); have kA := run_text wA _ _ (rd_blk hA'); have HBA := hA'.right))
      clear cx kA
      have H6 := (HB.out _ HBA).right
      have H7 : Sat wA (pt g (.cells (bools B) 4 (0, 0)) * (batchA 54 5 S5 b (.iface 27 (.slice (some ⟨g0, 0, none⟩) 8 c0)) 0 [] (rdD 0 [] D gs (a : Int)) * (pool S5 * (rowsR (.slice (some ⟨g0, 0, none⟩) 8 c0) gs * whole w)))) := Sat.front4 H6
      have hca : wA.cell? ⟨g, a, none⟩ = some (.bool (B.getD a false)) := (H7.cell a).trans (by rw [get_bools, List.getD, List.getElem?_eq_getElem (by rw [HBl.out]; exact ha8)]; rfl)
      have hfa := H7.frozen a
      generalize B.getD a false = q at hca
      have H8 := (H7.setCell a (.bool true)).back4
      rw [set_bools] at H8
      clear H5 H6 H7
      go_wp2
      go_roundg (gk - 1)
      case measure => omega
      case rel => exact ⟨i + 1, S5, _, _, by omega, by omega, by go_num, Htold.out.read Hgs.out ha8, H8, ((hside.trans d5).drew.trans dA).setCell _ _⟩
    · have Hgo := SL.hid hgo
      have hsplit : ((i : Int) < (len : Int) ∧ ¬ (i : Int) < 20) ∨ ¬ (i : Int) < (len : Int) := by omega
      have hl8 := Hl.out
      clear hgo
      have Hbl : Hid (B.length = 8) := htold.1
      have Htold := SL.hid htold
      clear htold
      rcases hsplit with ⟨hil', h20'⟩ | hil'
      all_goals
        go_wp2
        go_loopg [11] 8 (fun gk u wr => Over2 S b (.slice (some ⟨g0, 0, none⟩) 8 c0) gs g B D w gk u wr)
        case atStart => exact ⟨0, by omega, by omega, rfl, by rw [overN_zero]; exact hsat, hside⟩
        case round =>
          clear hsat hside
          obtain ⟨k, hk, hgk2, rfl, hsat, hside⟩ := hrel
          by_cases hk8 : k < 8
          · have hk8' : (k : Int) < 8 := by omega
            have hkg : k < gs.length := by omega
            obtain ⟨p, hp⟩ : ∃ p, gs[k]? = some p := ⟨_, List.getElem?_eq_getElem hkg⟩
            have hp480 : p.2.length = 480 := H480.out _ (List.mem_of_getElem? hp)
            have hrow := Sat.front3 hsat
            have hc : wr.cell? ⟨g0, k, none⟩ = some (.slice (some ⟨p.1, 0, none⟩) 480 480) := by
              have := rowCell hrow (overN_at hp)
              rwa [hp480] at this
            have hst := over_step hp H480.out hrow
            have Hst := SL.hid hst; have Hp := SL.hid hp; have Hq := SL.hid hp480
            clear hst hrow hp480 hsat hkg hp
            go_wp2_with fail
            go_region_held3 (fun w' => w'.cell? ⟨g0, k, none⟩ = some (.slice (some ⟨p.1, 0, none⟩) 480 480)) (first | assumption | exact hc) (first
              | (go_at_call 11; (with_reducible refine (block_c 7 _).mono ?_); rintro e wA ⟨gA, rfl, hA, dA⟩; have cA : wA.cell? ⟨g0, k, none⟩ = some (.slice (some ⟨p.1, 0, none⟩) 480 480) := hA.cellOld (W := wr.drew) hc; obtain ⟨wC, vC, hrunC, hC, dC, sC⟩ := over_copy Hp.out H480.out Hq.out (hA.under (W := wr.drew) Hst.out))
              | (refine step_copy_run hrunC rfl _ _ rfl rfl (by rfl) (by rfl) ?_))
            go_wp2
            go_roundg (gk - 1)
            case measure => omega
            case rel => exact ⟨k + 1, by omega, by omega, by go_num, Sat.back3 hC, ((hside.drew).trans dA).trans dC⟩
          · obtain rfl : k = 8 := by omega
            go_wp2_with fail
            refine (fork_m (F := fun _ => rowsR (.slice (some ⟨g0, 0, none⟩) 8 c0) (overN gs 8)) (G := pt g (.cells (bools B) 4 (0, 0)) * whole w) (Mono.const _) ⟨_, _, rfl⟩ hsat).mono ?_
            rintro e w6 ⟨S6, f, rfl, H6, d6⟩
            have hside6 := hside.trans d6
            clear hsat hside d6
            go_wp2_with fail
            go_loopg [13] 8 (fun gk u wr => Over3 f b (.slice (some ⟨g0, 0, none⟩) 8 c0) gs g B w gk u wr)
            case atStart => exact ⟨0, S6, D, D, by omega, by omega, rfl, Htold.out.two, Htold.out.two, H6, hside6⟩
            case round =>
              clear H6 hside6
              obtain ⟨k, S7, E7, D7, hk, hgk3, rfl, hE, hD, hsat3, hside3⟩ := hrel
              by_cases hk8 : k < 8
              · have hk8' : (k : Int) < 8 := by omega
                have hL : (overN gs 8).length ≤ 1000 := by rw [overN_length]; omega
                have hsm : allSmall (overN gs 8) := over_small H480.out
                go_wp2_with fail
                refine (block_c 7 wr).mono ?_
                rintro e w7 ⟨g7, rfl, h7, d7⟩
                have H7 := h7.under hsat3
                have hside7 := hside3.trans d7
                have hseen : w7.cell? ⟨g, k, none⟩ = some (.bool (B.getD k false)) := ((H7.right.front5).cell k).trans (by rw [get_bools, List.getD, List.getElem?_eq_getElem (by rw [Hbl.out]; exact hk8)]; rfl)
                clear hsat3 hside3 h7 d7
                obtain ⟨q, hq⟩ : ∃ q, q = B.getD k false := ⟨_, rfl⟩
                rw [← hq] at hseen
                have Hqq := SL.hid hq
                clear hq
                have hsum : IntKind.i64.wrap (1000 + (k : Int)) = 1000 + (k : Int) := by rw [IntKind.wrap_i64]; omega
                cases q
                · obtain ⟨gw, hgw⟩ : ∃ x, x = g7 := ⟨_, rfl⟩
                  obtain ⟨ww, hww⟩ : ∃ x, x = w7 := ⟨_, rfl⟩
                  have HW : Sat ww (pt gw (.cells (u8s (wantOf B k)) 5 (0, 0)) * overB S7 f b (.slice (some ⟨g0, 0, none⟩) 8 c0) (overN gs 8) g B E7 D7 w) := by
                    rw [hgw, hww, wantOf, if_neg (by rw [← Hqq.out]; simp)]; exact H7
                  have hsideW : Side w ww := hww ▸ hside7
                  clear H7 hside7
                  go_wp2_with fail
                  rw [← hww, ← hgw]
                  clear hww hgw hseen hsum
                  have hwl : (wantOf B k).length = 480 := by unfold wantOf; split <;> exact blk_len _
                  have cf := read_rows ww S7 f (.slice (some ⟨g0, 0, none⟩) 8 c0) (overN gs 8) 0 _ _ (k : Int) _ hsm hL (HW.to (by unfold overB overA; ac_rfl : _ = batchA 54 5 S7 f (.iface 27 (.slice (some ⟨g0, 0, none⟩) 8 c0)) 0 [] E7 * (pool S7 * (rowsR (.slice (some ⟨g0, 0, none⟩) 8 c0) (overN gs 8) * (batchA 54 5 S7 b (.iface 27 (.slice (some ⟨g0, 0, none⟩) 8 c0)) 0 [] D7 * (pt gw (.cells (u8s (wantOf B k)) 5 (0, 0)) * (pt g (.cells (bools B) 4 (0, 0)) * whole w)))))))
                  rw [hE.ans Hl.out hk8] at cf
                  refine cf.mono ?_
                  rintro e w9 ⟨S9, x, X9, rfl, h9, d9⟩
                  have H9 := (h9.ansYes)
                  have H9b : Sat w9 (batchA 54 5 S9 b (.iface 27 (.slice (some ⟨g0, 0, none⟩) 8 c0)) 0 [] D7 * (pool S9 * (rowsR (.slice (some ⟨g0, 0, none⟩) 8 c0) (overN gs 8) * (batchA 54 5 S9 f (.iface 27 (.slice (some ⟨g0, 0, none⟩) 8 c0)) 0 [] (rdD 0 [] E7 (overN gs 8) (k : Int)) * (bs 5 x (wantOf B k) * (pt gw (.cells (u8s (wantOf B k)) 5 (0, 0)) * (pt g (.cells (bools B) 4 (0, 0)) * whole w))))))) := by
                    refine Sat.weak (P := batchA 54 5 S7 b (.iface 27 (.slice (some ⟨g0, 0, none⟩) 8 c0)) 0 [] D7) (H9.to ?_) (batchA_mono X9)
                    ac_rfl
                  clear cf HW H9 h9
                  go_wp2_with fail
                  have cb := read_rows w9 S9 b (.slice (some ⟨g0, 0, none⟩) 8 c0) (overN gs 8) 0 _ _ (k : Int) _ hsm hL H9b
                  rw [hD.ans Hl.out hk8] at cb
                  refine cb.mono ?_
                  rintro e w10 ⟨S10, y, X10, rfl, h10, d10⟩
                  have H10 := (h10.ansYes)
                  have H10b : Sat w10 (batchA 54 5 S10 f (.iface 27 (.slice (some ⟨g0, 0, none⟩) 8 c0)) 0 [] (rdD 0 [] E7 (overN gs 8) (k : Int)) * (batchA 54 5 S10 b (.iface 27 (.slice (some ⟨g0, 0, none⟩) 8 c0)) 0 [] (rdD 0 [] D7 (overN gs 8) (k : Int)) * (pool S10 * (rowsR (.slice (some ⟨g0, 0, none⟩) 8 c0) (overN gs 8) * (bs 5 y (wantOf B k) * (bs 5 x (wantOf B k) * (pt gw (.cells (u8s (wantOf B k)) 5 (0, 0)) * (pt g (.cells (bools B) 4 (0, 0)) * whole w)))))))) := by
                    refine Sat.weak (P := batchA 54 5 S9 f (.iface 27 (.slice (some ⟨g0, 0, none⟩) 8 c0)) 0 [] (rdD 0 [] E7 (overN gs 8) (k : Int))) (H10.to ?_) (batchA_mono X10)
                    ac_rfl
                  have kx := run_text w10 x _ (H10b.front6.bsRd)
                  have ky := run_text w10 y _ (H10b.front5.bsRd)
                  have kw := run_text w10 _ _ (rd_at hwl H10b.front7)
                  have hE2 := hE.read Hl.out hk8
                  have hD2 := hD.read Hl.out hk8
                  have HE2 := SL.hid hE2; have HD2 := SL.hid hD2
                  clear cb H9b H10 h10 hE hD hE2 hD2 hsm hwl
                  go_wp2
                  go_roundg (gk - 1)
                  case measure => omega
                  case rel => exact ⟨k + 1, S10, _, _, by omega, by omega, by go_num, HE2.out, HD2.out, (H10b.drop7.drop6.drop5).to (by unfold overB overA; ac_rfl), (hsideW.trans d9).trans d10⟩
                · go_wp2_with fail
                  refine (block_c (1000 + (k : Int)) w7).mono ?_
                  rintro e ww ⟨gw, rfl, h8, d8⟩
                  have HW : Sat ww (pt gw (.cells (u8s (wantOf B k)) 5 (0, 0)) * overB S7 f b (.slice (some ⟨g0, 0, none⟩) 8 c0) (overN gs 8) g B E7 D7 w) := by
                    have := (h8.under H7).drop2
                    rwa [wantOf, if_pos (by rw [← Hqq.out])]
                  have hsideW : Side w ww := hside7.trans d8
                  clear H7 hside7 h8 d8 hseen hsum
                  go_wp2_with fail
                  have hwl : (wantOf B k).length = 480 := by unfold wantOf; split <;> exact blk_len _
                  have cf := read_rows ww S7 f (.slice (some ⟨g0, 0, none⟩) 8 c0) (overN gs 8) 0 _ _ (k : Int) _ hsm hL (HW.to (by unfold overB overA; ac_rfl : _ = batchA 54 5 S7 f (.iface 27 (.slice (some ⟨g0, 0, none⟩) 8 c0)) 0 [] E7 * (pool S7 * (rowsR (.slice (some ⟨g0, 0, none⟩) 8 c0) (overN gs 8) * (batchA 54 5 S7 b (.iface 27 (.slice (some ⟨g0, 0, none⟩) 8 c0)) 0 [] D7 * (pt gw (.cells (u8s (wantOf B k)) 5 (0, 0)) * (pt g (.cells (bools B) 4 (0, 0)) * whole w)))))))
                  rw [hE.ans Hl.out hk8] at cf
                  refine cf.mono ?_
                  rintro e w9 ⟨S9, x, X9, rfl, h9, d9⟩
                  have H9 := (h9.ansYes)
                  have H9b : Sat w9 (batchA 54 5 S9 b (.iface 27 (.slice (some ⟨g0, 0, none⟩) 8 c0)) 0 [] D7 * (pool S9 * (rowsR (.slice (some ⟨g0, 0, none⟩) 8 c0) (overN gs 8) * (batchA 54 5 S9 f (.iface 27 (.slice (some ⟨g0, 0, none⟩) 8 c0)) 0 [] (rdD 0 [] E7 (overN gs 8) (k : Int)) * (bs 5 x (wantOf B k) * (pt gw (.cells (u8s (wantOf B k)) 5 (0, 0)) * (pt g (.cells (bools B) 4 (0, 0)) * whole w))))))) := by
                    refine Sat.weak (P := batchA 54 5 S7 b (.iface 27 (.slice (some ⟨g0, 0, none⟩) 8 c0)) 0 [] D7) (H9.to ?_) (batchA_mono X9)
                    ac_rfl
                  clear cf HW H9 h9
                  go_wp2_with fail
                  have cb := read_rows w9 S9 b (.slice (some ⟨g0, 0, none⟩) 8 c0) (overN gs 8) 0 _ _ (k : Int) _ hsm hL H9b
                  rw [hD.ans Hl.out hk8] at cb
                  refine cb.mono ?_
                  rintro e w10 ⟨S10, y, X10, rfl, h10, d10⟩
                  have H10 := (h10.ansYes)
                  have H10b : Sat w10 (batchA 54 5 S10 f (.iface 27 (.slice (some ⟨g0, 0, none⟩) 8 c0)) 0 [] (rdD 0 [] E7 (overN gs 8) (k : Int)) * (batchA 54 5 S10 b (.iface 27 (.slice (some ⟨g0, 0, none⟩) 8 c0)) 0 [] (rdD 0 [] D7 (overN gs 8) (k : Int)) * (pool S10 * (rowsR (.slice (some ⟨g0, 0, none⟩) 8 c0) (overN gs 8) * (bs 5 y (wantOf B k) * (bs 5 x (wantOf B k) * (pt gw (.cells (u8s (wantOf B k)) 5 (0, 0)) * (pt g (.cells (bools B) 4 (0, 0)) * whole w)))))))) := by
                    refine Sat.weak (P := batchA 54 5 S9 f (.iface 27 (.slice (some ⟨g0, 0, none⟩) 8 c0)) 0 [] (rdD 0 [] E7 (overN gs 8) (k : Int))) (H10.to ?_) (batchA_mono X10)
                    ac_rfl
                  have kx := run_text w10 x _ (H10b.front6.bsRd)
                  have ky := run_text w10 y _ (H10b.front5.bsRd)
                  have kw := run_text w10 _ _ (rd_at hwl H10b.front7)
                  have hE2 := hE.read Hl.out hk8
                  have hD2 := hD.read Hl.out hk8
                  have HE2 := SL.hid hE2; have HD2 := SL.hid hD2
                  clear cb H9b H10 h10 hE hD hE2 hD2 hsm hwl
                  go_wp2
                  go_roundg (gk - 1)
                  case measure => omega
                  case rel => exact ⟨k + 1, S10, _, _, by omega, by omega, by go_num, HE2.out, HD2.out, (H10b.drop7.drop6.drop5).to (by unfold overB overA; ac_rfl), (hsideW.trans d9).trans d10⟩
              · obtain rfl : k = 8 := by omega
                have H := (Sat.front2 hsat3).front3.front2
                have cl := len_any wr S7 b _ 0 _ _ _ H
                have ci := list_any wr S7 b _ 0 _ _ _ (by simp) H
                rw [List.length_nil] at cl
                clear hsat3 H
                go_wp2_with (first
                  | (go_at_call 12; (with_reducible refine cl.mono ?_); rintro e wL ⟨rfl, rfl⟩)
                  | (go_at_call 18; (with_reducible refine ci.mono ?_); rintro e wM ⟨SM, lv, EM, rfl, hM, dM⟩; obtain ⟨la, lc, rfl⟩ := over_nil hM))
                go_ret
                exact ⟨rfl, hM.right.right.right.right.right.right, hside3.trans dM⟩
theorem over_walk (a0 : Option Addr) (len cap : Nat) (zs : List Int) (w : World) (hz : IsInts w a0 len cap zs) :
    Calls Try.prog 6 #[.slice a0 len cap] w fun e w' => e = .returned (.bool true) ∧ Below w.heap.size w w' :=
  (over_any a0 len cap zs w hz).mono fun _ _ h => shown_below h
end Go.Proofs.Ytcgpegdnicnciaa

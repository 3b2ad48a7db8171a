/- BatchLast: the walk. -/
import Derived.Test.YtcgpegdnicnciaaL2
namespace Go.Proofs.Ytcgpegdnicnciaa
set_option linter.unusedVariables false
set_option linter.unusedSimpArgs false
open Go.RowKit Go.SL
/-- What is held while BatchLast goes. -/
def lastA (S : Hp) (b : Nat) (v : Value) (gs : List (Nat × List UInt8)) (g : Nat) (W D : CB) (L : List Int) (w0 : World) : Assn :=
  batchA 54 5 S b (.iface 27 v) 0 W D * (pool S * (rowsR v gs * (pt g (.cells (i64s L) 3 (0, 0)) * whole w0)))
def LastFill (g : Nat) (F : Assn) (w0 : World) (gk : Nat) (u6 : Value) (wr : World) : Prop :=
  ∃ k : Nat, k ≤ 6 ∧ 6 - k ≤ gk ∧ u6 = .int .i64 (k : Int) ∧ Sat wr (pt g (.cells (i64s (fill k)) 3 (0, 0)) * F) ∧ Side w0 wr
def LastIn (b : Nat) (v : Value) (gs : List (Nat × List UInt8)) (g : Nat) (W : CB) (L : List Int) (w0 : World) (gk : Nat) (u10 : Value) (wr : World) : Prop :=
  ∃ (k : Nat) (S : Hp) (D : CB), k ≤ 6 ∧ 6 - k ≤ gk ∧ u10 = .int .i64 (k : Int) ∧ LastInv W D L ∧ Sat wr (lastA S b v gs g W D L w0) ∧ Side w0 wr
def LastOut (b : Nat) (v : Value) (gs : List (Nat × List UInt8)) (g : Nat) (w0 : World) (gk : Nat) (u7 u8 : Value) (wr : World) : Prop :=
  ∃ (i : Nat) (S : Hp) (W D : CB) (L : List Int), i ≤ 50 ∧ 50 - i ≤ gk ∧ W.length ≤ i ∧ u8 = .int .i64 (i : Int) ∧ u7 = .int .i64 (W.length : Int) ∧ LastInv W D L ∧ Sat wr (lastA S b v gs g W D L w0) ∧ Side w0 wr
theorem last_old {S : Hp} {b : Nat} {v : Value} {gs : List (Nat × List UInt8)} {g : Nat} {W D : CB} {L : List Int} {w0 wr : World} (h : Sat wr (lastA S b v gs g W D L w0)) {a : Addr} {u : Value} (hc : w0.cell? a = some u) : wr.cell? a = some u :=
  (h.right.right.right.right.addEmp.to (star_comm _ _)).cellOld hc
theorem make_ints6 (w : World) : (Instr.makeSlice 22 (.int .i64 6) (.int .i64 6)).run Try.prog w = .ok (.slice (some ⟨w.heap.size, 0, none⟩) 6 6) (w.alloc (.cells (i64s (fill 0)) 3 (0, 0))) := by kernel_rfl
set_option maxRecDepth 100000 in
set_option maxHeartbeats 4000000 in
theorem last_any (a0 : Option Addr) (len cap : Nat) (zs : List Int) (w : World) (hz : IsInts w a0 len cap zs) :
    Calls Try.prog 3 #[.slice a0 len cap] w (ShownQ w) := by
  have hlen : len ≤ 9223372036854775807 := hz.len_le
  have Hz := SL.hid hz; clear hz
  go_enter Try.func3, Try.ntmps3
  go_wp2_with fail
  refine (shown_any w).mono ?_
  rintro e w1 ⟨rfl, h1, d1⟩
  go_wp2_with fail
  refine (rows_any 6 (by omega) _ w1 h1).mono ?_
  rintro e w2 ⟨v, gs, rfl, hgs, h2, d2⟩
  have hl := rows_length hgs
  have hs := rows_small hgs
  have H2 : Sat w2 (rowsR v gs * whole w) := by
    unfold rowsR; rw [hl]; exact h2.to (star_assoc _ _ _).symm
  have Hgs := SL.hid hgs; have Hl := SL.hid hl; clear hgs hl h2 h1
  go_wp2_with fail
  refine (new_any _ _ _).mono ?_
  rintro e w3 ⟨b, rfl, h3, d3⟩
  have H3 : Sat w3 (batchA 54 5 NoBlocks b (.iface 27 v) 0 [] [] * (pool NoBlocks * (rowsR v gs * whole w))) := (h3 NoBlocks).under H2.poolEmp
  clear h3 H2
  have hmk := make_ints6
  go_wp2_with fail
  have H4 := H3.alloc (.cells (i64s (fill 0)) 3 (0, 0))
  have d4 := (((d1.trans d2).trans d3).alloc (.cells (i64s (fill 0)) 3 (0, 0)))
  generalize w3.alloc (.cells (i64s (fill 0)) 3 (0, 0)) = w4 at H4 d4 ⊢
  generalize w3.heap.size = g at H4 ⊢
  clear H3 d1 d2 d3 hmk
  go_loopg [6] 6 (fun gk u6 wr => LastFill g (batchA 54 5 NoBlocks b (.iface 27 v) 0 [] [] * (pool NoBlocks * (rowsR v gs * whole w))) w gk u6 wr)
  case atStart => exact ⟨0, by omega, by omega, rfl, H4, d4⟩
  case round =>
    obtain ⟨k, hk, hgk, rfl, hsat, hside⟩ := hrel
    by_cases hlt : k < 6
    · have hc : wr.cell? ⟨g, k, none⟩ = some (.int .i64 ((fill k)[k]'(by rw [fill_len]; exact hlt))) := (hsat.cell k).trans (by rw [get_i64s, List.getElem?_eq_getElem (by rw [fill_len]; exact hlt)]; rfl)
      have hf := hsat.frozen k
      have hlt' : (k : Int) < 6 := by omega
      generalize (fill k)[k]'(by rw [fill_len]; exact hlt) = z at hc
      go_wp2
      go_roundg (gk - 1)
      case measure => omega
      case rel =>
        refine ⟨k + 1, by omega, by omega, by go_num, ?_, hside.setCell _ _⟩
        have := hsat.setCell k (.int .i64 (1000 + (k : Int)))
        rwa [set_i64s, fill_set] at this
    · obtain rfl : k = 6 := by omega
      clear hlt
      go_wp2
      go_loopg [7, 8] 50 (fun gk u7 u8 wr => LastOut b v gs g w gk u7 u8 wr)
      case atStart =>
        refine ⟨0, NoBlocks, [], [], fill 6, by omega, by omega, by simp, rfl, rfl, ⟨fill_len 6, fun k hk => .inr ⟨rfl, ?_⟩, fun _ _ => .inl rfl⟩, hsat.back4, hside⟩
        simp [fill, hk]
      case round =>
        clear hsat hside
        obtain ⟨gko, rfl⟩ : ∃ n, n = gk := ⟨gk, rfl⟩
        obtain ⟨i, S, W, D, L, hi, hgk, hWi, rfl, rfl, hinv, hsat, hside⟩ := hrel
        by_cases hil : i < len
        · have hil' : (i : Int) < (len : Int) := by omega
          by_cases h50 : i < 50
          · have h50' : (i : Int) < 50 := by omega
            obtain ⟨bb, off, rfl, hcz, hlc, hcap⟩ := Hz.out.cell hil
            have hcz' := last_old hsat hcz
            clear hcz
            generalize zs.getD i 0 = z at hcz'
            have hand := and16 z
            have hm0 : 0 ≤ z % 65536 := by omega
            obtain ⟨a, ha⟩ := Int.eq_ofNat_of_zero_le (show 0 ≤ z % 65536 % 6 by omega)
            have ha6 : a < 6 := by omega
            have ha6' : (a : Int) < 6 := by omega
            have ha0 : 0 ≤ (a : Int) := Int.natCast_nonneg a
            have hLa : L[a]? = some (L.getD a 0) := by rw [List.getD, List.getElem?_eq_getElem (by rw [hinv.1]; exact ha6)]; rfl
            have hpt : Sat wr (pt g (.cells (i64s L) 3 (0, 0)) * (batchA 54 5 S b (.iface 27 v) 0 W D * (pool S * (rowsR v gs * whole w)))) := Sat.front4 hsat
            have hca : wr.cell? ⟨g, a, none⟩ = some (.int .i64 (L.getD a 0)) := (hpt.cell a).trans (by rw [get_i64s, hLa]; rfl)
            have hfa := hpt.frozen a
            have hlen' := hinv.len ha6 (blk (i : Int))
            have hwr := hinv.wrote ha6 (i := (i : Int)) (by omega) (by omega)
            have H5 := (hpt.setCell a (.int .i64 (i : Int))).back4
            rw [set_i64s] at H5
            have Hinv := SL.hid hinv; have Hlen := SL.hid hlen'; have Hwr := SL.hid hwr
            clear hinv hlen' hwr hLa hpt hsat
            generalize L.getD a 0 = q at hca Hlen
            have hW64 : (W.length : Int) ≤ 50 := by omega
            by_cases hge : 1000 ≤ q
            · skip
              go_wp2_with fail
              refine (block_c (i : Int) _).mono ?_
              rintro e w5 ⟨g5, rfl, hb5, d5⟩
              have r5 := rd_blk hb5
              have H6 := (hb5.under H5).right
              have D5 := (hside.setCell ⟨g, a, none⟩ (.int .i64 (i : Int))).trans d5
              have Ha := SL.hid ha
              clear hb5 H5 hca hfa hcz' hand hm0 ha d5 hside
              go_wp2_with fail
              try rw [Ha.out]
              refine (write_any w5 S b _ 0 _ _ (a : Int) _ (blk (i : Int)) _ H6 r5).mono ?_
              rintro e w6 ⟨S6, E6, rfl, H7, d6⟩
              rw [wW_yes ha0] at H7
              rw [show writeR 0 (a : Int) (blk (i : Int)) = 0 from wR_yes ha0]
              clear H6 r5
              have cl := len_any w6 S6 b _ 0 _ _ _ H7
              have hL2 : ((SL.upd W (a : Int) (blk (i : Int))).length : Int) = (W.length : Int) + 1 := by rw [Hlen.out, if_pos hge]; rfl
              have HL2 := SL.hid hL2
              rw [hL2] at cl
              clear hL2
              go_wp2_with fail
              refine cl.mono ?_
              rintro e w7 ⟨rfl, rfl⟩
              clear cl
              have D7 := D5.trans d6
              clear D5 d6
              go_wp2_with fail
              go_loopg [10] 6 (fun gk u10 wr => LastIn b v gs g (SL.upd W (a : Int) (blk (i : Int))) (L.set a (i : Int)) w gk u10 wr)
              case atStart => exact ⟨0, S6, D, by omega, by omega, rfl, Hwr.out, H7, D7⟩
              case round =>
                clear H7 D7
                obtain ⟨k, S8, D8, hk, hgk8, rfl, hinv8, hsat8, hside8⟩ := hrel
                by_cases hk6 : k < 6
                · have hk6' : (k : Int) < 6 := by omega
                  have cr := read_rows wr S8 b v gs 0 _ _ (k : Int) _ hs (by rw [Hl.out]; decide) hsat8
                  rw [hinv8.ans Hgs.out hk6] at cr
                  have hinv9 := hinv8.told Hgs.out hk6
                  have hLk : (L.set a (i : Int))[k]? = some ((L.set a (i : Int)).getD k 0) := by rw [List.getD, List.getElem?_eq_getElem (by rw [hinv8.1]; exact hk6)]; rfl
                  have Hinv9 := SL.hid hinv9; have HLk := SL.hid hLk
                  clear hinv8 hinv9 hLk hsat8
                  generalize (L.set a (i : Int)).getD k 0 = q2 at cr HLk
                  go_wp2_with fail
                  refine cr.mono ?_
                  rintro e w9 ⟨S9, x, E9, rfl, h9, d9⟩
                  clear cr
                  obtain ⟨BIG, hBIG⟩ : ∃ B, B = (bs 5 x (blk q2) * (batchA 54 5 S9 b (.iface 27 v) 0 (SL.upd W (a : Int) (blk (i : Int))) (rdD 0 (SL.upd W (a : Int) (blk (i : Int))) D8 gs (k : Int)) * (pool S9 * (rowsR v gs * (pt g (.cells (i64s (L.set a (i : Int))) 3 (0, 0)) * whole w))))) := ⟨_, rfl⟩
                  have H9 : Sat w9 BIG := hBIG ▸ h9.ansYes
                  have HB : Hid (∀ w', Sat w' BIG → Sat w' (bs 5 x (blk q2) * (lastA S9 b v gs g (SL.upd W (a : Int) (blk (i : Int))) (rdD 0 (SL.upd W (a : Int) (blk (i : Int))) D8 gs (k : Int)) (L.set a (i : Int)) w))) := fun w' h => hBIG ▸ h
                  have cx : ∀ w', Sat w' BIG → (convert 31 9 x).run Try.prog w' = .ok (.string (str (blk q2))) w' := fun w' h => run_text w' x _ (HB.out w' h).bsRd
                  have cc : ∀ w', Sat w' BIG → w'.cell? ⟨g, k, none⟩ = some (.int .i64 q2) := fun w' h => ((HB.out w' h).right.front4.cell k).trans (by rw [get_i64s, HLk.out]; rfl)
                  have hb0 : ((0 : Int) != 0) = false := by decide
                  clear hBIG h9
                  go_wp2_with fail
                  go_region_held (fun w' => Sat w' BIG) (first | assumption | exact H9.drew)
                    (first
                      | (go_at_call 11; refine (block_c q2 _).mono ?_; rintro e wA ⟨gA, rfl, hA, dA⟩; have hA' := hA.under (Q := BIG) (by assumption); have kA := run_text wA _ _ (rd_blk hA'); have HBA := hA'.right))
                  clear cx cc kA
                  go_wp2
                  go_roundg (gk - 1)
                  case measure => omega
                  case rel => exact ⟨k + 1, S9, _, by omega, by omega, by go_num, Hinv9.out, (HB.out _ HBA).right, ((hside8.trans d9).drew).trans dA⟩
                · obtain rfl : k = 6 := by omega
                  go_wp2
                  go_roundg (gko - 1)
                  case measure => omega
                  case rel =>
                    have := HL2.out
                    exact ⟨i + 1, S8, _, D8, _, by omega, by omega, by omega, by go_num, by first | rfl | (rw [this]), hinv8, hsat8, hside8⟩
            · skip
              go_wp2_with fail
              refine (block_c (i : Int) _).mono ?_
              rintro e w5 ⟨g5, rfl, hb5, d5⟩
              have r5 := rd_blk hb5
              have H6 := (hb5.under H5).right
              have D5 := (hside.setCell ⟨g, a, none⟩ (.int .i64 (i : Int))).trans d5
              have Ha := SL.hid ha
              clear hb5 H5 hca hfa hcz' hand hm0 ha d5 hside
              go_wp2_with fail
              try rw [Ha.out]
              refine (write_any w5 S b _ 0 _ _ (a : Int) _ (blk (i : Int)) _ H6 r5).mono ?_
              rintro e w6 ⟨S6, E6, rfl, H7, d6⟩
              rw [wW_yes ha0] at H7
              rw [show writeR 0 (a : Int) (blk (i : Int)) = 0 from wR_yes ha0]
              clear H6 r5
              have cl := len_any w6 S6 b _ 0 _ _ _ H7
              have hL2 : ((SL.upd W (a : Int) (blk (i : Int))).length : Int) = (W.length : Int) := by rw [Hlen.out, if_neg (by omega)]
              have HL2 := SL.hid hL2
              rw [hL2] at cl
              clear hL2
              go_wp2_with fail
              refine cl.mono ?_
              rintro e w7 ⟨rfl, rfl⟩
              clear cl
              have D7 := D5.trans d6
              clear D5 d6
              go_wp2_with fail
              go_loopg [10] 6 (fun gk u10 wr => LastIn b v gs g (SL.upd W (a : Int) (blk (i : Int))) (L.set a (i : Int)) w gk u10 wr)
              case atStart => exact ⟨0, S6, D, by omega, by omega, rfl, Hwr.out, H7, D7⟩
              case round =>
                clear H7 D7
                obtain ⟨k, S8, D8, hk, hgk8, rfl, hinv8, hsat8, hside8⟩ := hrel
                by_cases hk6 : k < 6
                · have hk6' : (k : Int) < 6 := by omega
                  have cr := read_rows wr S8 b v gs 0 _ _ (k : Int) _ hs (by rw [Hl.out]; decide) hsat8
                  rw [hinv8.ans Hgs.out hk6] at cr
                  have hinv9 := hinv8.told Hgs.out hk6
                  have hLk : (L.set a (i : Int))[k]? = some ((L.set a (i : Int)).getD k 0) := by rw [List.getD, List.getElem?_eq_getElem (by rw [hinv8.1]; exact hk6)]; rfl
                  have Hinv9 := SL.hid hinv9; have HLk := SL.hid hLk
                  clear hinv8 hinv9 hLk hsat8
                  generalize (L.set a (i : Int)).getD k 0 = q2 at cr HLk
                  go_wp2_with fail
                  refine cr.mono ?_
                  rintro e w9 ⟨S9, x, E9, rfl, h9, d9⟩
                  clear cr
                  obtain ⟨BIG, hBIG⟩ : ∃ B, B = (bs 5 x (blk q2) * (batchA 54 5 S9 b (.iface 27 v) 0 (SL.upd W (a : Int) (blk (i : Int))) (rdD 0 (SL.upd W (a : Int) (blk (i : Int))) D8 gs (k : Int)) * (pool S9 * (rowsR v gs * (pt g (.cells (i64s (L.set a (i : Int))) 3 (0, 0)) * whole w))))) := ⟨_, rfl⟩
                  have H9 : Sat w9 BIG := hBIG ▸ h9.ansYes
                  have HB : Hid (∀ w', Sat w' BIG → Sat w' (bs 5 x (blk q2) * (lastA S9 b v gs g (SL.upd W (a : Int) (blk (i : Int))) (rdD 0 (SL.upd W (a : Int) (blk (i : Int))) D8 gs (k : Int)) (L.set a (i : Int)) w))) := fun w' h => hBIG ▸ h
                  have cx : ∀ w', Sat w' BIG → (convert 31 9 x).run Try.prog w' = .ok (.string (str (blk q2))) w' := fun w' h => run_text w' x _ (HB.out w' h).bsRd
                  have cc : ∀ w', Sat w' BIG → w'.cell? ⟨g, k, none⟩ = some (.int .i64 q2) := fun w' h => ((HB.out w' h).right.front4.cell k).trans (by rw [get_i64s, HLk.out]; rfl)
                  have hb0 : ((0 : Int) != 0) = false := by decide
                  clear hBIG h9
                  go_wp2_with fail
                  go_region_held (fun w' => Sat w' BIG) (first | assumption | exact H9.drew)
                    (first
                      | (go_at_call 11; refine (block_c q2 _).mono ?_; rintro e wA ⟨gA, rfl, hA, dA⟩; have hA' := hA.under (Q := BIG) (by assumption); have kA := run_text wA _ _ (rd_blk hA'); have HBA := hA'.right))
                  clear cx cc kA
                  go_wp2
                  go_roundg (gk - 1)
                  case measure => omega
                  case rel => exact ⟨k + 1, S9, _, by omega, by omega, by go_num, Hinv9.out, (HB.out _ HBA).right, ((hside8.trans d9).drew).trans dA⟩
                · obtain rfl : k = 6 := by omega
                  go_wp2
                  go_roundg (gko - 1)
                  case measure => omega
                  case rel =>
                    have := HL2.out
                    exact ⟨i + 1, S8, _, D8, _, by omega, by omega, by omega, by go_num, by first | rfl | (rw [this]), hinv8, hsat8, hside8⟩
          · have h50' : ¬ (i : Int) < 50 := by omega
            go_wp2
            go_ret
            exact ⟨rfl, hsat.right.right.right.right, hside⟩
        · have hil' : ¬ (i : Int) < (len : Int) := by omega
          go_wp2
          go_ret
          exact ⟨rfl, hsat.right.right.right.right, hside⟩
theorem last_walk (a0 : Option Addr) (len cap : Nat) (zs : List Int) (w : World) (hz : IsInts w a0 len cap zs) :
    Calls Try.prog 3 #[.slice a0 len cap] w fun e w' => e = .returned (.bool true) ∧ Below w.heap.size w w' :=
  (last_any a0 len cap zs w hz).mono fun _ _ h => shown_below h
end Go.Proofs.Ytcgpegdnicnciaa

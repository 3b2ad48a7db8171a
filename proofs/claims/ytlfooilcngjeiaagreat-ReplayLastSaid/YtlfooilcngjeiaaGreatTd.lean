/- tag: Decode. -/
import Derived.Test.YtlfooilcngjeiaaGreatTn
import Derived.Deep.RegionHeld3
namespace Go.SL
set_option linter.unusedVariables false
set_option linter.unusedSimpArgs false
open Go.RowKit
def decodeF (l : List UInt8) : Option (Tg × List UInt8) :=
  if (decT l 9).ok = true ∧ enc (decT l 9) ++ l.drop 32 = l then some (decT l 9, l.drop 32) else none
theorem offN_le (k : Nat) (h : k ≤ 9) : offN k ≤ 32 := by
  obtain rfl | rfl | rfl | rfl | rfl | rfl | rfl | rfl | rfl | rfl : k = 0 ∨ k = 1 ∨ k = 2 ∨ k = 3 ∨ k = 4 ∨ k = 5 ∨ k = 6 ∨ k = 7 ∨ k = 8 ∨ k = 9 := by omega
  all_goals decide
theorem set_fit (t : Tg) (n : Int) (k : Nat) (h : t.Fit) (r0 : 0 ≤ n) (r2 : n < 18446744073709551616) : (t.set n k).Fit := by
  obtain ⟨h0, h1, h2, h3, h4, h5, h6, h7⟩ := h
  unfold Tg.set
  split
  · exact ⟨Int.emod_nonneg _ (by decide), Int.emod_lt_of_pos _ (by decide), h2, h3, h4, h5, h6, h7⟩
  · exact ⟨h0, h1, h2, h3, r0, r2, h6, h7⟩
  · exact ⟨h0, h1, h2, h3, h4, h5, r0, r2⟩
  · exact ⟨h0, h1, r0, r2, h4, h5, h6, h7⟩
  all_goals exact ⟨h0, h1, h2, h3, h4, h5, h6, h7⟩
set_option maxRecDepth 100000 in
theorem decT_fit (l : List UInt8) (k : Nat) : (decT l k).Fit := by
  induction k with
  | zero => exact (show Tg.zero.Fit from ⟨by decide, by decide, by decide, by decide, by decide, by decide, by decide, by decide⟩)
  | succ k ih =>
    obtain ⟨h0, h1, h2, h3, h4, h5, h6, h7⟩ := ih
    obtain ⟨r0, r1⟩ := leV_range (l.drop (offN k)) (fsize k)
    have hp := pow256_le (fsize_le k)
    rw [decT]
    have r2 : leV (l.drop (offN k)) (fsize k) < 18446744073709551616 := by omega
    clear r1 hp
    generalize leV (l.drop (offN k)) (fsize k) = n at *
    exact set_fit (decT l k) n k ⟨h0, h1, h2, h3, h4, h5, h6, h7⟩ r0 r2
end Go.SL
namespace Go.Proofs.YtlfooilcngjeiaaGreat
set_option linter.unusedVariables false
set_option linter.unusedSimpArgs false
open Go.RowKit Go.SL
theorem rd_cells {w : World} {g o c : Nat} {l : List UInt8} (h : ∀ i, i < l.length → w.cell? ⟨g, o + i, none⟩ = some (u8 (l.getD i 0))) : Rd w (.slice (some ⟨g, o, none⟩) l.length c) l := by
  refine ⟨by simp, .inr ⟨_, _, rfl, fun j u hu => ?_⟩⟩
  rw [Addr.add_lit]
  rw [List.getElem?_map] at hu
  by_cases hj : j < l.length
  · rw [List.getElem?_eq_getElem hj] at hu
    rw [h j hj, ← hu, List.getD, List.getElem?_eq_getElem hj]; rfl
  · rw [List.getElem?_eq_none (Nat.le_of_not_lt hj)] at hu; cases hu
theorem info_tag0 : (Tryz.prog.info? 59).map (·.size) = some 7 := by kernel_rfl
theorem info_tag (t : Tg) : (Tryz.prog.info? 59).map (·.size) = some t.cells.size := info_tag0
theorem tag_one (t : Tg) : t.cells.all (·.oneCell') = true := by simp [Tg.cells, Value.oneCell']
theorem dec_results {tmps : Array Value} {w : World} {z2 : Nat} {t : Tg} {v u : Value} {F : Assn} (h2 : tmps[2]? = some (ptV z2)) (h3 : tmps[3]? = some v) (h4 : tmps[4]? = some u) (h : Sat w (pt z2 (.cells t.cells 59 (0, 0)) * F)) :
    (results Tryz.f58 tmps).run Tryz.prog w = .ok (.tuple #[.agg t.cells, v, u]) w := by
  have hz : ∀ o, w.cell? ⟨z2, o, none⟩ = t.cells[o]? := fun o => h.cell o
  have z0 := hz 0; have z1 := hz 1; have z2' := hz 2; have z3 := hz 3; have z4 := hz 4; have z5 := hz 5; have z6 := hz 6
  clear hz h
  simp only [Tg.cells] at z0 z1 z2' z3 z4 z5 z6 ⊢
  simp [results, Tryz.results58, go_sem, h2, h3, h4, z0, z1, z2', z3, z4, z5, z6]
def DecIn (l : List UInt8) (off : Nat) (s : Nat) (X : Assn) (w0 : World) (gk : Nat) (u9 u24 : Value) (wr : World) : Prop :=
  ∃ j : Nat, j ≤ s ∧ s - j ≤ gk ∧ u24 = .int .i64 (j : Int) ∧ u9 = .int .u64 (leV (l.drop off) j) ∧ Sat wr X ∧ Side w0 wr
def DecOut (l : List UInt8) (g cap : Nat) (fb : Fb) (b5 : Nat) (X : Assn) (w0 : World) (gk : Nat) (u6 u19 : Value) (wr : World) : Prop :=
  ∃ k : Nat, k ≤ 9 ∧ 9 - k ≤ gk ∧ u19 = .int .i64 (k : Int) ∧ u6 = .slice (some ⟨g, offN k, none⟩) (512 - offN k) (cap - offN k) ∧
    Sat wr (fieldsA fb * (pt b5 (.cells (decT l k).cells 59 (0, 0)) * X)) ∧ Side w0 wr
def DecodeQ (o : Option (Tg × List UInt8)) (w : World) (e : Ending) (w' : World) : Prop :=
  match o with
  | some (t, l) => ∃ v, e = .returned (.tuple #[.agg t.cells, v, .int .i64 0]) ∧ Sat w' (bs 5 v l * whole w) ∧ Side w w'
  | none => e = .returned (.tuple #[.agg Tg.zero.cells, .slice none 0 0, .int .i64 4]) ∧ Sat w' (whole w) ∧ Side w w'
set_option maxRecDepth 100000 in
set_option maxHeartbeats 4000000 in
theorem decode_any (l : List UInt8) (hl : l.length = 512) (g cap : Nat) (hcap : 512 ≤ cap) (hcm : cap ≤ maxLen) (w : World) (hb : ∀ o, o < 512 → w.cell? ⟨g, o, none⟩ = some (u8 (l.getD o 0))) :
    Calls Tryz.prog 58 #[.slice (some ⟨g, 0, none⟩) 512 cap] w (DecodeQ (decodeF l) w) := by
  have hA := ((Sat.whole w).alloc (.cells Tg.zero.cells 59 (0, 0))).alloc (.cells Tg.zero.cells 59 (0, 0))
  have hs := ((Side.refl w).alloc (.cells Tg.zero.cells 59 (0, 0))).alloc (.cells Tg.zero.cells 59 (0, 0))
  rw [World.size_alloc] at hA
  have Hb := SL.hid hb
  clear hb hcm
  go_enter Tryz.func58, Tryz.ntmps58
  go_wp2_with fail
  refine (fields_any _).mono ?_
  rintro e w4 ⟨fb, rfl, h4, d4⟩
  have H4 := h4.under hA
  have D4 := Side.trans hs d4
  clear h4 d4 hA hs
  generalize w.heap.size + 1 = b5 at H4 ⊢
  generalize w.heap.size = z2 at H4 ⊢
  have hix := index_k fb
  have hsk := fun t n k hk => set_k fb b5 t n k hk
  generalize hfv : fieldsV fb = fv at hix
  clear hfv
  go_wp2_with fail
  go_loopg [6, 19] 9 (fun gk u6 u19 wr => DecOut l g cap fb b5 (pt z2 (.cells Tg.zero.cells 59 (0, 0)) * whole w) w gk u6 u19 wr)
  case atStart => exact ⟨0, by omega, by omega, rfl, rfl, H4, D4⟩
  case round =>
    clear H4 D4
    obtain ⟨gko, rfl⟩ : ∃ n, n = gk := ⟨gk, rfl⟩
    obtain ⟨k, hk, hgo, rfl, rfl, hsat, hside⟩ := hrel
    have hoff := offN_le k hk
    by_cases hlt : k < 9
    · have hlt' : (k : Int) < 9 := by omega
      have hixk := hix k hlt
      have hoff2 := offN_le (k + 1) (by omega)
      rw [offN_succ] at hoff2
      obtain ⟨f2, caps2, hf2, hen, hset⟩ := hsk (decT l k) (leV (l.drop (offN k)) (fsize k)) k hlt
      obtain ⟨f, caps, hf⟩ : ∃ f caps, fget fb k = (f, caps) := ⟨_, _, rfl⟩
      simp only [fcells, hf, hf2] at hixk
      have hsz : (fsize k : Int) ≤ 6 := by have := fsize_le k; omega
      have hszn : fsize k ≤ 6 := fsize_le k
      have hA := hsat.alloc (.cells #[.int .i64 (fsize k), fnV f caps, fnV f2 caps2] 106 (0, 0))
      have hsA := hside.alloc (.cells #[.int .i64 (fsize k), fnV f caps, fnV f2 caps2] 106 (0, 0))
      have Hdec : Hid (decT l (k + 1) = (decT l k).set (leV (l.drop (offN k)) (fsize k)) k) := rfl
      have Hoff : Hid (offN (k + 1) = offN k + fsize k) := offN_succ k
      have Hset := SL.hid hset
      clear hix hsk hf hf2 hsat hside hset
      generalize hsk2 : fsize k = sz at *
      generalize hok : offN k = off at *
      clear hsk2 hok
      go_wp2_with fail
      generalize wr.alloc (.cells #[.int .i64 (sz : Int), fnV f caps, fnV f2 caps2] 106 (0, 0)) = w5 at hA hsA ⊢
      generalize wr.heap.size = b8 at hA ⊢
      have c8 : w5.cell? ⟨b8, 0, none⟩ = some (.int .i64 (sz : Int)) := hA.cell 0
      go_loopg [9, 24] sz (fun gk u9 u24 wr => DecIn l off sz (pt b8 (.cells #[.int .i64 (sz : Int), fnV f caps, fnV f2 caps2] 106 (0, 0)) * (fieldsA fb * (pt b5 (.cells (decT l k).cells 59 (0, 0)) * (pt z2 (.cells Tg.zero.cells 59 (0, 0)) * whole w)))) w gk u9 u24 wr)
      case atStart => exact ⟨0, by omega, by omega, rfl, rfl, hA, hsA⟩
      case round =>
        clear hA hsA c8
        obtain ⟨j, hj, hgj, rfl, rfl, hsat, hside⟩ := hrel
        by_cases hjl : j < sz
        · have hjl' : (j : Int) < (sz : Int) := by omega
          have hcj : wr.cell? ⟨g, off + j, none⟩ = some (.int .u8 ((l.getD (off + j) 0).toNat : Int)) := (hsat.right.right.right.right.addEmp.to (star_comm _ _)).cellOld (Hb.out (off + j) (by omega))
          have hidx : (j : Int) < ((512 - off : Nat) : Int) := by omega
          obtain ⟨r0, r1⟩ := leV_range (l.drop off) j
          go_wp2_with fail
          go_roundg (gk - 1)
          case measure => omega
          case rel => exact ⟨j + 1, by omega, by omega, by go_num, by rw [or_step l off j (by omega)], hsat, hside⟩
        · obtain rfl : j = sz := by omega
          have c8 : wr.cell? ⟨b8, 0, none⟩ = some (.int .i64 (j : Int)) := hsat.cell 0
          have c82 : wr.cell? ⟨b8, 2, none⟩ = some (fnV f2 caps2) := hsat.cell 2
          have hcall := Hset.out wr _ hsat.front3.front3
          clear hjl
          go_wp2_with fail
          refine hcall.mono ?_
          rintro e w7 ⟨rfl, h7, d7⟩
          have H7 := h7
          have c8' : w7.cell? ⟨b8, 0, none⟩ = some (.int .i64 (j : Int)) := H7.front3.cell 0
          have hb1 : (j : Int) ≤ ((512 - off : Nat) : Int) := by omega
          have hb2 : j ≤ 512 - off := by omega
          have hb3 : j ≤ cap - off := by omega
          have hb4 : 512 - off ≤ cap - off := by omega
          have hb5 : ¬ cap - off = j := by omega
          have hb6 : ¬ cap - off - j = 0 := by omega
          have hside7 := hside.trans d7
          clear hcall h7 d7 c8 c82 hsat hside
          go_wp2
          go_roundg (gko - 1)
          case measure => omega
          case rel =>
            refine ⟨k + 1, by omega, by omega, by go_num, by rw [Hoff.out, Nat.sub_sub, Nat.sub_sub], ?_, hside7⟩
            rw [Hdec.out]
            exact H7.drop3.front2
    · obtain rfl : k = 9 := by omega
      have ho9 : offN 9 = 32 := by decide
      have Ht := SL.hid (decT_fit l 9)
      rw [ho9]
      have cb : ∀ o, wr.cell? ⟨b5, o, none⟩ = (decT l 9).cells[o]? := fun o => hsat.front2.cell o
      have cb0 := cb 0; have cb1 := cb 1; have cb2 := cb 2; have cb3 := cb 3; have cb4 := cb 4; have cb5 := cb 5; have cb6 := cb 6
      simp only [Tg.cells] at cb0 cb1 cb2 cb3 cb4 cb5 cb6
      have hrest : Rd wr (.slice (some ⟨g, 32, none⟩) 480 (cap - 32)) (l.drop 32) := by
        have hdl : (l.drop 32).length = 480 := by rw [List.length_drop, hl]
        have := rd_cells (w := wr) (g := g) (o := 32) (c := cap - 32) (l := l.drop 32) fun o h => by
          have hc := (hsat.right.right.right.addEmp.to (star_comm _ _)).cellOld (Hb.out (32 + o) (by omega))
          rw [hc]
          simp [List.getD]
        rwa [hdl] at this
      have hfull : ∀ w', Sat w' (whole w) → Rd w' (.slice (some ⟨g, 0, none⟩) 512 cap) l := fun w' h => by
        have := rd_cells (w := w') (g := g) (o := 0) (c := cap) (l := l) fun o hh => by
          have hc := (h.addEmp.to (star_comm _ _)).cellOld (Hb.out o (by omega))
          rw [Nat.zero_add]; exact hc
        rwa [hl] at this
      have Hfull := SL.hid hfull; have Hrest := SL.hid hrest; have Hl := SL.hid hl
      have hz : ∀ o, wr.cell? ⟨z2, o, none⟩ = Tg.zero.cells[o]? := fun o => hsat.front3.cell o
      have Hdn : Hid ((decT l 9).ok = false → decodeF l = none) := fun hok => by unfold decodeF; rw [if_neg]; rintro ⟨h1, _⟩; rw [hok] at h1; cases h1
      have Hdy : Hid ((decT l 9).ok = true → enc (decT l 9) ++ l.drop 32 = l → decodeF l = some (decT l 9, l.drop 32)) := fun h1 h2 => by unfold decodeF; rw [if_pos ⟨h1, h2⟩]
      have Hdz : Hid (¬ enc (decT l 9) ++ l.drop 32 = l → decodeF l = none) := fun h2 => by unfold decodeF; rw [if_neg]; rintro ⟨_, h3⟩; exact h2 h3
      clear cb hfull hrest hix hsk hoff hlt hl
      generalize decT l 9 = t at *
      cases hok : t.ok with
      | false =>
        have hdec : decodeF l = none := Hdn.out hok
        have Hdec := SL.hid hdec
        have hcall := encode_no t hok _ _ wr Hrest.out
        clear hdec hok
        simp only [Tg.cells] at hcall
        go_wp2_with fail
        refine hcall.mono ?_
        rintro e w7 ⟨rfl, h7, d7⟩
        have H7 := h7.keepW hsat
        clear hcall hsat cb0 cb1 cb2 cb3 cb4 cb5 cb6 hz h7
        have hzh : w7.heap[z2]? = some (.cells Tg.zero.cells 59 (0, 0)) := H7.front3.heap
        have H8 := H7.front3.setRow (cs' := Tg.zero.cells)
        have hs8 := (hside.trans d7).setRow z2 Tg.zero.cells
        go_wp2_with (refine wpList_store_row rfl 59 (.tmp 2) (.tmp 61) rfl z2 Tg.zero.cells rfl rfl 59 Tg.zero.cells hzh (info_tag _) rfl (tag_one _) ?_)
        refine bodyPost_ret (dec_results rfl rfl rfl H8) rfl ?_
        rw [Hdec.out]
        exact ⟨rfl, H8.right.right.right, hs8⟩
      | true =>
        have hcall := encode_yes t Ht.out hok _ _ (by rw [List.length_drop, Hl.out]) wr Hrest.out
        have Hok := SL.hid hok
        clear hok
        simp only [Tg.cells] at hcall
        go_wp2_with fail
        refine hcall.mono ?_
        rintro e w7 ⟨v, rfl, h7, d7⟩
        have H7 := h7.under hsat
        have hside7 := hside.trans d7
        have hag : Rd w7 v (enc t ++ l.drop 32) := h7.bsRd
        have hfull := Hfull.out w7 H7.right.right.right.right
        have heq := equal_any w7 v _ _ _ hag hfull
        clear hcall hsat cb0 cb1 cb2 cb3 cb4 cb5 cb6 hz h7 d7 hside hag hfull
        by_cases he : enc t ++ l.drop 32 = l
        · rw [show decide (enc t ++ l.drop 32 = l) = true by simpa using he] at heq
          have hdec : decodeF l = some (t, l.drop 32) := Hdy.out Hok.out he
          have Hdec := SL.hid hdec
          have hcb : ∀ o, w7.cell? ⟨b5, o, none⟩ = t.cells[o]? := fun o => H7.front3.cell o
          have cb0 := hcb 0; have cb1 := hcb 1; have cb2 := hcb 2; have cb3 := hcb 3; have cb4 := hcb 4; have cb5 := hcb 5; have cb6 := hcb 6
          simp only [Tg.cells] at cb0 cb1 cb2 cb3 cb4 cb5 cb6
          have Hrest7 : Hid (Rd w7 (.slice (some ⟨g, 32, none⟩) 480 (cap - 32)) (l.drop 32)) := by
            have hdl : (l.drop 32).length = 480 := by rw [List.length_drop, Hl.out]
            have := rd_cells (w := w7) (g := g) (o := 32) (c := cap - 32) (l := l.drop 32) fun o h => by
              have hc := (H7.right.right.right.right.addEmp.to (star_comm _ _)).cellOld (Hb.out (32 + o) (by omega))
              rw [hc]
              simp [List.getD]
            rwa [hdl] at this
          clear hcb he hdec
          go_wp2_with (go_at_call 80; (with_reducible refine heq.mono ?_); rintro e w8 ⟨rfl, rfl⟩)
          obtain ⟨i0, hi, hz, hs0, hb0⟩ := info_parts info_u8
          obtain ⟨B3, hB3⟩ : ∃ X, X = pt b5 (.cells t.cells 59 (0, 0)) * (fieldsA fb * whole w) := ⟨_, rfl⟩
          have K7 : Sat w7.drew (sl 5 1 (.slice none 0 0) 0 [] * (pt z2 (.cells Tg.zero.cells 59 (0, 0)) * B3)) := (Sat.slNil (F := pt z2 (.cells Tg.zero.cells 59 (0, 0)) * B3) (H7.right.to (by rw [hB3]; ac_rfl)) _ _)
          have hrl2 : Rds w7.drew 1 (.slice (some ⟨g, 32, none⟩) 480 (cap - 32)) 480 ((l.drop 32).map Go.SL.u8) := by
            have := Hrest7.out; unfold Rd at this; rwa [List.length_drop, Hl.out] at this
          obtain ⟨v', w8, hrun, h8, d8⟩ := Sat.append (P := Tryz.prog) (ty := 39) Tryz.underlying39 hi hz hs0 hb0 rfl K7 hrl2 (u8_one _) (by unfold maxLen; omega) (by omega)
          have hbs : Sat w8 (bs 5 v' (l.drop 32) * (pt z2 (.cells Tg.zero.cells 59 (0, 0)) * B3)) := h8.to (by
            rw [bs, List.length_drop, Hl.out]; rfl)
          obtain ⟨va', vc', rfl⟩ := sl_shape hbs
          have hz8 : ∀ o, w8.cell? ⟨z2, o, none⟩ = Tg.zero.cells[o]? := fun o => hbs.front2.cell o
          have zz0 : w8.cell? ⟨z2, 0, none⟩ = some (.int .u32 0) := hz8 0
          have zz1 : w8.cell? ⟨z2, 1, none⟩ = some (.int .u64 0) := hz8 1
          have zz2 : w8.cell? ⟨z2, 2, none⟩ = some (.int .u64 0) := hz8 2
          have zz3 : w8.cell? ⟨z2, 3, none⟩ = some (.int .u64 0) := hz8 3
          have zz4 : w8.cell? ⟨z2, 4, none⟩ = some (.int .i64 0) := hz8 4
          have zz5 : w8.cell? ⟨z2, 5, none⟩ = some (.int .i64 0) := hz8 5
          have zz6 : w8.cell? ⟨z2, 6, none⟩ = some (.int .i64 0) := hz8 6
          have fz0 : w8.frozen? ⟨z2, 0, none⟩ = false := hbs.front2.frozen 0
          have fz1 : w8.frozen? ⟨z2, 1, none⟩ = false := hbs.front2.frozen 1
          have fz2 : w8.frozen? ⟨z2, 2, none⟩ = false := hbs.front2.frozen 2
          have fz3 : w8.frozen? ⟨z2, 3, none⟩ = false := hbs.front2.frozen 3
          have fz4 : w8.frozen? ⟨z2, 4, none⟩ = false := hbs.front2.frozen 4
          have fz5 : w8.frozen? ⟨z2, 5, none⟩ = false := hbs.front2.frozen 5
          have fz6 : w8.frozen? ⟨z2, 6, none⟩ = false := hbs.front2.frozen 6
          have K9 := ((((((hbs.front2.setCell 0 (.int .u32 t.ep)).setCell 1 (.int .u64 t.st)).setCell 2 (.int .u64 t.sq)).setCell 3 (.int .u64 t.fl)).setCell 4 (.int .i64 t.ix)).setCell 5 (.int .i64 t.ct)).setCell 6 (.int .i64 t.id)
          have S9 := K9.right.right
          have S8 := hbs.right.right
          have S7 := K7.right.right
          have gb : ∀ o w', Sat w' B3 → w'.cell? ⟨b5, o, none⟩ = t.cells[o]? := fun o w' h => (hB3 ▸ h).cell o
          have gb0 : ∀ w', Sat w' B3 → w'.cell? ⟨b5, 0, none⟩ = some (.int .u32 t.ep) := gb 0
          have gb1 : ∀ w', Sat w' B3 → w'.cell? ⟨b5, 1, none⟩ = some (.int .u64 t.st) := gb 1
          have gb2 : ∀ w', Sat w' B3 → w'.cell? ⟨b5, 2, none⟩ = some (.int .u64 t.sq) := gb 2
          have gb3 : ∀ w', Sat w' B3 → w'.cell? ⟨b5, 3, none⟩ = some (.int .u64 t.fl) := gb 3
          have gb4 : ∀ w', Sat w' B3 → w'.cell? ⟨b5, 4, none⟩ = some (.int .i64 t.ix) := gb 4
          have gb5 : ∀ w', Sat w' B3 → w'.cell? ⟨b5, 5, none⟩ = some (.int .i64 t.ct) := gb 5
          have gb6 : ∀ w', Sat w' B3 → w'.cell? ⟨b5, 6, none⟩ = some (.int .i64 t.id) := gb 6
          have Hrun := SL.hid hrun
          have HB3 := SL.hid hB3
          clear hrun gb h8 hz8 hB3 hi hz hs0 hb0 hrl2 K7 H7 heq cb0 cb1 cb2 cb3 cb4 cb5 cb6
          have S9d := S9.drew
          go_region_held3 (fun w' => Sat w' B3) (first | (with_reducible exact S7) | (with_reducible exact S8) | (with_reducible exact S9) | (with_reducible exact S9d)) (first
            | (refine step_append_run Hrun.out rfl _ _ rfl rfl (by rfl) (by rfl) ?_))
          go_wp2
          have K10 : Sat ((((((((w8.setCell ⟨z2, 0, none⟩ (.int .u32 t.ep)).setCell ⟨z2, 1, none⟩ (.int .u64 t.st)).setCell ⟨z2, 2, none⟩ (.int .u64 t.sq)).setCell ⟨z2, 3, none⟩ (.int .u64 t.fl)).setCell ⟨z2, 4, none⟩ (.int .i64 t.ix)).setCell ⟨z2, 5, none⟩ (.int .i64 t.ct)).setCell ⟨z2, 6, none⟩ (.int .i64 t.id))) (pt z2 (.cells t.cells 59 (0, 0)) * (bs 5 (.slice va' (l.length - 32) vc') (l.drop 32) * B3)) := by
            rw [List.length_drop] at K9; exact K9
          refine bodyPost_ret (dec_results rfl rfl rfl K10) rfl ?_
          rw [Hdec.out]
          refine ⟨_, rfl, ?_, (((((((hside7.drew.trans d8).setCell _ _).setCell _ _).setCell _ _).setCell _ _).setCell _ _).setCell _ _).setCell _ _⟩
          rw [HB3.out] at K10
          exact K10.right.drop2.drop2
        · rw [show decide (enc t ++ l.drop 32 = l) = false by simpa using he] at heq
          have hdec : decodeF l = none := Hdz.out he
          have Hdec := SL.hid hdec
          have hzh : w7.heap[z2]? = some (.cells Tg.zero.cells 59 (0, 0)) := H7.front4.heap
          have H8 := H7.front4.setRow (cs' := Tg.zero.cells)
          have hs8 := hside7.setRow z2 Tg.zero.cells
          clear he hdec H7
          go_wp2_with (first
            | (go_at_call 80; (with_reducible refine heq.mono ?_); rintro e w8 ⟨rfl, rfl⟩)
            | (refine wpList_store_row rfl 59 (.tmp 2) (.tmp 61) rfl z2 Tg.zero.cells rfl rfl 59 Tg.zero.cells hzh (info_tag _) rfl (tag_one _) ?_))
          refine bodyPost_ret (dec_results rfl rfl rfl H8) rfl ?_
          rw [Hdec.out]
          exact ⟨rfl, H8.right.right.right.right, hs8⟩
end Go.Proofs.YtlfooilcngjeiaaGreat

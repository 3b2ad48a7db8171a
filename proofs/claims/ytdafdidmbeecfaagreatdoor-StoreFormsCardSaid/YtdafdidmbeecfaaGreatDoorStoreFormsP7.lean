/- Steps towards the statement StoreForms. -/
import Derived.Test.YtdafdidmbeecfaaGreatDoorStoreFormsP6
import Derived.Deep.RegionHeld3
import Derived.Test.YtdafdidmbeecfaaGreatDoorStoreFormsP5
section
namespace Go.SL
set_option linter.unusedVariables false
set_option linter.unusedSimpArgs false
open Go.RowKit
def decodeF (l : List UInt8) : Option (Tg × List UInt8) :=
  if (decT l 9).ok = true ∧ enc (decT l 9) ++ l.drop 32 = l then some (decT l 9, l.drop 32) else none
theorem offN_le (k : Nat) (h : k ≤ 9) : offN k ≤ 32 := by
  obtain rfl | rfl | rfl | rfl | rfl | rfl | rfl | rfl | rfl | rfl : k = 0 ∨ k = 1 ∨ k = 2 ∨ k = 3 ∨ k = 4 ∨ k = 5 ∨ k = 6 ∨ k = 7 ∨ k = 8 ∨ k = 9 := by omega
  all_goals decide
theorem set_fit (t : Tg) (n : Int) (k : Nat) (h : t.Fit) (r0 : 0 ≤ n) (r2 : n < 18446744073709551616) : (t.set n k).Fit := by
  obtain ⟨h0, h1, h2, h3, h4, h5, h6, h7⟩ := h
  unfold Tg.set
  split
  · exact ⟨Int.emod_nonneg _ (by decide), Int.emod_lt_of_pos _ (by decide), h2, h3, h4, h5, h6, h7⟩
  · exact ⟨h0, h1, h2, h3, r0, r2, h6, h7⟩
  · exact ⟨h0, h1, h2, h3, h4, h5, r0, r2⟩
  · exact ⟨h0, h1, r0, r2, h4, h5, h6, h7⟩
  all_goals exact ⟨h0, h1, h2, h3, h4, h5, h6, h7⟩
set_option maxRecDepth 100000 in
theorem decT_fit (l : List UInt8) (k : Nat) : (decT l k).Fit := by
  induction k with
  | zero => exact (show Tg.zero.Fit from ⟨by decide, by decide, by decide, by decide, by decide, by decide, by decide, by decide⟩)
  | succ k ih =>
    obtain ⟨h0, h1, h2, h3, h4, h5, h6, h7⟩ := ih
    obtain ⟨r0, r1⟩ := leV_range (l.drop (offN k)) (fsize k)
    have hp := pow256_le (fsize_le k)
    rw [decT]
    have r2 : leV (l.drop (offN k)) (fsize k) < 18446744073709551616 := by omega
    clear r1 hp
    generalize leV (l.drop (offN k)) (fsize k) = n at *
    exact set_fit (decT l k) n k ⟨h0, h1, h2, h3, h4, h5, h6, h7⟩ r0 r2
end Go.SL
namespace Go.Proofs.YtdafdidmbeecfaaGreatDoor
set_option linter.unusedVariables false
set_option linter.unusedSimpArgs false
open Go.RowKit Go.SL
theorem rd_cells {w : World} {g o c : Nat} {l : List UInt8} (h : ∀ i, i < l.length → w.cell? ⟨g, o + i, none⟩ = some (u8 (l.getD i 0))) : Rd w (.slice (some ⟨g, o, none⟩) l.length c) l := by
  refine ⟨by simp, .inr ⟨_, _, rfl, fun j u hu => ?_⟩⟩
  rw [Addr.add_lit]
  rw [List.getElem?_map] at hu
  by_cases hj : j < l.length
  · rw [List.getElem?_eq_getElem hj] at hu
    rw [h j hj, ← hu, List.getD, List.getElem?_eq_getElem hj]; rfl
  · rw [List.getElem?_eq_none (Nat.le_of_not_lt hj)] at hu; cases hu
theorem info_tag0 : (Tryz.prog.info? 121).map (·.size) = some 7 := by kernel_rfl
theorem info_tag (t : Tg) : (Tryz.prog.info? 121).map (·.size) = some t.cells.size := info_tag0
theorem tag_one (t : Tg) : t.cells.all (·.oneCell') = true := by simp [Tg.cells, Value.oneCell']
theorem dec_results {tmps : Array Value} {w : World} {z2 : Nat} {t : Tg} {v u : Value} {F : Assn} (h2 : tmps[2]? = some (ptV z2)) (h3 : tmps[3]? = some v) (h4 : tmps[4]? = some u) (h : Sat w (pt z2 (.cells t.cells 121 (0, 0)) * F)) :
    (results Tryz.f87 tmps).run Tryz.prog w = .ok (.tuple #[.agg t.cells, v, u]) w := by
  have hz : ∀ o, w.cell? ⟨z2, o, none⟩ = t.cells[o]? := fun o => h.cell o
  have z0 := hz 0; have z1 := hz 1; have z2' := hz 2; have z3 := hz 3; have z4 := hz 4; have z5 := hz 5; have z6 := hz 6
  clear hz h
  simp only [Tg.cells] at z0 z1 z2' z3 z4 z5 z6 ⊢
  simp [results, Tryz.results87, go_sem, h2, h3, h4, z0, z1, z2', z3, z4, z5, z6]
def DecIn (l : List UInt8) (off : Nat) (s : Nat) (X : Assn) (w0 : World) (gk : Nat) (u9 u24 : Value) (wr : World) : Prop :=
  ∃ j : Nat, j ≤ s ∧ s - j ≤ gk ∧ u24 = .int .i64 (j : Int) ∧ u9 = .int .u64 (leV (l.drop off) j) ∧ Sat wr X ∧ Side w0 wr
def DecOut (l : List UInt8) (g cap : Nat) (fb : Fb) (b5 : Nat) (X : Assn) (w0 : World) (gk : Nat) (u6 u19 : Value) (wr : World) : Prop :=
  ∃ k : Nat, k ≤ 9 ∧ 9 - k ≤ gk ∧ u19 = .int .i64 (k : Int) ∧ u6 = .slice (some ⟨g, offN k, none⟩) (512 - offN k) (cap - offN k) ∧
    Sat wr (fieldsA fb * (pt b5 (.cells (decT l k).cells 121 (0, 0)) * X)) ∧ Side w0 wr
def DecodeQ (o : Option (Tg × List UInt8)) (w : World) (e : Ending) (w' : World) : Prop :=
  match o with
  | some (t, l) => ∃ v, e = .returned (.tuple #[.agg t.cells, v, .int .i64 0]) ∧ Sat w' (bs 5 v l * whole w) ∧ Side w w'
  | none => e = .returned (.tuple #[.agg Tg.zero.cells, .slice none 0 0, .int .i64 4]) ∧ Sat w' (whole w) ∧ Side w w'
set_option maxRecDepth 100000 in
set_option maxHeartbeats 4000000 in
theorem decode_any (l : List UInt8) (hl : l.length = 512) (g cap : Nat) (hcap : 512 ≤ cap) (hcm : cap ≤ maxLen) (w : World) (hb : ∀ o, o < 512 → w.cell? ⟨g, o, none⟩ = some (u8 (l.getD o 0))) :
    Calls Tryz.prog 87 #[.slice (some ⟨g, 0, none⟩) 512 cap] w (DecodeQ (decodeF l) w) := by
  have hA := ((Sat.whole w).alloc (.cells Tg.zero.cells 121 (0, 0))).alloc (.cells Tg.zero.cells 121 (0, 0))
  have hs := ((Side.refl w).alloc (.cells Tg.zero.cells 121 (0, 0))).alloc (.cells Tg.zero.cells 121 (0, 0))
  rw [World.size_alloc] at hA
  have Hb := SL.hid hb
  clear hb hcm
  go_enter Tryz.func87, Tryz.ntmps87
  go_wp2_with fail
  refine (fields_any _).mono ?_
  rintro e w4 ⟨fb, rfl, h4, d4⟩
  have H4 := h4.under hA
  have D4 := Side.trans hs d4
  clear h4 d4 hA hs
  generalize w.heap.size + 1 = b5 at H4 ⊢
  generalize w.heap.size = z2 at H4 ⊢
  have hix := index_k fb
  have hsk := fun t n k hk => set_k fb b5 t n k hk
  generalize hfv : fieldsV fb = fv at hix
  clear hfv
  go_wp2_with fail
  go_loopg [6, 19] 9 (fun gk u6 u19 wr => DecOut l g cap fb b5 (pt z2 (.cells Tg.zero.cells 121 (0, 0)) * whole w) w gk u6 u19 wr)
  case atStart => exact ⟨0, by omega, by omega, rfl, rfl, H4, D4⟩
  case round =>
    clear H4 D4
    obtain ⟨gko, rfl⟩ : ∃ n, n = gk := ⟨gk, rfl⟩
    obtain ⟨k, hk, hgo, rfl, rfl, hsat, hside⟩ := hrel
    have hoff := offN_le k hk
    by_cases hlt : k < 9
    · have hlt' : (k : Int) < 9 := by omega
      have hixk := hix k hlt
      have hoff2 := offN_le (k + 1) (by omega)
      rw [offN_succ] at hoff2
      obtain ⟨f2, caps2, hf2, hen, hset⟩ := hsk (decT l k) (leV (l.drop (offN k)) (fsize k)) k hlt
      obtain ⟨f, caps, hf⟩ : ∃ f caps, fget fb k = (f, caps) := ⟨_, _, rfl⟩
      simp only [fcells, hf, hf2] at hixk
      have hsz : (fsize k : Int) ≤ 6 := by have := fsize_le k; omega
      have hszn : fsize k ≤ 6 := fsize_le k
      have hA := hsat.alloc (.cells #[.int .i64 (fsize k), fnV f caps, fnV f2 caps2] 177 (0, 0))
      have hsA := hside.alloc (.cells #[.int .i64 (fsize k), fnV f caps, fnV f2 caps2] 177 (0, 0))
      have Hdec : Hid (decT l (k + 1) = (decT l k).set (leV (l.drop (offN k)) (fsize k)) k) := rfl
      have Hoff : Hid (offN (k + 1) = offN k + fsize k) := offN_succ k
      have Hset := SL.hid hset
      clear hix hsk hf hf2 hsat hside hset
      generalize hsk2 : fsize k = sz at *
      generalize hok : offN k = off at *
      clear hsk2 hok
      go_wp2_with fail
      generalize wr.alloc (.cells #[.int .i64 (sz : Int), fnV f caps, fnV f2 caps2] 177 (0, 0)) = w5 at hA hsA ⊢
      generalize wr.heap.size = b8 at hA ⊢
      have c8 : w5.cell? ⟨b8, 0, none⟩ = some (.int .i64 (sz : Int)) := hA.cell 0
      go_loopg [9, 24] sz (fun gk u9 u24 wr => DecIn l off sz (pt b8 (.cells #[.int .i64 (sz : Int), fnV f caps, fnV f2 caps2] 177 (0, 0)) * (fieldsA fb * (pt b5 (.cells (decT l k).cells 121 (0, 0)) * (pt z2 (.cells Tg.zero.cells 121 (0, 0)) * whole w)))) w gk u9 u24 wr)
      case atStart => exact ⟨0, by omega, by omega, rfl, rfl, hA, hsA⟩
      case round =>
        clear hA hsA c8
        obtain ⟨j, hj, hgj, rfl, rfl, hsat, hside⟩ := hrel
        by_cases hjl : j < sz
        · have hjl' : (j : Int) < (sz : Int) := by omega
          have hcj : wr.cell? ⟨g, off + j, none⟩ = some (.int .u8 ((l.getD (off + j) 0).toNat : Int)) := (hsat.right.right.right.right.addEmp.to (star_comm _ _)).cellOld (Hb.out (off + j) (by omega))
          have hidx : (j : Int) < ((512 - off : Nat) : Int) := by omega
          obtain ⟨r0, r1⟩ := leV_range (l.drop off) j
          go_wp2_with fail
          go_roundg (gk - 1)
          case measure => omega
          case rel => exact ⟨j + 1, by omega, by omega, by go_num, by rw [or_step l off j (by omega)], hsat, hside⟩
        · obtain rfl : j = sz := by omega
          have c8 : wr.cell? ⟨b8, 0, none⟩ = some (.int .i64 (j : Int)) := hsat.cell 0
          have c82 : wr.cell? ⟨b8, 2, none⟩ = some (fnV f2 caps2) := hsat.cell 2
          have hcall := Hset.out wr _ hsat.front3.front3
          clear hjl
          go_wp2_with fail
          refine hcall.mono ?_
          rintro e w7 ⟨rfl, h7, d7⟩
          have H7 := h7
          have c8' : w7.cell? ⟨b8, 0, none⟩ = some (.int .i64 (j : Int)) := H7.front3.cell 0
          have hb1 : (j : Int) ≤ ((512 - off : Nat) : Int) := by omega
          have hb2 : j ≤ 512 - off := by omega
          have hb3 : j ≤ cap - off := by omega
          have hb4 : 512 - off ≤ cap - off := by omega
          have hb5 : ¬ cap - off = j := by omega
          have hb6 : ¬ cap - off - j = 0 := by omega
          have hside7 := hside.trans d7
          clear hcall h7 d7 c8 c82 hsat hside
          go_wp2
          go_roundg (gko - 1)
          case measure => omega
          case rel =>
            refine ⟨k + 1, by omega, by omega, by go_num, by rw [Hoff.out, Nat.sub_sub, Nat.sub_sub], ?_, hside7⟩
            rw [Hdec.out]
            exact H7.drop3.front2
    · obtain rfl : k = 9 := by omega
      have ho9 : offN 9 = 32 := by decide
      have Ht := SL.hid (decT_fit l 9)
      rw [ho9]
      have cb : ∀ o, wr.cell? ⟨b5, o, none⟩ = (decT l 9).cells[o]? := fun o => hsat.front2.cell o
      have cb0 := cb 0; have cb1 := cb 1; have cb2 := cb 2; have cb3 := cb 3; have cb4 := cb 4; have cb5 := cb 5; have cb6 := cb 6
      simp only [Tg.cells] at cb0 cb1 cb2 cb3 cb4 cb5 cb6
      have hrest : Rd wr (.slice (some ⟨g, 32, none⟩) 480 (cap - 32)) (l.drop 32) := by
        have hdl : (l.drop 32).length = 480 := by rw [List.length_drop, hl]
        have := rd_cells (w := wr) (g := g) (o := 32) (c := cap - 32) (l := l.drop 32) fun o h => by
          have hc := (hsat.right.right.right.addEmp.to (star_comm _ _)).cellOld (Hb.out (32 + o) (by omega))
          rw [hc]
          simp [List.getD]
        rwa [hdl] at this
      have hfull : ∀ w', Sat w' (whole w) → Rd w' (.slice (some ⟨g, 0, none⟩) 512 cap) l := fun w' h => by
        have := rd_cells (w := w') (g := g) (o := 0) (c := cap) (l := l) fun o hh => by
          have hc := (h.addEmp.to (star_comm _ _)).cellOld (Hb.out o (by omega))
          rw [Nat.zero_add]; exact hc
        rwa [hl] at this
      have Hfull := SL.hid hfull; have Hrest := SL.hid hrest; have Hl := SL.hid hl
      have hz : ∀ o, wr.cell? ⟨z2, o, none⟩ = Tg.zero.cells[o]? := fun o => hsat.front3.cell o
      have Hdn : Hid ((decT l 9).ok = false → decodeF l = none) := fun hok => by unfold decodeF; rw [if_neg]; rintro ⟨h1, _⟩; rw [hok] at h1; cases h1
      have Hdy : Hid ((decT l 9).ok = true → enc (decT l 9) ++ l.drop 32 = l → decodeF l = some (decT l 9, l.drop 32)) := fun h1 h2 => by unfold decodeF; rw [if_pos ⟨h1, h2⟩]
      have Hdz : Hid (¬ enc (decT l 9) ++ l.drop 32 = l → decodeF l = none) := fun h2 => by unfold decodeF; rw [if_neg]; rintro ⟨_, h3⟩; exact h2 h3
      clear cb hfull hrest hix hsk hoff hlt hl
      generalize decT l 9 = t at *
      cases hok : t.ok with
      | false =>
        have hdec : decodeF l = none := Hdn.out hok
        have Hdec := SL.hid hdec
        have hcall := encode_no t hok _ _ wr Hrest.out
        clear hdec hok
        simp only [Tg.cells] at hcall
        go_wp2_with fail
        refine hcall.mono ?_
        rintro e w7 ⟨rfl, h7, d7⟩
        have H7 := h7.keepW hsat
        clear hcall hsat cb0 cb1 cb2 cb3 cb4 cb5 cb6 hz h7
        have hzh : w7.heap[z2]? = some (.cells Tg.zero.cells 121 (0, 0)) := H7.front3.heap
        have H8 := H7.front3.setRow (cs' := Tg.zero.cells)
        have hs8 := (hside.trans d7).setRow z2 Tg.zero.cells
        go_wp2_with (refine wpList_store_row rfl 121 (.tmp 2) (.tmp 61) rfl z2 Tg.zero.cells rfl rfl 121 Tg.zero.cells hzh (info_tag _) rfl (tag_one _) ?_)
        refine bodyPost_ret (dec_results rfl rfl rfl H8) rfl ?_
        rw [Hdec.out]
        exact ⟨rfl, H8.right.right.right, hs8⟩
      | true =>
        have hcall := encode_yes t Ht.out hok _ _ (by rw [List.length_drop, Hl.out]) wr Hrest.out
        have Hok := SL.hid hok
        clear hok
        simp only [Tg.cells] at hcall
        go_wp2_with fail
        refine hcall.mono ?_
        rintro e w7 ⟨v, rfl, h7, d7⟩
        have H7 := h7.under hsat
        have hside7 := hside.trans d7
        have hag : Rd w7 v (enc t ++ l.drop 32) := h7.bsRd
        have hfull := Hfull.out w7 H7.right.right.right.right
        have heq := equal_any w7 v _ _ _ hag hfull
        clear hcall hsat cb0 cb1 cb2 cb3 cb4 cb5 cb6 hz h7 d7 hside hag hfull
        by_cases he : enc t ++ l.drop 32 = l
        · rw [show decide (enc t ++ l.drop 32 = l) = true by simpa using he] at heq
          have hdec : decodeF l = some (t, l.drop 32) := Hdy.out Hok.out he
          have Hdec := SL.hid hdec
          have hcb : ∀ o, w7.cell? ⟨b5, o, none⟩ = t.cells[o]? := fun o => H7.front3.cell o
          have cb0 := hcb 0; have cb1 := hcb 1; have cb2 := hcb 2; have cb3 := hcb 3; have cb4 := hcb 4; have cb5 := hcb 5; have cb6 := hcb 6
          simp only [Tg.cells] at cb0 cb1 cb2 cb3 cb4 cb5 cb6
          have Hrest7 : Hid (Rd w7 (.slice (some ⟨g, 32, none⟩) 480 (cap - 32)) (l.drop 32)) := by
            have hdl : (l.drop 32).length = 480 := by rw [List.length_drop, Hl.out]
            have := rd_cells (w := w7) (g := g) (o := 32) (c := cap - 32) (l := l.drop 32) fun o h => by
              have hc := (H7.right.right.right.right.addEmp.to (star_comm _ _)).cellOld (Hb.out (32 + o) (by omega))
              rw [hc]
              simp [List.getD]
            rwa [hdl] at this
          clear hcb he hdec
          go_wp2_with (go_at_call 106; (with_reducible refine heq.mono ?_); rintro e w8 ⟨rfl, rfl⟩)
          obtain ⟨i0, hi, hz, hs0, hb0⟩ := info_parts info_u8
          obtain ⟨B3, hB3⟩ : ∃ X, X = pt b5 (.cells t.cells 121 (0, 0)) * (fieldsA fb * whole w) := ⟨_, rfl⟩
          have K7 : Sat w7.drew (sl 5 1 (.slice none 0 0) 0 [] * (pt z2 (.cells Tg.zero.cells 121 (0, 0)) * B3)) := (Sat.slNil (F := pt z2 (.cells Tg.zero.cells 121 (0, 0)) * B3) (H7.right.to (by rw [hB3]; ac_rfl)) _ _)
          have hrl2 : Rds w7.drew 1 (.slice (some ⟨g, 32, none⟩) 480 (cap - 32)) 480 ((l.drop 32).map Go.SL.u8) := by
            have := Hrest7.out; unfold Rd at this; rwa [List.length_drop, Hl.out] at this
          obtain ⟨v', w8, hrun, h8, d8⟩ := Sat.append (P := Tryz.prog) (ty := 22) Tryz.underlying22 hi hz hs0 hb0 rfl K7 hrl2 (u8_one _) (by unfold maxLen; omega) (by omega)
          have hbs : Sat w8 (bs 5 v' (l.drop 32) * (pt z2 (.cells Tg.zero.cells 121 (0, 0)) * B3)) := h8.to (by
            rw [bs, List.length_drop, Hl.out]; rfl)
          obtain ⟨va', vc', rfl⟩ := sl_shape hbs
          have hz8 : ∀ o, w8.cell? ⟨z2, o, none⟩ = Tg.zero.cells[o]? := fun o => hbs.front2.cell o
          have zz0 : w8.cell? ⟨z2, 0, none⟩ = some (.int .u32 0) := hz8 0
          have zz1 : w8.cell? ⟨z2, 1, none⟩ = some (.int .u64 0) := hz8 1
          have zz2 : w8.cell? ⟨z2, 2, none⟩ = some (.int .u64 0) := hz8 2
          have zz3 : w8.cell? ⟨z2, 3, none⟩ = some (.int .u64 0) := hz8 3
          have zz4 : w8.cell? ⟨z2, 4, none⟩ = some (.int .i64 0) := hz8 4
          have zz5 : w8.cell? ⟨z2, 5, none⟩ = some (.int .i64 0) := hz8 5
          have zz6 : w8.cell? ⟨z2, 6, none⟩ = some (.int .i64 0) := hz8 6
          have fz0 : w8.frozen? ⟨z2, 0, none⟩ = false := hbs.front2.frozen 0
          have fz1 : w8.frozen? ⟨z2, 1, none⟩ = false := hbs.front2.frozen 1
          have fz2 : w8.frozen? ⟨z2, 2, none⟩ = false := hbs.front2.frozen 2
          have fz3 : w8.frozen? ⟨z2, 3, none⟩ = false := hbs.front2.frozen 3
          have fz4 : w8.frozen? ⟨z2, 4, none⟩ = false := hbs.front2.frozen 4
          have fz5 : w8.frozen? ⟨z2, 5, none⟩ = false := hbs.front2.frozen 5
          have fz6 : w8.frozen? ⟨z2, 6, none⟩ = false := hbs.front2.frozen 6
          have K9 := ((((((hbs.front2.setCell 0 (.int .u32 t.ep)).setCell 1 (.int .u64 t.st)).setCell 2 (.int .u64 t.sq)).setCell 3 (.int .u64 t.fl)).setCell 4 (.int .i64 t.ix)).setCell 5 (.int .i64 t.ct)).setCell 6 (.int .i64 t.id)
          have S9 := K9.right.right
          have S8 := hbs.right.right
          have S7 := K7.right.right
          have gb : ∀ o w', Sat w' B3 → w'.cell? ⟨b5, o, none⟩ = t.cells[o]? := fun o w' h => (hB3 ▸ h).cell o
          have gb0 : ∀ w', Sat w' B3 → w'.cell? ⟨b5, 0, none⟩ = some (.int .u32 t.ep) := gb 0
          have gb1 : ∀ w', Sat w' B3 → w'.cell? ⟨b5, 1, none⟩ = some (.int .u64 t.st) := gb 1
          have gb2 : ∀ w', Sat w' B3 → w'.cell? ⟨b5, 2, none⟩ = some (.int .u64 t.sq) := gb 2
          have gb3 : ∀ w', Sat w' B3 → w'.cell? ⟨b5, 3, none⟩ = some (.int .u64 t.fl) := gb 3
          have gb4 : ∀ w', Sat w' B3 → w'.cell? ⟨b5, 4, none⟩ = some (.int .i64 t.ix) := gb 4
          have gb5 : ∀ w', Sat w' B3 → w'.cell? ⟨b5, 5, none⟩ = some (.int .i64 t.ct) := gb 5
          have gb6 : ∀ w', Sat w' B3 → w'.cell? ⟨b5, 6, none⟩ = some (.int .i64 t.id) := gb 6
          have Hrun := SL.hid hrun
          have HB3 := SL.hid hB3
          clear hrun gb h8 hz8 hB3 hi hz hs0 hb0 hrl2 K7 H7 heq cb0 cb1 cb2 cb3 cb4 cb5 cb6
          have S9d := S9.drew
          go_region_held3 (fun w' => Sat w' B3) (first | (with_reducible exact S7) | (with_reducible exact S8) | (with_reducible exact S9) | (with_reducible exact S9d)) (first
            | (refine step_append_run Hrun.out rfl _ _ rfl rfl (by rfl) (by rfl) ?_))
          go_wp2
          have K10 : Sat ((((((((w8.setCell ⟨z2, 0, none⟩ (.int .u32 t.ep)).setCell ⟨z2, 1, none⟩ (.int .u64 t.st)).setCell ⟨z2, 2, none⟩ (.int .u64 t.sq)).setCell ⟨z2, 3, none⟩ (.int .u64 t.fl)).setCell ⟨z2, 4, none⟩ (.int .i64 t.ix)).setCell ⟨z2, 5, none⟩ (.int .i64 t.ct)).setCell ⟨z2, 6, none⟩ (.int .i64 t.id))) (pt z2 (.cells t.cells 121 (0, 0)) * (bs 5 (.slice va' (l.length - 32) vc') (l.drop 32) * B3)) := by
            rw [List.length_drop] at K9; exact K9
          refine bodyPost_ret (dec_results rfl rfl rfl K10) rfl ?_
          rw [Hdec.out]
          refine ⟨_, rfl, ?_, (((((((hside7.drew.trans d8).setCell _ _).setCell _ _).setCell _ _).setCell _ _).setCell _ _).setCell _ _).setCell _ _⟩
          rw [HB3.out] at K10
          exact K10.right.drop2.drop2
        · rw [show decide (enc t ++ l.drop 32 = l) = false by simpa using he] at heq
          have hdec : decodeF l = none := Hdz.out he
          have Hdec := SL.hid hdec
          have hzh : w7.heap[z2]? = some (.cells Tg.zero.cells 121 (0, 0)) := H7.front4.heap
          have H8 := H7.front4.setRow (cs' := Tg.zero.cells)
          have hs8 := hside7.setRow z2 Tg.zero.cells
          clear he hdec H7
          go_wp2_with (first
            | (go_at_call 106; (with_reducible refine heq.mono ?_); rintro e w8 ⟨rfl, rfl⟩)
            | (refine wpList_store_row rfl 121 (.tmp 2) (.tmp 61) rfl z2 Tg.zero.cells rfl rfl 121 Tg.zero.cells hzh (info_tag _) rfl (tag_one _) ?_))
          refine bodyPost_ret (dec_results rfl rfl rfl H8) rfl ?_
          rw [Hdec.out]
          exact ⟨rfl, H8.right.right.right.right, hs8⟩
end Go.Proofs.YtdafdidmbeecfaaGreatDoor
end
section
namespace Go.SL
set_option linter.unusedVariables false
set_option linter.unusedSimpArgs false
open Go.RowKit
def ringX (g r : Nat) (l : List Int) : Assn := pt r (.cells #[.slice (some ⟨g, 0, none⟩) l.length l.length] 139 (0, 0)) * pt g (.cells (ints l) 3 (0, 0))
def ringA (r : Nat) (l : List Int) : Assn := ex fun g => ringX g r l
theorem Sat.ringOpen {w : World} {r : Nat} {l : List Int} {F : Assn} (h : Sat w (ringA r l * F)) : ∃ g, Sat w (pt r (.cells #[.slice (some ⟨g, 0, none⟩) l.length l.length] 139 (0, 0)) * (pt g (.cells (ints l) 3 (0, 0)) * F)) := by
  obtain ⟨g, h⟩ := Sat.ex_star_iff.1 h
  exact ⟨g, h.to (star_assoc _ _ _)⟩
theorem Sat.ringShut {w : World} {g r : Nat} {l : List Int} {F : Assn} (h : Sat w (pt r (.cells #[.slice (some ⟨g, 0, none⟩) l.length l.length] 139 (0, 0)) * (pt g (.cells (ints l) 3 (0, 0)) * F))) : Sat w (ringA r l * F) :=
  Sat.ex_star_iff.2 ⟨g, h.to (star_assoc _ _ _).symm⟩
end Go.SL
namespace Go.Proofs.YtdafdidmbeecfaaGreatDoor
set_option linter.unusedVariables false
set_option linter.unusedSimpArgs false
open Go.RowKit Go.SL
theorem info_int : (Tryz.prog.info? 3).map (fun i => (i.zero, i.size, i.bytes)) = some (some (.int .i64 0), 1, 8) := by kernel_rfl
theorem make_ints (n : Nat) (hn : n ≤ 1048576) (w : World) : (Instr.makeSlice 45 (.int .i64 n) (.int .i64 n)).run Tryz.prog w =
    .ok (.slice (some ⟨w.heap.size, 0, none⟩) n n) (w.alloc (.cells (ints (List.replicate n 0)) 3 (0, 0))) := by
  obtain ⟨i, hi, hz, hs, hb⟩ := info_parts info_int
  have := run_make (P := Tryz.prog) w 45 3 i _ Tryz.underlying45 hi hz .i64 .i64 n n (by omega) (by omega) (by rw [hb]; omega) (by omega)
  rw [this, hs]
  simp only [Int.toNat_natCast]
  rw [made_ints]
theorem ringLen_any (w : World) (r : Nat) (l : List Int) (F : Assn) (h : Sat w (ringA r l * F)) :
    Calls Tryz.prog 52 #[.pointer (some ⟨r, 0, none⟩)] w (IntIs l.length w) := by
  obtain ⟨g, h⟩ := h.ringOpen
  have hc : w.cell? ⟨r, 0, none⟩ = some (.slice (some ⟨g, 0, none⟩) l.length l.length) := h.cell 0
  clear h
  go_enter Tryz.func52, Tryz.ntmps52
  go_wp2
  go_ret
  exact ⟨rfl, rfl⟩
theorem emod_of_tmod {a n : Int} (hn : 0 < n) : a % n = if a.tmod n < 0 then a.tmod n + n else a.tmod n := by
  rw [Int.tmod_eq_emod]
  have h1 := Int.emod_nonneg a (by omega : n ≠ 0)
  have h2 := Int.emod_lt_of_pos a hn
  split <;> split <;> omega
theorem place_any (w : World) (r : Nat) (l : List Int) (a : Int) (F : Assn) (h : Sat w (ringA r l * F)) (h0 : 0 < l.length) (h1 : l.length ≤ 1048576) :
    Calls Tryz.prog 85 #[.pointer (some ⟨r, 0, none⟩), .int .i64 a] w (IntIs (a % (l.length : Int)) w) := by
  obtain ⟨g, h⟩ := h.ringOpen
  have hc : w.cell? ⟨r, 0, none⟩ = some (.slice (some ⟨g, 0, none⟩) l.length l.length) := h.cell 0
  have hn0 : 0 < (l.length : Int) := by omega
  have hn1 : (l.length : Int) ≤ 1048576 := by omega
  have he := emod_of_tmod (a := a) hn0
  have ht1 : -(l.length : Int) < a.tmod l.length ∧ a.tmod l.length < l.length := by
    rw [Int.tmod_eq_emod]
    have h1 := Int.emod_nonneg a (by omega : (l.length : Int) ≠ 0)
    have h2 := Int.emod_lt_of_pos a hn0
    split <;> omega
  obtain ⟨ht1, ht2⟩ := ht1
  rw [he]
  clear h he
  have ht3 : -1048576 ≤ a.tmod l.length := by omega
  have ht4 : a.tmod l.length ≤ 1048576 := by omega
  by_cases hlt : a.tmod l.length < 0
  · rw [if_pos hlt]
    go_enter Tryz.func85, Tryz.ntmps85
    go_wp2
    go_ret
    exact ⟨rfl, rfl⟩
  · rw [if_neg hlt]
    go_enter Tryz.func85, Tryz.ntmps85
    go_wp2
    go_ret
    exact ⟨rfl, rfl⟩
theorem mod_nat (a : Int) {n : Nat} (h0 : 0 < n) : ∃ k : Nat, a % (n : Int) = (k : Int) ∧ k < n := by
  obtain ⟨k, hk⟩ := Int.eq_ofNat_of_zero_le (Int.emod_nonneg a (by omega : (n : Int) ≠ 0))
  exact ⟨k, hk, by have := Int.emod_lt_of_pos a (by omega : (0 : Int) < n); omega⟩
theorem get_any (w : World) (r : Nat) (l : List Int) (a : Int) (F : Assn) (h : Sat w (ringA r l * F)) (h0 : 0 < l.length) (h1 : l.length ≤ 1048576) :
    Calls Tryz.prog 82 #[.pointer (some ⟨r, 0, none⟩), .int .i64 a] w fun e w' => e = .returned (.int .i64 (l.getD (a % (l.length : Int)).toNat 0)) ∧ Sat w' (whole w) ∧ Side w w' := by
  obtain ⟨k, hk, hkl⟩ := mod_nat a h0
  have hp := place_any w r l a F h h0 h1
  rw [hk] at hp
  obtain ⟨g, hg⟩ := h.ringOpen
  have hc : w.cell? ⟨r, 0, none⟩ = some (.slice (some ⟨g, 0, none⟩) l.length l.length) := hg.cell 0
  have hv : w.cell? ⟨g, k, none⟩ = some (.int .i64 (l.getD k 0)) := (hg.front2.cell k).trans (get_ints_lt hkl)
  have hkl' : (k : Int) < (l.length : Int) := by omega
  have hpd : Calls Tryz.prog 85 #[.pointer (some ⟨r, 0, none⟩), .int .i64 a] w.drew (IntIs k w.drew) := by
    have := place_any w.drew r l a F h h0 h1
    rwa [hk] at this
  rw [hk, Int.toNat_natCast]
  generalize l.getD k 0 = v at hv
  clear h hg hk
  go_enter Tryz.func82, Tryz.ntmps82
  go_wp2_with fail
  go_region_held3 (fun w' => w'.cell? ⟨r, 0, none⟩ = some (.slice (some ⟨g, 0, none⟩) l.length l.length) ∧ w'.cell? ⟨g, k, none⟩ = some (.int .i64 v)) (first | assumption | exact ⟨hc, hv⟩) (first
    | (go_at_call 85; (with_reducible refine hpd.mono ?_); rintro e w1 ⟨rfl, rfl⟩))
  go_wp2
  go_ret
  exact ⟨rfl, (Sat.whole w).drew, (Side.refl w).drew⟩
set_option maxRecDepth 100000 in
theorem set_any (w : World) (r : Nat) (l : List Int) (a x : Int) (F : Assn) (h : Sat w (ringA r l * F)) (h0 : 0 < l.length) (h1 : l.length ≤ 1048576) :
    Calls Tryz.prog 97 #[.pointer (some ⟨r, 0, none⟩), .int .i64 a, .int .i64 x] w fun e w' => e = .returned (.tuple #[]) ∧ Sat w' (ringA r (l.set (a % (l.length : Int)).toNat x) * F) ∧ Side w w' := by
  obtain ⟨k, hk, hkl⟩ := mod_nat a h0
  have hpd : Calls Tryz.prog 85 #[.pointer (some ⟨r, 0, none⟩), .int .i64 a] w.drew (IntIs k w.drew) := by
    have := place_any w.drew r l a F h h0 h1
    rwa [hk] at this
  obtain ⟨g, hg⟩ := h.ringOpen
  have hc : w.cell? ⟨r, 0, none⟩ = some (.slice (some ⟨g, 0, none⟩) l.length l.length) := hg.cell 0
  have hv : w.cell? ⟨g, k, none⟩ = some (.int .i64 (l.getD k 0)) := (hg.front2.cell k).trans (get_ints_lt hkl)
  have hf : w.frozen? ⟨g, k, none⟩ = false := hg.front2.frozen k
  have hkl' : (k : Int) < (l.length : Int) := by omega
  have h2 := (hg.front2.setCell k (.int .i64 x)).front2
  have hc2 := h2.cell 0
  have H2 := SL.hid h2
  rw [hk, Int.toNat_natCast]
  generalize l.getD k 0 = v at hv
  clear h hg hk h2
  go_enter Tryz.func97, Tryz.ntmps97
  go_region_held3 (fun w' => w'.cell? ⟨r, 0, none⟩ = some (.slice (some ⟨g, 0, none⟩) l.length l.length)) (first | assumption | exact hc | exact hc2) (first
    | (go_at_call 85; (with_reducible refine hpd.mono ?_); rintro e w1 ⟨rfl, rfl⟩))
  go_wp2
  go_end0
  have e : (l.set k x).length = l.length := List.length_set
  refine ⟨rfl, Sat.ringShut (g := g) ?_, ((Side.refl w).setCell _ _).drew⟩
  rw [e, ← set_ints]
  exact H2.out
theorem go_any (w : World) (r : Nat) (l : List Int) (a b : Int) (F : Assn) (h : Sat w (ringA r l * F)) (h0 : 0 < l.length) (h1 : l.length ≤ 1048576) :
    Calls Tryz.prog 59 #[.pointer (some ⟨r, 0, none⟩), .int .i64 a, .int .i64 b] w (IntIs ((a + b) % (l.length : Int)) w) := by
  have p1 := place_any w r l a F h h0 h1
  have p2 := place_any w r l b F h h0 h1
  have p3 := place_any w r l (a % (l.length : Int) + b % (l.length : Int)) F h h0 h1
  rw [← Int.add_emod] at p3
  have a1 := Int.emod_nonneg a (by omega : (l.length : Int) ≠ 0)
  have a2 := Int.emod_lt_of_pos a (by omega : (0 : Int) < l.length)
  have b1 := Int.emod_nonneg b (by omega : (l.length : Int) ≠ 0)
  have b2 := Int.emod_lt_of_pos b (by omega : (0 : Int) < l.length)
  have a3 : a % (l.length : Int) ≤ 1048576 := by omega
  have b3 : b % (l.length : Int) ≤ 1048576 := by omega
  generalize (a + b) % (l.length : Int) = s at p3 ⊢
  generalize a % (l.length : Int) = ra at *
  generalize b % (l.length : Int) = rb at *
  clear h a2 b2
  go_enter Tryz.func59, Tryz.ntmps59
  go_wp2_with fail
  refine p1.mono ?_
  rintro e w1 ⟨rfl, rfl⟩
  clear p1
  go_wp2_with fail
  refine p2.mono ?_
  rintro e w1 ⟨rfl, rfl⟩
  clear p2
  go_wp2_with fail
  refine p3.mono ?_
  rintro e w1 ⟨rfl, rfl⟩
  clear p3
  go_wp2
  go_ret
  exact ⟨rfl, rfl⟩
def RingNewQ (n : Nat) (v : Int) (w : World) (e : Ending) (w' : World) : Prop := ∃ r, e = .returned (.pointer (some ⟨r, 0, none⟩)) ∧ Sat w' (ringA r (List.replicate n v) * whole w) ∧ Side w w'
def RingNewRel (g r : Nat) (n : Nat) (v : Int) (w : World) (u : Value) (wr : World) : Prop :=
  ∃ k : Nat, k ≤ n ∧ u = .int .i64 k ∧ Sat wr (ringX g r (List.replicate k v ++ List.replicate (n - k) 0) * whole w) ∧ Side w wr
theorem fill_next (n k : Nat) (v : Int) (h : k < n) : (List.replicate k v ++ List.replicate (n - k) (0 : Int)).set k v = List.replicate (k + 1) v ++ List.replicate (n - (k + 1)) 0 := by
  have e : n - k = (n - (k + 1)) + 1 := by omega
  rw [e, List.replicate_succ, List.set_append_right _ _ (by simp)]
  simp [List.replicate_succ']
set_option maxRecDepth 100000 in
set_option maxHeartbeats 1000000 in
theorem ringNew_any (n : Nat) (v : Int) (w : World) (h1 : 1 ≤ n) (h2 : n ≤ 1048576) :
    Calls Tryz.prog 68 #[.int .i64 n, .int .i64 v] w (RingNewQ n v w) := by
  have hn1 : (1 : Int) ≤ (n : Int) := by omega
  have hn2 : (n : Int) ≤ 1048576 := by omega
  have hmk := make_ints n h2 w
  have hA := ((Sat.whole w).alloc (.cells (ints (List.replicate n 0)) 3 (0, 0))).alloc (.cells #[.slice (some ⟨w.heap.size, 0, none⟩) n n] 139 (0, 0))
  have hs := ((Side.refl w).alloc (.cells (ints (List.replicate n 0)) 3 (0, 0))).alloc (.cells #[.slice (some ⟨w.heap.size, 0, none⟩) n n] 139 (0, 0))
  rw [World.size_alloc] at hA
  go_enter Tryz.func68, Tryz.ntmps68
  go_wp2
  generalize (w.alloc (.cells (ints (List.replicate n 0)) 3 (0, 0))).alloc (.cells #[.slice (some ⟨w.heap.size, 0, none⟩) n n] 139 (0, 0)) = w1 at hA hs ⊢
  generalize w.heap.size + 1 = r at hA ⊢
  generalize w.heap.size = g at hA ⊢
  clear hmk
  go_loopw [18] (fun u wr => RingNewRel g r n v w u wr) (fun u _ => n - (intOf u).toNat)
  case atStart => exact ⟨0, Nat.zero_le _, rfl, hA.to (by unfold ringX; simp only [List.replicate_zero, List.nil_append, Nat.sub_zero, List.length_replicate]; ac_rfl), hs⟩
  case round =>
    obtain ⟨k, hk, rfl, hsat, hside⟩ := hrel
    clear hA hs
    have hl : (List.replicate k v ++ List.replicate (n - k) (0 : Int)).length = n := by simp; omega
    have h3 : Sat wr (pt g (.cells (ints (List.replicate k v ++ List.replicate (n - k) 0)) 3 (0, 0)) * (pt r (.cells #[.slice (some ⟨g, 0, none⟩) n n] 139 (0, 0)) * whole w)) := by
      unfold ringX at hsat; rw [hl] at hsat; exact hsat.to (by ac_rfl)
    have hc := h3.front2.cell 0
    by_cases hlt : k < n
    · have hlt' : (k : Int) < (n : Int) := by omega
      have hv : wr.cell? ⟨g, k, none⟩ = some (.int .i64 ((List.replicate k v ++ List.replicate (n - k) (0 : Int)).getD k 0)) := (h3.cell k).trans (get_ints_lt (by rw [hl]; exact hlt))
      have hf := h3.frozen k
      generalize (List.replicate k v ++ List.replicate (n - k) (0 : Int)).getD k 0 = q at hv
      have h4 := h3.setCell k (.int .i64 v)
      rw [set_ints, fill_next n k v hlt] at h4
      have H4 := SL.hid h4; have Hl := SL.hid hl
      clear h3 hsat h4 hl
      go_wp2
      go_roundw
      case rel =>
        refine ⟨k + 1, by omega, by go_num, H4.out.to ?_, hside.setCell _ _⟩
        have e : (List.replicate (k + 1) v ++ List.replicate (n - (k + 1)) (0 : Int)).length = n := by simp; omega
        unfold ringX; rw [e]; ac_rfl
      case measure => simp [intOf]; omega
    · obtain rfl : k = n := by omega
      rw [Nat.sub_self, List.replicate_zero, List.append_nil] at hsat
      have H4 := SL.hid hsat
      clear h3 hsat hl hlt
      go_wp2
      go_ret
      exact ⟨r, rfl, H4.out.weak fun _ p => ⟨g, p⟩, hside⟩
end Go.Proofs.YtdafdidmbeecfaaGreatDoor
namespace Go.Proofs.YtdafdidmbeecfaaGreatDoor
set_option linter.unusedVariables false
set_option linter.unusedSimpArgs false
open Go.RowKit Go.SL
attribute [local go_sem] Oper.semAt_some
def FromIt (b5 b3 b7 r : Nat) (m first : Nat) : Assn :=
  pt b5 (.cells #[.int .i64 (m : Int)] 3 (0, 0)) * (pt b3 (.cells #[.pointer (some ⟨r, 0, none⟩)] 95 (0, 0)) * pt b7 (.cells #[.int .i64 (first : Int)] 3 (0, 0)))
def FromQ (r : Nat) (l : List Int) (m first : Nat) (F : Assn) (w : World) (e : Ending) (w' : World) : Prop :=
  ∃ b5 b3 b7, e = .returned (.func (.func 118) #[] #[.pointer (some ⟨b5, 0, none⟩), .pointer (some ⟨b3, 0, none⟩), .pointer (some ⟨b7, 0, none⟩)]) ∧ Sat w' (FromIt b5 b3 b7 r m first * (ringA r l * F)) ∧ Side w w'
set_option maxRecDepth 100000 in
set_option maxHeartbeats 1000000 in
theorem from_any (w : World) (r : Nat) (l : List Int) (a : Int) (m : Nat) (F : Assn) (h : Sat w (ringA r l * F)) (h0 : 0 < l.length) (h1 : l.length ≤ 1048576) (hm : m ≤ l.length) :
    Calls Tryz.prog 102 #[.pointer (some ⟨r, 0, none⟩), .int .i64 a, .int .i64 m] w (FromQ r l m (a % (l.length : Int)).toNat F w) := by
  obtain ⟨k, hk, hkl⟩ := mod_nat a h0
  have hA := (h.alloc (.cells #[.pointer (some ⟨r, 0, none⟩)] 95 (0, 0))).alloc (.cells #[.int .i64 m] 3 (0, 0))
  have hs := ((Side.refl w).alloc (.cells #[.pointer (some ⟨r, 0, none⟩)] 95 (0, 0))).alloc (.cells #[.int .i64 m] 3 (0, 0))
  rw [World.size_alloc] at hA
  rw [hk, Int.toNat_natCast]
  have hm0 : 0 ≤ (m : Int) := by omega
  have hm1 : (m : Int) ≤ (l.length : Int) := by omega
  go_enter Tryz.func102, Tryz.ntmps102
  go_wp2_with fail
  generalize (w.alloc (.cells #[.pointer (some ⟨r, 0, none⟩)] 95 (0, 0))).alloc (.cells #[.int .i64 m] 3 (0, 0)) = w1 at hA hs ⊢
  generalize w.heap.size + 1 = b5 at hA ⊢
  generalize w.heap.size = b3 at hA ⊢
  have hR : Sat w1 (ringA r l * (pt b3 (.cells #[.pointer (some ⟨r, 0, none⟩)] 95 (0, 0)) * (pt b5 (.cells #[.int .i64 m] 3 (0, 0)) * F))) := hA.to (by ac_rfl)
  have c5 : w1.cell? ⟨b5, 0, none⟩ = some (.int .i64 m) := hA.cell 0
  have f5 : w1.frozen? ⟨b5, 0, none⟩ = false := hA.frozen 0
  have c3 : w1.cell? ⟨b3, 0, none⟩ = some (.pointer (some ⟨r, 0, none⟩)) := hA.front2.cell 0
  have hlt5 : b5 < w1.heap.size := hA.lt
  have hlt3 : b3 < w1.heap.size := hA.front2.lt
  obtain ⟨BIG, hBIG⟩ : ∃ X, X = pt b5 (.cells #[.int .i64 m] 3 (0, 0)) * (pt b3 (.cells #[.pointer (some ⟨r, 0, none⟩)] 95 (0, 0)) * (ringA r l * F)) := ⟨_, rfl⟩
  have g5 : ∀ w', Sat w' BIG → w'.cell? ⟨b5, 0, none⟩ = some (.int .i64 m) := fun w' h => (hBIG ▸ h).cell 0
  have g3 : ∀ w', Sat w' BIG → w'.cell? ⟨b3, 0, none⟩ = some (.pointer (some ⟨r, 0, none⟩)) := fun w' h => (hBIG ▸ h).front2.cell 0
  have hA1 : Sat w1.drew BIG := hBIG ▸ hA
  have hA2 : Sat (w1.drew.alloc (.cells #[.int .i64 0] 3 (0, 0))) BIG := (hA1.alloc _).right
  have hA3 : Sat (w1.drew.alloc (.cells #[.int .i64 k] 3 (0, 0))) BIG := (hA1.alloc _).right
  have hA4 : Sat ((w1.setCell ⟨b5, 0, none⟩ (.int .i64 m)).alloc (.cells #[.int .i64 k] 3 (0, 0))).drew (pt w1.heap.size (.cells #[.int .i64 k] 3 (0, 0)) * BIG) := by
    have h := (hA.setCell 0 (.int .i64 m)).alloc (.cells #[.int .i64 k] 3 (0, 0))
    rw [show (w1.setCell ⟨b5, 0, none⟩ (.int .i64 m)).heap.size = w1.heap.size by simp [World.setCell]] at h
    rw [hBIG]
    exact h.to (by simp only [List.setIfInBounds_toArray, List.set_cons_zero])
  have hRB : ∀ w', Sat w' BIG → Sat w' (ringA r l * (pt b3 (.cells #[.pointer (some ⟨r, 0, none⟩)] 95 (0, 0)) * (pt b5 (.cells #[.int .i64 m] 3 (0, 0)) * F))) := fun w' h => (hBIG ▸ h).to (by ac_rfl)
  have Hp : Hid (∀ w', Sat w' BIG → Calls Tryz.prog 85 #[.pointer (some ⟨r, 0, none⟩), .int .i64 a] w' (IntIs k w')) := fun w' h => by
    have := place_any w' r l a _ (hRB w' h) h0 h1
    rwa [hk] at this
  have Hl : Hid (∀ w', Sat w' BIG → Calls Tryz.prog 52 #[.pointer (some ⟨r, 0, none⟩)] w' (IntIs l.length w')) := fun w' h => ringLen_any w' r l _ (hRB w' h)
  have hv0 : (if l.length < m then (l.length : Int) else (m : Int)) = (m : Int) := if_neg (by omega)
  have hv1 : (if (l.length : Int) < (if (m : Int) < 0 then 0 else (m : Int)) then (l.length : Int) else if (m : Int) < 0 then 0 else (m : Int)) = (m : Int) := by
    rw [if_neg (by omega : ¬ (m : Int) < 0), if_neg (by omega)]
  have Hv0 := SL.hid hv0
  have Hv1 := SL.hid hv1
  have HB := SL.hid hBIG
  clear h hk hR hA hBIG c5 c3 hRB hv0 hv1
  go_region_held3 (fun w' => Sat w' BIG) (first | assumption | (rw [Hv0.out]; exact hA4.right) | (rw [Hv1.out]; exact hA4.right) | exact hA4.right) (first
    | (go_at_call 85; (with_reducible refine (Hp.out _ (by assumption)).mono ?_); rintro e w2 ⟨rfl, rfl⟩)
    | (go_at_call 52; (with_reducible refine (Hl.out _ (by assumption)).mono ?_); rintro e w2 ⟨rfl, rfl⟩))
  all_goals
    first | rw [Hv0.out] | rw [Hv1.out]
    go_wp2
    go_ret
    refine ⟨b5, b3, w1.heap.size, rfl, ?_, ((hs.setCell _ _).alloc _).drew⟩
    exact hA4.to (by rw [HB.out]; unfold FromIt; ac_rfl)
def places (n first m : Nat) : List Nat := (List.range m).map fun i => (first + i) % n
theorem places_length (n first m : Nat) : (places n first m).length = m := by simp [places]
theorem places_snoc (n first m k : Nat) (h : k < m) : (places n first m).take k ++ [(first + k) % n] = (places n first m).take (k + 1) := by
  rw [List.take_succ_eq_append_getElem (by rw [places_length]; exact h)]
  simp [places]
def fromT (l : List Int) (p : Nat) (vs : Array Value) : Assn := fact (vs = #[.int .i64 (p : Int), .int .i64 (l.getD p 0)])
def FromRel (A : List Nat → Assn) (n first m : Nat) (X : Assn) (w0 : World) (i : Value) (wr : World) : Prop :=
  ∃ k : Nat, k ≤ m ∧ i = .int .i64 (k : Int) ∧ Side w0 wr ∧ Sat wr (A ((places n first m).take k) * X)
set_option maxRecDepth 100000 in
set_option maxHeartbeats 2000000 in
theorem from_iter (n : Nat) (b5 b3 b7 r : Nat) (l : List Int) (m first : Nat) (h0 : 0 < l.length) (h1 : l.length ≤ 1048576) (hm : m ≤ l.length) (hf : first < l.length) :
    IteratesC (withR (ringA r l)) Fence.wide n Tryz.prog 118 #[.pointer (some ⟨b5, 0, none⟩), .pointer (some ⟨b3, 0, none⟩), .pointer (some ⟨b7, 0, none⟩)] (FromIt b5 b3 b7 r m first) (fromT l)
      (fun ys => ys = places l.length first m) (fun ys => ys <+: places l.length first m) := by
  rintro lp _ Ax G w0 w ⟨A, rfl⟩ hY hs h0'
  have hB : Sat w (pt b5 (.cells #[.int .i64 (m : Int)] 3 (0, 0)) * (pt b3 (.cells #[.pointer (some ⟨r, 0, none⟩)] 95 (0, 0)) * (pt b7 (.cells #[.int .i64 (first : Int)] 3 (0, 0)) * (ringA r l * (A [] * G))))) := h0'.to (by unfold FromIt; dsimp only; ac_rfl)
  have c5 := hB.cell 0
  have hm1 : (m : Int) ≤ 1048576 := by omega
  have hl1 : (l.length : Int) ≤ 1048576 := by omega
  clear hB
  refine callsIn_of_wp Tryz.func118 rfl trivial ?_ rfl
  simp only [Tryz.ntmps118, List.size_toArray, List.length_cons, List.length_nil, Nat.reduceAdd, Nat.reduceSub, Array.replicate_succ, Array.replicate_zero, List.push_toArray, List.append_toArray, List.nil_append, List.cons_append]
  gi_wp2
  gi_loopw [8] (fun i wr => FromRel (fun ys => ringA r l * A ys) l.length first m (FromIt b5 b3 b7 r m first * G) w0 i wr) (fun i _ => m - (intOf i).toNat)
  case atStart => exact ⟨0, Nat.zero_le _, rfl, hs, h0'⟩
  case round =>
    clear h0' c5
    obtain ⟨k, hk, rfl, hside, hsat⟩ := hrel
    replace hsat : Sat wr ((ringA r l * A ((places l.length first m).take k)) * (FromIt b5 b3 b7 r m first * G)) := hsat
    have hB : Sat wr (pt b5 (.cells #[.int .i64 (m : Int)] 3 (0, 0)) * (pt b3 (.cells #[.pointer (some ⟨r, 0, none⟩)] 95 (0, 0)) * (pt b7 (.cells #[.int .i64 (first : Int)] 3 (0, 0)) * (ringA r l * (A ((places l.length first m).take k) * G))))) := hsat.to (by unfold FromIt; ac_rfl)
    by_cases hlt : k < m
    · have hlt' : (k : Int) < (m : Int) := by omega
      have c3 := hB.front2.cell 0
      have c7 := hB.front3.cell 0
      have hgo := go_any wr r l (first : Int) (k : Int) _ hB.front4 h0 h1
      have hpk : ((first : Int) + (k : Int)) % (l.length : Int) = (((first + k) % l.length : Nat) : Int) := by simp
      rw [hpk] at hgo
      have hpl : (first + k) % l.length < l.length := Nat.mod_lt _ h0
      have hen := places_snoc l.length first m k hlt
      have hpre : (places l.length first m).take k ++ [(first + k) % l.length] <+: places l.length first m := by rw [hen]; exact List.take_prefix _ _
      generalize (first + k) % l.length = p at hgo hpl hen hpre
      have hpl' : (p : Int) < (l.length : Int) := by omega
      obtain ⟨g, hg⟩ := hB.front4.ringOpen
      have cr := hg.cell 0
      have cv : wr.cell? ⟨g, p, none⟩ = some (.int .i64 (l.getD p 0)) := (hg.front2.cell p).trans (get_ints_lt hpl)
      have hT : Sat wr ((ringA r l * A ((places l.length first m).take k)) * (fromT l p #[.int .i64 (p : Int), .int .i64 (l.getD p 0)] * (FromIt b5 b3 b7 r m first * G))) :=
        (Sat.fact_iff.2 ⟨rfl, hsat⟩ : Sat wr (fact _ * _)).to (by unfold fromT; ac_rfl)
      obtain ⟨fn, tmps, assign, body, hy, hR⟩ := hY _ p #[.int .i64 (p : Int), .int .i64 (l.getD p 0)] _ wr hpre hside hT
      have Hen := hid hen; have Hpre := hid hpre
      clear hT hsat hB hen hpre hg hpk
      generalize l.getD p 0 = v at cv hy
      gi_wp2_with fail
      refine callW hgo ?_
      rintro e w1 ⟨rfl, rfl⟩
      clear hgo
      gi_wp2
      refine ⟨fun h => (by cases h), hR.mono ?_⟩
      rintro e W' (⟨rfl, hs5, hsat5⟩ | ⟨rfl, hs5, hsat5⟩)
      · gi_wp2
        go_roundw
        case rel => exact ⟨k + 1, by omega, by go_num, hs5, by rw [← Hen.out]; exact hsat5⟩
        case measure => simp [intOf]; omega
      · gi_wp2
        refine bodyPost_ret (results_none rfl _ _ _) rfl ?_
        exact ⟨⟨_, rfl⟩, hs5, .inr ⟨_, Hpre.out, hsat5⟩⟩
    · obtain rfl : k = m := by omega
      have hfin : (places l.length first k).take k = places l.length first k := by
        have := places_length l.length first k
        exact List.take_of_length_le (by omega)
      rw [hfin] at hsat
      clear hB hfin
      gi_wp2
      go_end0
      exact ⟨⟨_, rfl⟩, hside, .inl ⟨_, rfl, hsat⟩⟩
end Go.Proofs.YtdafdidmbeecfaaGreatDoor
end

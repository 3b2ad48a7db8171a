/- journal: load, Read. -/
import Derived.Test.YtlfooilcngjeiaaGreatJa
namespace Go.Proofs.YtlfooilcngjeiaaGreat
set_option linter.unusedVariables false
set_option linter.unusedSimpArgs false
open Go.RowKit Go.SL
theorem tells_len (D : Dev) (a : Int) (h : (D.tells a).1 = 0) : (D.tells a).2.length = 512 := by
  unfold Dev.tells at h ⊢
  split
  · exact padTo_length _ _
  · rename_i hn
    rw [hn] at h
    simp only at h
    split
    · rename_i h2; rw [if_pos h2] at h; cases h
    · exact padTo_length _ _
theorem read_len (D : Dev) (a : Int) (h : (D.read a).1.1 = 0) : (D.read a).1.2.length = 512 := by
  unfold Dev.read at h ⊢
  split
  · rename_i h1
    rw [if_pos h1] at h
    split
    · rename_i h2; rw [if_pos h2] at h; exact tells_len _ _ h
    · rename_i h2; rw [if_neg h2] at h; cases h
  · rename_i h1; rw [if_neg h1] at h; cases h
set_option maxRecDepth 100000 in
set_option maxHeartbeats 2000000 in
theorem load_anyX (w : World) (S : Hp) (j d r t : Nat) (J : Jr) (D : Dev) (id place : Int) (F : Assn) (h : Sat w (jrX j d r t J * (devA S d D * (pool S * F)))) (hJ : J.Ok) (hD : D.Ok) :
    Calls Tryz.prog 41 #[ptV j, .int .i64 id, .int .i64 place] w (LoadXQ S j d r t (J.load D id place) F w) := by
  have hx : Sat w (pt j (.cells (J.cells d r t) 72 (0, 0)) * (ringA r (ringL J.P) * (tableA t J.T * (devA S d D * (pool S * F))))) := h.to (by unfold jrX; ac_rfl)
  have c0 : w.cell? ⟨j, 0, none⟩ = some (ptV d) := hx.cell 0
  have c1 : w.cell? ⟨j, 1, none⟩ = some (ptV r) := hx.cell 1
  have hp0 := hJ.p0
  have hp1 := hJ.p1
  have hget := get_any w.drew r (ringL J.P) place _ hx.front2.drew (by rw [ringL_length]; exact hp0) (by rw [ringL_length]; omega)
  obtain ⟨k, hk, hkl⟩ := mod_nat place hp0
  rw [ringL_length, hk, Int.toNat_natCast, ringL_get hkl, ← hk] at hget
  obtain ⟨O, hO⟩ : ∃ O, O = J.load D id place := ⟨_, rfl⟩
  rw [← hO]
  have hlen := read_len D (place % (J.P : Int) + 1)
  obtain ⟨R, hR⟩ : ∃ R, R = D.read (place % (J.P : Int) + 1) := ⟨_, rfl⟩
  rw [← hR] at hlen
  have hrd : ∀ w', Sat w' (pt j (.cells (J.cells d r t) 72 (0, 0)) * (ringA r (ringL J.P) * (tableA t J.T * (devA S d D * (pool S * F))))) → Calls Tryz.prog 57 #[ptV d, .int .i64 (place % (J.P : Int) + 1)] w' (ReadQ S d R.2 R.1 (pt j (.cells (J.cells d r t) 72 (0, 0)) * (ringA r (ringL J.P) * (tableA t J.T * F))) w') := fun w' h' => by
    rw [hR]; exact read_any w' S d D _ _ (h'.to (by ac_rfl)) hD
  unfold Jr.load at hO
  rw [← hR] at hO
  have HO1 : Hid (R.1.1 ≠ 0 → O = ((2, []), { J with br := true }, R.2)) := fun q => by rw [hO]; simp only [if_neg q]
  have HO2 : Hid (R.1.1 = 0 → decodeF R.1.2 = none → O = ((2, []), { J with br := true }, R.2)) := fun q q2 => by rw [hO]; simp only [if_pos q, q2]
  have HO3 : Hid (R.1.1 = 0 → ∀ t b, decodeF R.1.2 = some (t, b) → t.id ≠ id → O = ((2, []), { J with br := true }, R.2)) := fun q t b q2 q3 => by rw [hO]; simp only [if_pos q, q2, if_neg q3]
  have HO4 : Hid (R.1.1 = 0 → ∀ t b, decodeF R.1.2 = some (t, b) → t.id = id → O = ((0, b), J, R.2)) := fun q t b q2 q3 => by rw [hO]; simp only [if_pos q, q2, if_pos q3]
  clear hO
  have Hrd := SL.hid hrd
  have Hlen := SL.hid hlen
  generalize place % (J.P : Int) + 1 = sec at *
  clear hk hkl hrd hR hlen
  obtain ⟨⟨rc, rl⟩, D'⟩ := R
  simp only at Hlen Hrd HO1 HO2 HO3 HO4
  go_enter Tryz.func41, Tryz.ntmps41
  go_wp2_with fail
  go_region_held3 (fun w' => w'.cell? ⟨j, 0, none⟩ = some (ptV d) ∧ w'.cell? ⟨j, 1, none⟩ = some (ptV r)) (first | (with_reducible exact ⟨a0, a1⟩) | (with_reducible exact ⟨b0, b1⟩) | exact ⟨c0, c1⟩) (first
    | (go_at_call 56; (with_reducible refine hget.mono ?_); rintro e w1 ⟨rfl, h1, d1⟩; have H1 := h1.keepW (Sat.drew hx); have a0 : w1.cell? ⟨j, 0, none⟩ = some (ptV d) := H1.cell 0; have a1 : w1.cell? ⟨j, 1, none⟩ = some (ptV r) := H1.cell 1; have hrd1 := Hrd.out w1 H1)
    | (go_at_call 57; (with_reducible refine hrd1.mono ?_); rintro e w2 ⟨dv, rfl, h2, d2⟩; have b0 : w2.cell? ⟨j, 0, none⟩ = some (ptV d) := h2.front4.cell 0; have b1 : w2.cell? ⟨j, 1, none⟩ = some (ptV r) := h2.front4.cell 1))
  have D2 := ((Side.refl w).drew.trans d1).trans d2
  have h3 : Sat w2 (ansA 5 (rc, rl) dv * (jrX j d r t J * (devA S d D' * (pool S * F)))) := h2.to (by unfold jrX; ac_rfl)
  clear h hx c0 c1 hget h1 d1 H1 a0 a1 hrd1 d2 b0 b1 h2 Hrd
  by_cases hrc : rc = 0
  · subst hrc
    have h4 := h3.ansYes
    have hl := Hlen.out rfl
    obtain ⟨g, cap, rfl, hcap, hcells⟩ := bs_at h4 (by omega) (by omega)
    rw [hl] at hcap hcells
    have hcapm : cap ≤ maxLen := by
      rcases h4.slCases with ⟨hv, _⟩ | ⟨g', cap', cur, hv, h5, h6, _⟩
      · cases hv
      · cases hv; exact h6
    have hdec := decode_any rl hl g cap hcap hcapm w2 hcells
    have Hl := SL.hid hl
    rw [hl]
    clear h3 hcells hl hcap hcapm
    match hd : decodeF rl with
    | none =>
      rw [hd] at hdec
      have ho := HO2.out rfl hd
      clear hd HO1 HO2 HO3 HO4
      go_wp2_with fail
      refine hdec.mono ?_
      rintro e w3 ⟨rfl, h5, d3⟩
      have H5 := (h5.keepW h4).right
      have H6 := H5.alloc (.cells Tg.zero.cells 59 (0, 0))
      have D5 := (D2.trans d3).alloc (.cells Tg.zero.cells 59 (0, 0))
      have hfl := fail_anyX _ j d r t J _ H6.right
      have Ho := SL.hid ho
      clear hdec h4 h5 H5 H6 ho
      simp only [Tg.cells, Tg.zero] at hfl D5 ⊢
      go_wp2_with fail
      refine hfl.mono ?_
      rintro e w4 ⟨rfl, h6, d4⟩
      clear hfl
      go_wp2
      go_ret2
      refine ⟨.slice none 0 0, by rw [Ho.out]; rfl, ?_, D5.trans d4⟩
      rw [Ho.out]
      exact Sat.ansNil h6 (show (2 : Int) ≠ 0 by decide)
    | some (t', b) =>
      rw [hd] at hdec
      by_cases hid' : t'.id = id
      · have ho := HO4.out rfl t' b hd hid'
        have Ho := SL.hid ho
        have hidb : (t'.id != id) = false := by simp [hid']
        clear hd HO1 HO2 HO3 HO4 ho hid'
        go_wp2_with fail
        refine hdec.mono ?_
        rintro e w3 ⟨v, rfl, h5, d3⟩
        have H5 := (h5.under h4).drop2
        have H6 := H5.alloc (.cells t'.cells 59 (0, 0))
        have D5 := (D2.trans d3).alloc (.cells t'.cells 59 (0, 0))
        clear hdec h4 h5 H5
        simp only [Tg.cells] at H6 D5 ⊢
        go_wp2
        go_ret2
        refine ⟨v, by rw [Ho.out]; rfl, ?_, D5⟩
        rw [Ho.out]
        exact Sat.ansOf H6.right
      · have ho := HO3.out rfl t' b hd hid'
        have Ho := SL.hid ho
        have hidb : (t'.id != id) = true := by simpa using hid'
        clear hd HO1 HO2 HO3 HO4 ho hid'
        go_wp2_with fail
        refine hdec.mono ?_
        rintro e w3 ⟨v, rfl, h5, d3⟩
        have H5 := (h5.under h4).right.right
        have H6 := H5.alloc (.cells t'.cells 59 (0, 0))
        have D5 := (D2.trans d3).alloc (.cells t'.cells 59 (0, 0))
        have hfl := fail_anyX _ j d r t J _ H6.right
        clear hdec h4 h5 H5 H6
        simp only [Tg.cells] at hfl D5 ⊢
        go_wp2_with fail
        refine hfl.mono ?_
        rintro e w4 ⟨rfl, h6, d4⟩
        clear hfl
        go_wp2
        go_ret2
        refine ⟨.slice none 0 0, by rw [Ho.out]; rfl, ?_, D5.trans d4⟩
        rw [Ho.out]
        exact Sat.ansNil h6 (show (2 : Int) ≠ 0 by decide)
  · have hrb : (rc == 0) = false := by simpa using hrc
    have ho := HO1.out hrc
    have Ho := SL.hid ho
    obtain ⟨rfl, h4⟩ := h3.ansNo hrc
    have hfl := fail_anyX _ j d r t J _ h4
    clear h3 h4 ho HO1 HO2 HO3 HO4 hrc
    go_wp2_with fail
    refine hfl.mono ?_
    rintro e w4 ⟨rfl, h6, d4⟩
    clear hfl
    go_wp2
    go_ret2
    refine ⟨.slice none 0 0, by rw [Ho.out]; rfl, ?_, D2.trans d4⟩
    rw [Ho.out]
    exact Sat.ansNil h6 (show (2 : Int) ≠ 0 by decide)
theorem load_any (w : World) (S : Hp) (j d : Nat) (J : Jr) (D : Dev) (id place : Int) (F : Assn) (h : Sat w (jrA j d J * (devA S d D * (pool S * F)))) (hJ : J.Ok) (hD : D.Ok) :
    Calls Tryz.prog 41 #[ptV j, .int .i64 id, .int .i64 place] w (LoadQ S j d (J.load D id place) F w) := by
  obtain ⟨r, t, hx⟩ := h.jrToX
  exact (load_anyX w S j d r t J D id place F hx hJ hD).mono fun _ _ ⟨dv, a, b, c⟩ => ⟨dv, a, Sat.front2 (b.front2.jrOfX), c⟩
set_option maxRecDepth 100000 in
set_option maxHeartbeats 2000000 in
theorem jread_any (w : World) (S : Hp) (j d : Nat) (J : Jr) (D : Dev) (id : Int) (F : Assn) (h : Sat w (jrA j d J * (devA S d D * (pool S * F)))) (hJ : J.Ok) (hD : D.Ok) :
    Calls Tryz.prog 16 #[ptV j, .int .i64 id] w (LoadQ S j d (J.read D id) F w) := by
  obtain ⟨r, t, hx⟩ := h.jrOpen
  have c2 : w.cell? ⟨j, 2, none⟩ = some (ptV t) := hx.cell 2
  have c3 : w.cell? ⟨j, 3, none⟩ = some (.int .i64 J.n) := hx.cell 3
  have c10 : w.cell? ⟨j, 10, none⟩ = some (.bool J.br) := hx.cell 10
  have ha := at_any w t J.T id _ hx.front3
  have hl := fun p => load_any w S j d J D id p F h hJ hD
  unfold Jr.read
  clear hx
  by_cases h0 : id < 0
  · rw [if_pos (.inl h0)]
    clear ha hl
    go_enter Tryz.func16, Tryz.ntmps16
    go_wp2
    go_ret2
    exact ⟨_, rfl, Sat.ansNil h (show (1 : Int) ≠ 0 by decide), Side.refl w⟩
  · by_cases h1 : J.n ≤ id
    · rw [if_pos (.inr h1)]
      clear ha hl
      go_enter Tryz.func16, Tryz.ntmps16
      go_wp2
      go_ret2
      exact ⟨_, rfl, Sat.ansNil h (show (1 : Int) ≠ 0 by decide), Side.refl w⟩
    · rw [if_neg (by rintro (q | q) <;> contradiction)]
      cases hb : J.br with
      | true =>
        rw [hb] at c10
        rw [if_pos rfl]
        clear ha hl
        go_enter Tryz.func16, Tryz.ntmps16
        go_wp2
        go_ret2
        exact ⟨_, rfl, Sat.ansNil h (show (2 : Int) ≠ 0 by decide), Side.refl w⟩
      | false =>
        rw [hb] at c10
        rw [if_neg (by simp)]
        cases hm : told J.T.ps id with
        | none =>
          rw [hm] at ha
          simp only
          have hmk : ∀ w, (Instr.makeSlice 39 (.int .i64 480) (.int .i64 480)).run Tryz.prog w =
            .ok (.slice (some ⟨w.heap.size, 0, none⟩) 480 480) (w.alloc (.cells (u8s (zs 480)) 5 (0, 0))) := make_bytes 480 (by omega)
          have hA := h.alloc (.cells (u8s (zs 480)) 5 (0, 0))
          clear hl hm
          go_enter Tryz.func16, Tryz.ntmps16
          go_wp2_with fail
          refine ha.mono ?_
          rintro e w1 ⟨rfl, rfl⟩
          unfold toldV
          clear ha
          go_wp2
          go_ret2
          exact ⟨_, rfl, Sat.ansOf (bs_of_pt (length_zs 480) hA), (Side.refl w).alloc _⟩
        | some p =>
          rw [hm] at ha
          simp only
          have hlp := hl p
          clear hl hm h
          generalize J.load D id p = O at hlp ⊢
          go_enter Tryz.func16, Tryz.ntmps16
          go_wp2_with fail
          refine ha.mono ?_
          rintro e w1 ⟨rfl, rfl⟩
          unfold toldV
          clear ha
          go_wp2_with fail
          refine hlp.mono ?_
          rintro e w2 ⟨dv, rfl, h2, d2⟩
          clear hlp
          go_wp2
          go_ret2
          exact ⟨dv, rfl, h2, d2⟩
end Go.Proofs.YtlfooilcngjeiaaGreat

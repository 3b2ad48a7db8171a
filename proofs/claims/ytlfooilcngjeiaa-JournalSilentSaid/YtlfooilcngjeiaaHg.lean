/- JournalSilent: the walk. -/
import Derived.Test.YtlfooilcngjeiaaHe
import Derived.Test.YtlfooilcngjeiaaHf
import Derived.Deep.DeepCutAuto
import Derived.BigQuiet
import Derived.Deep.QuietTactic
import Derived.Deep.CutBlock
import Derived.Deep.CutRange
namespace Go.Proofs.Ytlfooilcngjeiaa
set_option linter.unusedVariables false
set_option linter.unusedSimpArgs false
open Go.RowKit Go.SL
/-- A journal of ten blocks at work: the whole of what was there ahead beside it. -/
def S1Rel (m j d B : Nat) (w : World) (u : Value) (wr : World) : Prop :=
  ∃ (i : Nat) (S : Hp) (J : Jr) (D : Dev) (has : Has), i ≤ m ∧ u = .int .i64 (i : Int) ∧ JW 10 200 (B + i) J D has ∧ Sat wr (jrA j d J * (devA S d D * (pool S * whole w))) ∧ Side w wr
theorem IsSteps.cell {w : World} {a : Option Addr} {len cap : Nat} {X : Nat → StepV} (h : IsSteps w a len cap X) {i : Nat} (hi : i < len) :
    ∃ b off, a = some ⟨b, off, none⟩ ∧ w.cell? ⟨b, off + i * 3, none⟩ = some (.slice (X i).a (X i).len (X i).cap) ∧ w.cell? ⟨b, off + i * 3 + 1, none⟩ = some (.int .i64 (X i).data) ∧ w.cell? ⟨b, off + i * 3 + 2, none⟩ = some (.int .i64 (X i).n) ∧ IsInts w (X i).a (X i).len (X i).cap (X i).zs ∧ len ≤ cap ∧ cap ≤ 9223372036854775807 := by
  rcases h with rfl | ⟨b, off, rfl, hl, hm, hc⟩
  · omega
  · obtain ⟨c0, c1, c2, c3⟩ := hc i hi
    exact ⟨b, off, rfl, c0, c1, c2, c3, hl, by simpa [maxLen] using hm⟩
theorem IsSteps.len_le {w : World} {a : Option Addr} {len cap : Nat} {X : Nat → StepV} (h : IsSteps w a len cap X) : len ≤ 9223372036854775807 := by
  rcases h with rfl | ⟨b, off, rfl, hl, hm, hc⟩
  · omega
  · unfold maxLen at hm; omega
theorem IsInts.keep {w w' : World} {a : Option Addr} {len cap : Nat} {zs : List Int} (h : IsInts w a len cap zs) (k : ∀ a u, w.cell? a = some u → w'.cell? a = some u) : IsInts w' a len cap zs := by
  rcases h with h | ⟨x, h1, h2, h3, h4, h5, h6⟩
  · exact .inl h
  · exact .inr ⟨x, h1, h2, h3, h4, fun i hi => k _ _ (h5 i hi), h6⟩
def S1Out (j d : Nat) (w wr : World) : Prop :=
  ∃ (B : Nat) (S : Hp) (J : Jr) (D : Dev) (has : Has), B ≤ 100 ∧ JW 10 200 B J D has ∧ Sat wr (jrA j d J * (devA S d D * (pool S * whole w))) ∧ Side w wr
def S2Body (j d sb ag cb : Nat) (S : Hp) (J : Jr) (D : Dev) (OS OC : Obj) (w : World) : Assn :=
  jrA j d J * (devA S d D * (pool S * (pt sb OS * (pt ag (.cells (ints (Jr.ats J)) 3 (0, 0)) * (pt cb OC * whole w)))))
def S2Rel (m j d sb ag cb B : Nat) (J : Jr) (OS OC : Obj) (has : Has) (cr cw cf : Int) (w : World) (u14 u15 : Value) (wr : World) : Prop :=
  ∃ (i : Nat) (S : Hp) (D : Dev) (q : Int), i ≤ m ∧ u15 = .int .i64 (i : Int) ∧ u14 = .int .i64 q ∧ 0 ≤ q ∧ q ≤ (i : Int) ∧ JW 10 200 (B + i) J D has ∧ D.cr = cr + q ∧ D.cw = cw ∧ D.cf = cf ∧ Sat wr (S2Body j d sb ag cb S J D OS OC w) ∧ Side w wr
def S2Out (j d sb ag cb : Nat) (J : Jr) (OS OC : Obj) (has : Has) (cr cw cf : Int) (w : World) (u14 : Value) (wr : World) : Prop :=
  ∃ (B : Nat) (S : Hp) (D : Dev) (q : Int), B ≤ 1000 ∧ u14 = .int .i64 q ∧ 0 ≤ q ∧ q ≤ 40 ∧ JW 10 200 B J D has ∧ D.cr = cr + q ∧ D.cw = cw ∧ D.cf = cf ∧ Sat wr (S2Body j d sb ag cb S J D OS OC w) ∧ Side w wr
def S3Rel (X : Assn) (w : World) (u : Value) (wr : World) : Prop := ∃ k : Nat, k ≤ 10 ∧ u = .int .i64 (k : Int) ∧ Sat wr X ∧ Side w wr
def S3Out (X : Assn) (w wr : World) : Prop := Sat wr X ∧ Side w wr
set_option maxRecDepth 100000 in
set_option maxHeartbeats 4000000 in
theorem silent_any (a0 : Option Addr) (len0 cap0 : Nat) (X : Nat → StepV) (a1 : Option Addr) (len1 cap1 : Nat) (zs : List Int) (w : World) (hX : IsSteps w a0 len0 cap0 X) (hz : IsInts w a1 len1 cap1 zs) :
    Calls Try.prog 7 #[.slice a0 len0 cap0, .slice a1 len1 cap1] w (ShownQ w) := by
  have hlen0 := hX.len_le
  have hlen1 := hz.len_le
  have HX := SL.hid hX; have Hz := SL.hid hz; clear hX hz
  go_enter Try.func7, Try.ntmps7
  go_wp2_with fail
  refine (shown_any w).mono ?_
  rintro e w1 ⟨rfl, h1, d1⟩
  go_wp2_with fail
  refine (new_any 201 (by decide) (by decide) w1).mono ?_
  rintro e w2 ⟨d, rfl, h2, d2⟩
  have H2 := (h2 NoB).under h1
  clear h2 h1
  go_wp2_with fail
  refine (fresh_any 10 (by decide) w2).mono ?_
  rintro e w3 ⟨a, rfl, h3, d3⟩
  have H3 := h3.under H2
  clear h3 H2
  have hnew : Calls Try.prog 14 #[ptV d, .int .i64 200, (freshS 10).v a] w3 (JNewQ d (J0 200 10) w3) := jfresh_any w3 NoB d (Dev.fresh 201) _ 10 200 a H3.front2 (rdI_sl (by rw [List.length_replicate]; exact H3)) (by decide) (by decide) (by decide) (by decide) (by rw [devLen]; decide) (by rw [devLen]; decide)
  go_wp2_with fail
  (with_reducible refine hnew.mono ?_)
  rintro e w4 ⟨j, rfl, h4, d4⟩
  have H4 : Sat w4 (jrA j d (J0 200 10) * (devA NoB d (Dev.fresh 201) * (pool NoB * whole w))) := (h4.under H3.right.poolEmp).to (by ac_rfl)
  have D4 := ((d1.trans d2).trans d3).trans d4
  clear h4 H3 hnew d1 d2 d3 d4
  go_upto_block 0 with (fail)
  go_cut [10] from 45 to 61 (fun _ wx => S1Out j d w wx)
  case first =>
   go_wp2_with fail
   go_loopw [10] (fun u wr => S1Rel 30 j d 0 w u wr) (fun u _ => 30 - (intOf u).toNat)
   case atStart => exact ⟨0, NoB, _, _, _, Nat.zero_le _, rfl, jw_fresh (by decide) (by decide) (by decide) (by decide), H4, D4⟩
   case round =>
     clear H4 D4
     obtain ⟨i, S, J, D, has, hi, rfl, hW, hsat, hside⟩ := hrel
     have hi' : (i : Int) ≤ 30 := by omega
     by_cases hlt : i < len0 ∧ i < 30
     · obtain ⟨hlt, h30⟩ := hlt
       have hlt' : (i : Int) < (len0 : Int) := by omega
       have h30' : (i : Int) < 30 := by omega
       obtain ⟨b, off, rfl, c0, c1, c2, c3, hlc, hcap⟩ := HX.out.cell hlt
       have hold : ∀ {ad : Addr} {u : Value}, w.cell? ad = some u → wr.cell? ad = some u := fun hc => (hsat.to (by ac_rfl : _ = (jrA j d J * (devA S d D * pool S)) * whole w)).cellOld hc
       have c0' := hold c0
       have c1' := hold c1
       have c2' := hold c2
       have c3' := c3.keep fun _ _ => hold
       have hwr := writes_any wr (X i) c3' (if (X i).len < 30 then (X i).len else 30) rfl
       unfold StepV.v at hwr
       have HW := SL.hid hW; have HS := SL.hid hsat
       clear c0 c1 c2 c3 c3' hold hW hsat
       generalize X i = x at *
       obtain ⟨xa, xl, xc, xz, xd, xn⟩ := x
       dsimp only at c0' c1' c2' hwr
       go_wp2_with fail
       (with_reducible refine hwr.mono ?_)
       rintro e w5 ⟨v, L, rfl, hL, h5, d5⟩
       have H5 := h5.under HS.out
       have h480 := stepW_480 _ _ _ hL
       have hLl : L.length ≤ 1000 := by have := Wo.len hL; split at this <;> omega
       have hcm := cany_any w5 S j d J D (whole w) v L has (H5.to (by ac_rfl)) HW.out (by decide) (by omega) h480 hLl
       have D5 := hside.trans d5
       clear hwr h5 d5 HS H5 h480 hLl hL c0' c1' c2' hside HW
       go_wp2_with fail
       (with_reducible refine hcm.mono ?_)
       rintro e w6 ⟨S6, J6, D6, has6, rc, E6, rfl, h6, d6, hW6⟩
       have H6 := SL.hid ((h6.to (by ac_rfl : _ = wrsA v L * (jrA j d J6 * (devA S6 d D6 * (pool S6 * whole w))))).right)
       have DD := SL.hid (D5.trans d6)
       have HW6 := SL.hid hW6
       clear hcm h6 d6 D5 hW6
       go_wp2
       go_roundw
       case rel => exact ⟨i + 1, S6, J6, D6, has6, by omega, by go_num, HW6.out, H6.out, DD.out⟩
       case measure => simp [intOf]; omega
     · have hd : (decide ((i : Int) < (len0 : Int)) && decide ((i : Int) < 30)) = false := by
         rw [Bool.and_eq_false_iff]
         by_cases h : i < len0
         · exact .inr (by simp; omega)
         · exact .inl (by simp; omega)
       have HS := SL.hid hsat
       clear hsat
       have fin : S1Out j d w wr := ⟨30, S, J, D, has, by omega, jw_more hW (by omega), HS.out, hside⟩
       have Hfin := SL.hid fin
       by_cases hl : i < len0
       · have hl' : (i : Int) < (len0 : Int) := by omega
         obtain rfl : i = 30 := by omega
         clear fin hW
         go_wp2_with fail
         go_meet
         exact Hfin.out
       · have hl' : ¬ (i : Int) < (len0 : Int) := by omega
         clear fin hW
         go_wp2_with fail
         go_meet
         exact Hfin.out
  case rest =>
    obtain ⟨B, S, J, D, has, hB, hW, hsat, hside⟩ := hcut
    have hn10 : J.T.ps.length = 10 := by have := hW.inv.ok.ps; rw [hW.jn] at this; omega
    have hats : (Jr.ats J).length = 10 := by unfold Jr.ats; rw [List.length_map, List.length_range, hn10]
    have hst := state_any wc j d J _ hsat hW.inv.ok
    have e11 : ∀ ag, (Jr.js J).v (.slice (some ⟨ag, 0, none⟩) J.T.ps.length J.T.ps.length) = .agg #[.int .u32 J.ep, .int .u64 J.st, .int .u64 J.sq, .int .i64 J.hd, .int .i64 J.us, .slice (some ⟨ag, 0, none⟩) 10 10] := fun ag => by rw [hn10]; rfl
    have HA := SL.hid hats
    have Hn10 := SL.hid hn10
    clear hats hn10
    go_wp2_with fail
    (with_reducible refine hst.mono ?_)
    rintro e w5 ⟨ag, rfl, h5, d5⟩
    rw [e11]
    have H5 := h5.alloc (.cells #[.int .u32 J.ep, .int .u64 J.st, .int .u64 J.sq, .int .i64 J.hd, .int .i64 J.us, .slice (some ⟨ag, 0, none⟩) 10 10] 26 (0, 0))
    have D5 := (hside.trans d5).alloc (.cells #[.int .u32 J.ep, .int .u64 J.st, .int .u64 J.sq, .int .i64 J.hd, .int .i64 J.us, .slice (some ⟨ag, 0, none⟩) 10 10] 26 (0, 0))
    clear hst h5 d5 hside hsat
    have E11 := SL.hid e11
    clear e11
    go_wp2_with fail
    generalize w5.alloc (.cells #[.int .u32 J.ep, .int .u64 J.st, .int .u64 J.sq, .int .i64 J.hd, .int .i64 J.us, .slice (some ⟨ag, 0, none⟩) 10 10] 26 (0, 0)) = w6 at H5 D5 ⊢
    generalize w5.heap.size = sb at H5 ⊢
    have hroom := room_any w6 j d J _ H5.front3 hW.inv.ok
    (with_reducible refine hroom.mono ?_)
    rintro e w7 ⟨rfl, h7, d7⟩
    have H7 := h7.keepW H5
    have D7 := D5.trans d7
    clear hroom h7 d7 H5 D5
    have hcnt := counts_any w7 S d D _ H7.front4
    go_wp2_with fail
    (with_reducible refine hcnt.mono ?_)
    rintro e w8 ⟨rfl, h8, d8⟩
    have H8 := (h8.keepW H7).alloc (.cells #[.int .i64 D.cr, .int .i64 D.cw, .int .i64 D.cf] 62 (0, 0))
    have D8 := (D7.trans d8).alloc (.cells #[.int .i64 D.cr, .int .i64 D.cw, .int .i64 D.cf] 62 (0, 0))
    clear hcnt h8 d8 H7 D7
    go_upto_block 2 with (fail)
    generalize w8.alloc (.cells #[.int .i64 D.cr, .int .i64 D.cw, .int .i64 D.cf] 62 (0, 0)) = w9 at H8 D8 ⊢
    generalize w8.heap.size = cb at H8 ⊢
    obtain ⟨OS, hOS⟩ : ∃ o, o = Obj.cells #[.int .u32 J.ep, .int .u64 J.st, .int .u64 J.sq, .int .i64 J.hd, .int .i64 J.us, .slice (some ⟨ag, 0, none⟩) 10 10] 26 (0, 0) := ⟨_, rfl⟩
    obtain ⟨OC, hOC⟩ : ∃ o, o = Obj.cells #[.int .i64 D.cr, .int .i64 D.cw, .int .i64 D.cf] 62 (0, 0) := ⟨_, rfl⟩
    rw [← hOS, ← hOC] at H8
    have H9 : Sat w9 (jrA j d J * (devA S d D * (pool S * (pt sb OS * (pt ag (.cells (ints (Jr.ats J)) 3 (0, 0)) * (pt cb OC * whole w)))))) := H8.to (by ac_rfl)
    have HOS := SL.hid hOS; have HOC := SL.hid hOC
    clear H8 hOS hOC
    have hcr0 := hW.cr0; have hcr1 := hW.cr1
    go_cut [14] from 68 to 135 (fun u14 wx => S2Out j d sb ag cb J OS OC has D.cr D.cw D.cf w u14 wx)
    case first =>
      go_wp2_with fail
      go_loopw [14, 15] (fun u14 u15 wr => S2Rel 40 j d sb ag cb B J OS OC has D.cr D.cw D.cf w u14 u15 wr) (fun _ u _ => 40 - (intOf u).toNat)
      case atStart => exact ⟨0, S, D, 0, Nat.zero_le _, rfl, rfl, by omega, by omega, hW, by omega, rfl, rfl, H9, D8⟩
      case round =>
        clear H9 D8
        obtain ⟨i, S5, D5, q, hi, rfl, rfl, q0, q1, hW5, hc1, hc2, hc3, hsat, hside⟩ := hrel
        have hi' : (i : Int) ≤ 40 := by omega
        have fin : S2Out j d sb ag cb J OS OC has D.cr D.cw D.cf w (.int .i64 q) wr := ⟨B + i, S5, D5, q, by omega, rfl, q0, by omega, hW5, hc1, hc2, hc3, hsat, hside⟩
        have Hfin := SL.hid fin
        clear fin
        by_cases hl : i < len1
        · have hl' : (i : Int) < (len1 : Int) := by omega
          by_cases h40 : i < 40
          · have h40' : (i : Int) < 40 := by omega
            obtain ⟨b1, off, rfl, hcz, hlc, hcap⟩ := Hz.out.cell hl
            have hold : ∀ {ad : Addr} {u : Value}, w.cell? ad = some u → ∀ wx, Sat wx (S2Body j d sb ag cb S5 J D5 OS OC w) → wx.cell? ad = some u := fun hc wx h => (h.to (by unfold S2Body; ac_rfl : _ = (jrA j d J * (devA S5 d D5 * (pool S5 * (pt sb OS * (pt ag (.cells (ints (Jr.ats J)) 3 (0, 0)) * pt cb OC))))) * whole w)).cellOld hc
            have c1 := hold hcz wr hsat
            have hcell : ∀ (D' : Dev) (S' : Hp) wx, Sat wx (S2Body j d sb ag cb S' J D' OS OC w) → wx.cell? ⟨b1, off + i, none⟩ = some (.int .i64 (zs.getD i 0)) ∧ wx.cell? ⟨sb, 5, none⟩ = some (.slice (some ⟨ag, 0, none⟩) 10 10) ∧ ∀ k : Nat, k < 10 → wx.cell? ⟨ag, k, none⟩ = some (.int .i64 ((Jr.ats J).getD k 0)) := fun D' S' wx h => by
              unfold S2Body at h
              refine ⟨(h.to (by ac_rfl : _ = (jrA j d J * (devA S' d D' * (pool S' * (pt sb OS * (pt ag (.cells (ints (Jr.ats J)) 3 (0, 0)) * pt cb OC))))) * whole w)).cellOld hcz, ?_, fun k hk => ?_⟩
              · have := h.front4; rw [HOS.out] at this; exact this.cell 5
              · exact (h.front5.cell k).trans (get_ints_lt (by rw [HA.out]; exact hk))
            have Hcell := SL.hid hcell
            have HW5 := SL.hid hW5; have Hc1 := SL.hid hc1; have Hc2 := SL.hid hc2; have Hc3 := SL.hid hc3
            clear hold hcell hcz hc1 hc2 hc3
            generalize hid : zs.getD i 0 = id at c1 Hcell
            clear hid
            by_cases hin : 0 ≤ id ∧ id < 10
            · obtain ⟨i0, i10⟩ := hin
              have hrd := jreadW_any wr S5 j d J D5 (pt sb OS * (pt ag (.cells (ints (Jr.ats J)) 3 (0, 0)) * (pt cb OC * whole w))) has hsat HW5.out (by omega) i0 (by exact i10)
              obtain ⟨k, rfl⟩ := Int.eq_ofNat_of_zero_le i0
              have hk : k < 10 := by omega
              clear hW5 hsat
              go_wp2_with fail
              (with_reducible refine hrd.mono ?_)
              rintro e w10 ⟨dv, D10, rfl, h10, d10, hW10, k1, k2, k3⟩
              have H10 : Sat w10 (S2Body j d sb ag cb S5 J D10 OS OC w) := h10.right
              obtain ⟨p1, p2, p3⟩ := Hcell.out D10 S5 w10 H10
              have p4 := p3 k hk
              have hav : (Jr.ats J).getD k 0 = (told J.T.ps (k : Int)).getD (-1) := by
                unfold Jr.ats
                rw [List.getD, List.getElem?_map, List.getElem?_range (by rw [Hn10.out]; exact hk)]
                rfl
              have HH := SL.hid H10; have HD := SL.hid (hside.trans d10); have HW10 := SL.hid hW10; have K1 := SL.hid k1; have K2 := SL.hid k2; have K3 := SL.hid k3
              clear hrd h10 d10 hW10 k1 k2 k3 p3 c1 H10 hside
              cases ht : told J.T.ps (k : Int) with
              | some p =>
                have hpp := HW5.out.inv.place ht
                rw [hav, ht, Option.getD_some] at p4
                rw [ht] at K1
                clear hav
                have p0 := hpp.1
                have hk9 : (k : Int) < 10 := by omega
                have hq40 : q ≤ 40 := by omega
                clear hpp
                go_wp2_with fail
                go_quiet (fail)
                go_wp2
                go_roundw
                case rel => exact ⟨i + 1, S5, D10, q + 1, by omega, by go_num, by go_num, by omega, by omega, HW10.out, by have := K1.out; have := Hc1.out; simp only [Option.isSome_some, if_true] at *; omega, K2.out.trans Hc2.out, K3.out.trans Hc3.out, HH.out.drew, side_drewN HD.out _⟩
                case measure => simp [intOf]; omega
              | none =>
                rw [hav, ht, Option.getD_none] at p4
                rw [ht] at K1
                clear hav
                have hk9 : (k : Int) < 10 := by omega
                have hq40 : q ≤ 40 := by omega
                go_wp2_with fail
                go_quiet (fail)
                go_wp2
                go_roundw
                case rel => exact ⟨i + 1, S5, D10, q, by omega, by go_num, rfl, by omega, by omega, HW10.out, by have := K1.out; have := Hc1.out; simp at *; omega, K2.out.trans Hc2.out, K3.out.trans Hc3.out, HH.out.drew, side_drewN HD.out _⟩
                case measure => simp [intOf]; omega
            · have hin' : id < 0 ∨ (10 : Int) ≤ id := by omega
              have hrd := jreadNo_any wr S5 j d J D5 (pt sb OS * (pt ag (.cells (ints (Jr.ats J)) 3 (0, 0)) * (pt cb OC * whole w))) has hsat HW5.out (id := id) (by exact hin')
              clear hW5 hsat hin
              rcases hin' with hn | hn
              · have hn0 : ¬ (0 ≤ id) := by omega
                go_wp2_with fail
                (with_reducible refine hrd.mono ?_)
                rintro e w10 ⟨rfl, h10, d10⟩
                obtain ⟨p1, p2, p3⟩ := Hcell.out D5 S5 w10 h10
                have HH := SL.hid h10; have HD := SL.hid (hside.trans d10)
                clear hrd h10 d10 p3 c1 hside
                go_wp2_with fail
                go_quiet (fail)
                go_wp2
                go_roundw
                case rel => exact ⟨i + 1, S5, D5, q, by omega, by go_num, rfl, by omega, by omega, jw_more HW5.out (by omega), Hc1.out, Hc2.out, Hc3.out, HH.out.drew, side_drewN HD.out _⟩
                case measure => simp [intOf]; omega
              · have hn0 : 0 ≤ id := by omega
                have hn1 : ¬ id < 10 := by omega
                have hd9 : decide (id < 10) = false := by simpa using hn1
                go_wp2_with fail
                (with_reducible refine hrd.mono ?_)
                rintro e w10 ⟨rfl, h10, d10⟩
                obtain ⟨p1, p2, p3⟩ := Hcell.out D5 S5 w10 h10
                have HH := SL.hid h10; have HD := SL.hid (hside.trans d10)
                clear hrd h10 d10 p3 c1 hside
                go_wp2_with fail
                go_quiet (fail)
                go_wp2
                go_roundw
                case rel => exact ⟨i + 1, S5, D5, q, by omega, by go_num, rfl, by omega, by omega, jw_more HW5.out (by omega), Hc1.out, Hc2.out, Hc3.out, HH.out.drew, side_drewN HD.out _⟩
                case measure => simp [intOf]; omega
          · obtain rfl : i = 40 := by omega
            clear hW5 hsat hc1 hc2 hc3
            go_wp2_with fail
            go_meet
            exact Hfin.out
        · have hl' : ¬ (i : Int) < (len1 : Int) := by omega
          clear hW5 hsat hc1 hc2 hc3
          go_wp2_with fail
          go_meet
          exact Hfin.out
    case rest =>
      obtain ⟨B2, S2, D2, q, hB2, rfl, hq0, hq1, hW2, hcr, hcw, hcf, hsat, hside⟩ := hcut
      unfold S2Body at hsat
      have hcnt := counts_any wc S2 d D2 _ hsat.front2
      rw [hcr, hcw, hcf] at hcnt
      clear H9 D8
      go_wp2_with fail
      (with_reducible refine hcnt.mono ?_)
      rintro e w10 ⟨rfl, h10, d10⟩
      have H10 := (h10.keepW hsat).alloc (.cells #[.int .i64 (D.cr + q), .int .i64 D.cw, .int .i64 D.cf] 62 (0, 0))
      have D10 := (hside.trans d10).alloc (.cells #[.int .i64 (D.cr + q), .int .i64 D.cw, .int .i64 D.cf] 62 (0, 0))
      clear hcnt h10 d10 hsat hside
      go_wp2_with fail
      generalize w10.alloc (.cells #[.int .i64 (D.cr + q), .int .i64 D.cw, .int .i64 D.cf] 62 (0, 0)) = w11 at H10 D10 ⊢
      generalize w10.heap.size = cb2 at H10 ⊢
      have hst2 := state_any w11 j d J _ H10.front2 hW2.inv.ok
      (with_reducible refine hst2.mono ?_)
      rintro e w12 ⟨ag2, rfl, h12, d12⟩
      rw [E11.out]
      have H12 := h12.alloc (.cells #[.int .u32 J.ep, .int .u64 J.st, .int .u64 J.sq, .int .i64 J.hd, .int .i64 J.us, .slice (some ⟨ag2, 0, none⟩) 10 10] 26 (0, 0))
      have D12 := (D10.trans d12).alloc (.cells #[.int .u32 J.ep, .int .u64 J.st, .int .u64 J.sq, .int .i64 J.hd, .int .i64 J.us, .slice (some ⟨ag2, 0, none⟩) 10 10] 26 (0, 0))
      clear hst2 h12 d12 H10 D10
      go_upto_block 4 with (fail)
      generalize w12.alloc (.cells #[.int .u32 J.ep, .int .u64 J.st, .int .u64 J.sq, .int .i64 J.hd, .int .i64 J.us, .slice (some ⟨ag2, 0, none⟩) 10 10] 26 (0, 0)) = w13 at H12 D12 ⊢
      generalize w12.heap.size = sb2 at H12 ⊢
      rw [HOS.out, HOC.out] at H12
      obtain ⟨BIG, hBIG⟩ : ∃ X, X = pt sb2 (.cells #[.int .u32 J.ep, .int .u64 J.st, .int .u64 J.sq, .int .i64 J.hd, .int .i64 J.us, .slice (some ⟨ag2, 0, none⟩) 10 10] 26 (0, 0)) * (pt ag2 (.cells (ints (Jr.ats J)) 3 (0, 0)) * (pt sb (.cells #[.int .u32 J.ep, .int .u64 J.st, .int .u64 J.sq, .int .i64 J.hd, .int .i64 J.us, .slice (some ⟨ag, 0, none⟩) 10 10] 26 (0, 0)) * (pt ag (.cells (ints (Jr.ats J)) 3 (0, 0)) * (pt cb (.cells #[.int .i64 D.cr, .int .i64 D.cw, .int .i64 D.cf] 62 (0, 0)) * (pt cb2 (.cells #[.int .i64 (D.cr + q), .int .i64 D.cw, .int .i64 D.cf] 62 (0, 0)) * (jrA j d J * whole w)))))) := ⟨_, rfl⟩
      have H13 : Sat w13 BIG := by
        rw [hBIG]
        exact (H12.to (by ac_rfl : _ = (devA S2 d D2 * pool S2) * (pt sb2 (.cells #[.int .u32 J.ep, .int .u64 J.st, .int .u64 J.sq, .int .i64 J.hd, .int .i64 J.us, .slice (some ⟨ag2, 0, none⟩) 10 10] 26 (0, 0)) * (pt ag2 (.cells (ints (Jr.ats J)) 3 (0, 0)) * (pt sb (.cells #[.int .u32 J.ep, .int .u64 J.st, .int .u64 J.sq, .int .i64 J.hd, .int .i64 J.us, .slice (some ⟨ag, 0, none⟩) 10 10] 26 (0, 0)) * (pt ag (.cells (ints (Jr.ats J)) 3 (0, 0)) * (pt cb (.cells #[.int .i64 D.cr, .int .i64 D.cw, .int .i64 D.cf] 62 (0, 0)) * (pt cb2 (.cells #[.int .i64 (D.cr + q), .int .i64 D.cw, .int .i64 D.cf] 62 (0, 0)) * (jrA j d J * whole w))))))))).right
      have HB := SL.hid hBIG
      clear hBIG H12
      go_cut [21] from 140 to 163 (fun _ wx => S3Out BIG w wx)
      case first =>
        go_wp2_with fail
        go_loopw [21] (fun u wr => S3Rel BIG w u wr) (fun u _ => 10 - (intOf u).toNat)
        case atStart => exact ⟨0, Nat.zero_le _, rfl, H13, D12⟩
        case round =>
          clear H13 D12
          obtain ⟨k, hk, rfl, hsat, hside⟩ := hrel
          have hk' : (k : Int) ≤ 10 := by omega
          have hb := hsat
          rw [HB.out] at hb
          have y5 : wr.cell? ⟨sb2, 5, none⟩ = some (.slice (some ⟨ag2, 0, none⟩) 10 10) := hb.cell 5
          have z5 : wr.cell? ⟨sb, 5, none⟩ = some (.slice (some ⟨ag, 0, none⟩) 10 10) := hb.front3.cell 5
          have Hs := SL.hid hsat; have Hd := SL.hid hside
          by_cases hlt : k < 10
          · have hlt' : (k : Int) < 10 := by omega
            have y6 : wr.cell? ⟨ag2, k, none⟩ = some (.int .i64 ((Jr.ats J).getD k 0)) := (hb.front2.cell k).trans (get_ints_lt (by rw [HA.out]; exact hlt))
            have z6 : wr.cell? ⟨ag, k, none⟩ = some (.int .i64 ((Jr.ats J).getD k 0)) := (hb.front4.cell k).trans (get_ints_lt (by rw [HA.out]; exact hlt))
            generalize (Jr.ats J).getD k 0 = v at y6 z6
            clear hb hsat hside
            go_wp2_with fail
            go_quiet (fail)
            go_wp2
            go_roundw
            case rel => exact ⟨k + 1, by omega, by go_num, Hs.out.drew, side_drewN Hd.out _⟩
            case measure => simp [intOf]; omega
          · obtain rfl : k = 10 := by omega
            clear hb hsat hside
            go_wp2_with fail
            go_meet
            exact ⟨Hs.out, Hd.out⟩
      case rest =>
        obtain ⟨hsat, hside⟩ := hcut
        rw [HB.out] at hsat
        have y0 : wc.cell? ⟨cb2, 0, none⟩ = some (.int .i64 (D.cr + q)) := hsat.front6.cell 0
        have y1 : wc.cell? ⟨cb2, 1, none⟩ = some (.int .i64 D.cw) := hsat.front6.cell 1
        have y2 : wc.cell? ⟨cb2, 2, none⟩ = some (.int .i64 D.cf) := hsat.front6.cell 2
        have z0 : wc.cell? ⟨cb, 0, none⟩ = some (.int .i64 D.cr) := hsat.front5.cell 0
        have z1 : wc.cell? ⟨cb, 1, none⟩ = some (.int .i64 D.cw) := hsat.front5.cell 1
        have z2 : wc.cell? ⟨cb, 2, none⟩ = some (.int .i64 D.cf) := hsat.front5.cell 2
        have s2 : wc.cell? ⟨sb2, 2, none⟩ = some (.int .u64 J.sq) := hsat.cell 2
        have s3 : wc.cell? ⟨sb2, 3, none⟩ = some (.int .i64 J.hd) := hsat.cell 3
        have s4 : wc.cell? ⟨sb2, 4, none⟩ = some (.int .i64 J.us) := hsat.cell 4
        have t2 : wc.cell? ⟨sb, 2, none⟩ = some (.int .u64 J.sq) := hsat.front3.cell 2
        have t3 : wc.cell? ⟨sb, 3, none⟩ = some (.int .i64 J.hd) := hsat.front3.cell 3
        have t4 : wc.cell? ⟨sb, 4, none⟩ = some (.int .i64 J.us) := hsat.front3.cell 4
        have hj := hsat.front7
        have hsum : IntKind.i64.wrap (D.cr + q) = D.cr + q := by rw [IntKind.wrap_i64]; omega
        have hbr := hW2.inv.br
        have hroom := room_any wc j d J _ hj hW2.inv.ok
        have Hbr : Hid (∀ (w' : World) (F : Assn), Sat w' (jrA j d J * F) → Calls Try.prog 25 #[ptV j] w' (BoolIs false w')) := fun w' F h => by rw [← hbr]; exact broken_any w' j d J F h
        have Hs := SL.hid hsat; have Hd := SL.hid hside
        clear hj hbr hsat hside H13 D12
        go_wp2_with fail
        (with_reducible refine hroom.mono ?_)
        rintro e wR ⟨rfl, hR, dR⟩
        have HR := hR.keepW Hs.out
        have hbr2 := Hbr.out wR _ HR.front7
        have HRh := SL.hid HR; have HRd := SL.hid (Hd.out.trans dR)
        clear hroom hR dR HR
        go_wp2_with fail
        (with_reducible refine hbr2.mono ?_)
        rintro e wL ⟨rfl, rfl⟩
        clear hbr2
        go_wp2
        go_ret
        exact ⟨rfl, HRh.out.right.right.right.right.right.right.right, HRd.out⟩
end Go.Proofs.Ytlfooilcngjeiaa

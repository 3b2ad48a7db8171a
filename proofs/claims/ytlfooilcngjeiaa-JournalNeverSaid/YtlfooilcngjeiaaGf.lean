/- JournalNever: the walk. -/
import Derived.Test.YtlfooilcngjeiaaHe
import Derived.Test.YtlfooilcngjeiaaGe
import Derived.Deep.DeepCutAuto
import Derived.BigQuiet
import Derived.Deep.QuietTactic
import Derived.Deep.CutBlock
import Derived.Deep.CutRange
namespace Go.Proofs.Ytlfooilcngjeiaa
set_option linter.unusedVariables false
set_option linter.unusedSimpArgs false
open Go.RowKit Go.SL
def N2Rel (n P j d hb : Nat) (w : World) (u : Value) (wr : World) : Prop :=
  ∃ (i : Nat) (S : Hp) (J : Jr) (D : Dev) (has : Has) (hs : List Int), i ≤ 200 ∧ u = .int .i64 (i : Int) ∧ hs.length = n ∧ HasOf n has hs ∧ JW n P i J D has ∧ Sat wr (jrA j d J * (devA S d D * (pool S * (pt hb (.cells (ints hs) 3 (0, 0)) * whole w)))) ∧ Side w wr
def N2Out (n P j d hb : Nat) (w wr : World) : Prop :=
  ∃ (S : Hp) (J : Jr) (D : Dev) (has : Has) (hs : List Int), hs.length = n ∧ HasOf n has hs ∧ JW n P 200 J D has ∧ Sat wr (jrA j d J * (devA S d D * (pool S * (pt hb (.cells (ints hs) 3 (0, 0)) * whole w)))) ∧ Side w wr
structure N3In (n : Nat) (v : Value) (L : Wo) (M : List (Int × Int)) : Prop where
  sh : ∃ a c, v = .slice a L.length c
  bl : Wo.bl L = mBl M
  l24 : L.length ≤ 24
  mok : ∀ p ∈ M, 0 ≤ p.1 ∧ p.1 < (n : Int) ∧ 0 ≤ p.2
  nd : (M.map Prod.fst).Nodup
def N3Rel (n xl hb sn : Nat) (hs : List Int) (Y : Assn) (w : World) (u16 u18 : Value) (wr : World) : Prop :=
  ∃ (k : Nat) (L : Wo) (M : List (Int × Int)) (bs : List Bool), k ≤ xl ∧ u18 = .int .i64 (k : Int) ∧ N3In n u16 L M ∧ SeenOf n bs M ∧
    Sat wr (wrsA u16 L * (pt hb (.cells (ints (updH hs M)) 3 (0, 0)) * (pt sn (.cells (bls bs) 4 (0, 0)) * Y))) ∧ Side w wr
def N3Out (n hb : Nat) (hs : List Int) (Y : Assn) (w : World) (u16 : Value) (wr : World) : Prop :=
  ∃ (L : Wo) (M : List (Int × Int)), N3In n u16 L M ∧ Sat wr (wrsA u16 L * (pt hb (.cells (ints (updH hs M)) 3 (0, 0)) * Y)) ∧ Side w wr
def N4Rel (n P j d hb B : Nat) (J : Jr) (has : Has) (hs : List Int) (w : World) (u : Value) (wr : World) : Prop :=
  ∃ (i B' : Nat) (S : Hp) (D : Dev), i ≤ n ∧ u = .int .i64 (i : Int) ∧ B' = B + i ∧ JW n P B' J D has ∧ Sat wr (jrA j d J * (devA S d D * (pool S * (pt hb (.cells (ints hs) 3 (0, 0)) * whole w)))) ∧ Side w wr
set_option maxRecDepth 100000 in
set_option maxHeartbeats 40000000 in
theorem never_any (n0 n1 : Int) (a2 : Option Addr) (len2 cap2 : Nat) (X : Nat → StepV) (w : World) (hX : IsSteps w a2 len2 cap2 X) (hL : ∀ i, i < len2 → (X i).len ≤ 17592186044416) :
    Calls Try.prog 6 #[.int .i64 n0, .int .i64 n1, .slice a2 len2 cap2] w (ShownQ w) := by
  have hlen2 := hX.len_le
  have HX := SL.hid hX; have HL := SL.hid hL
  clear hX hL
  have hand0 := and16 n0
  have hand1 := and16 n1
  go_enter Try.func6, Try.ntmps6
  go_wp2_with fail
  refine (shown_any w).mono ?_
  rintro e w1 ⟨rfl, h1, d1⟩
  go_wp2_with fail
  obtain ⟨n, hn⟩ : ∃ n : Nat, 4 + n0 % 65536 % 37 = (n : Int) := ⟨(4 + n0 % 65536 % 37).toNat, by omega⟩
  have hn4 : 4 ≤ n := by omega
  have hn40 : n ≤ 40 := by omega
  rw [hn]
  obtain ⟨P, hP⟩ : ∃ P : Nat, (5 * (n : Int) + 240 + 1) / 2 + n1 % 65536 % 11 = (P : Int) := ⟨((5 * (n : Int) + 240 + 1) / 2 + n1 % 65536 % 11).toNat, by omega⟩
  have hP0 : 5 * n + 240 ≤ 2 * P := by omega
  have hP1 : P ≤ 240 := by omega
  rw [hP]
  have eP : (P : Int) + 1 = ((P + 1 : Nat) : Int) := by omega
  rw [eP]
  have hn4' : (4 : Int) ≤ (n : Int) := by omega
  have hn40' : (n : Int) ≤ 40 := by omega
  have hP1' : (P : Int) ≤ 240 := by omega
  clear hand0 hand1 hn hP eP
  refine (new_any (P + 1) (by omega) (by omega) w1).mono ?_
  rintro e w2 ⟨d, rfl, h2, d2⟩
  have H2 := (h2 NoB).under h1
  clear h2 h1
  go_wp2_with fail
  refine (fresh_any n (by omega) w2).mono ?_
  rintro e w3 ⟨a, rfl, h3, d3⟩
  have H3 := h3.under H2
  clear h3 H2
  have hnew : Calls Try.prog 14 #[ptV d, .int .i64 (P : Int), (freshS n).v a] w3 (JNewQ d (J0 P n) w3) := jfresh_any w3 NoB d (Dev.fresh (P + 1)) _ n P a H3.front2 (rdI_sl (by rw [List.length_replicate]; exact H3)) (by omega) (by omega) (by omega) (by omega) (by rw [devLen]; omega) (by rw [devLen]; omega)
  go_wp2_with fail
  (with_reducible refine hnew.mono ?_)
  rintro e w4 ⟨j, rfl, h4, d4⟩
  have H4 : Sat w4 (jrA j d (J0 P n) * (devA NoB d (Dev.fresh (P + 1)) * (pool NoB * whole w))) := (h4.under H3.right.poolEmp).to (by ac_rfl)
  have D4 := ((d1.trans d2).trans d3).trans d4
  clear h4 H3 hnew d1 d2 d3 d4
  obtain ⟨F0, hF0⟩ : ∃ l, l = fillN n 0 := ⟨_, rfl⟩
  have hmk : ∀ w, (Instr.makeSlice 24 (.int .i64 (n : Int)) (.int .i64 (n : Int))).run Try.prog w = .ok (.slice (some ⟨w.heap.size, 0, none⟩) n n) (w.alloc (.cells (ints F0) 3 (0, 0))) := by
    rw [hF0]; exact make_ints n (by omega)
  have HF0 := SL.hid hF0
  have H6 := H4.alloc (.cells (ints F0) 3 (0, 0))
  have D6 := D4.alloc (.cells (ints F0) 3 (0, 0))
  clear hF0 H4 D4
  go_upto_block 0 with (fail)
  generalize w4.alloc (.cells (ints F0) 3 (0, 0)) = w6 at H6 D6 ⊢
  generalize w4.heap.size = hb at H6 ⊢
  obtain ⟨Z2, hZ2⟩ : ∃ X, X = jrA j d (J0 P n) * (devA NoB d (Dev.fresh (P + 1)) * (pool NoB * whole w)) := ⟨_, rfl⟩
  rw [← hZ2] at H6
  have HZ2 := SL.hid hZ2
  clear hZ2 hmk
  go_cut [] from 68 to 75 (fun wx => Sat wx (pt hb (.cells (ints (List.replicate n (-1))) 3 (0, 0)) * Z2) ∧ Side w wx)
  case first =>
    go_wp2_with fail
    go_loopw [14] (fun u wr => FillRel n hb Z2 w u wr) (fun u _ => n - (intOf u).toNat)
    case atStart => exact ⟨0, Nat.zero_le _, rfl, by rw [← HF0.out]; exact H6, D6⟩
    case round =>
      clear H6 D6
      obtain ⟨k, hk, rfl, hsat, hside⟩ := hrel
      by_cases hlt : k < n
      · have hlt' : (k : Int) < (n : Int) := by omega
        have ck : wr.cell? ⟨hb, k, none⟩ = some (.int .i64 ((fillN n k).getD k 0)) := (hsat.cell k).trans (get_ints_lt (by rw [fillN_len hk]; exact hlt))
        have fk := hsat.frozen k
        have h2 := hsat.setCell k (.int .i64 (-1))
        rw [set_ints, fillN_set hlt] at h2
        have hset := SL.hid h2
        have Hside := SL.hid hside
        generalize (fillN n k).getD k 0 = uo at ck
        clear hsat hside h2
        go_wp2
        go_roundw
        case rel => exact ⟨k + 1, by omega, by go_num, hset.out, Hside.out.setCell _ _⟩
        case measure => simp [intOf]; omega
      · obtain rfl : k = n := by omega
        have e : fillN k k = List.replicate k (-1) := by simp [fillN]
        rw [e] at hsat
        have Hs := SL.hid hsat; have Hd := SL.hid hside
        clear hsat hside e
        go_wp2_with fail
        go_meet
        exact ⟨Hs.out, Hd.out⟩
  case rest =>
    clear H6 D6
    obtain ⟨hsat, hside⟩ := hcut
    go_upto_block 2 with (fail)
    go_cut [] from 76 to 188 (fun wx => N2Out n P j d hb w wx)
    case first =>
      go_wp2_with fail
      go_loopw [15] (fun u wr => N2Rel n P j d hb w u wr) (fun u _ => 200 - (intOf u).toNat)
      case atStart => exact ⟨0, NoB, J0 P n, Dev.fresh (P + 1), fun _ => none, List.replicate n (-1), Nat.zero_le _, rfl, List.length_replicate, hasOf_none n, jw_fresh (by omega) (by omega) (by omega) (by omega), hsat.to (by rw [HZ2.out]; ac_rfl), hside⟩
      case round =>
        clear hsat hside HZ2
        obtain ⟨i, S, J, D, has, hs, hi, rfl, hhl, hH, hW, hsat, hside⟩ := hrel
        have hi' : (i : Int) ≤ 200 := by omega
        by_cases hlt : i < len2 ∧ i < 200
        · obtain ⟨hlt, h200⟩ := hlt
          have hlt' : (i : Int) < (len2 : Int) := by omega
          have h200' : (i : Int) < 200 := by omega
          have hxl0 := HL.out i hlt
          obtain ⟨b, off, rfl, c0, c1, c2, c3, hlc, hcapX⟩ := HX.out.cell hlt
          generalize X i = x at *
          obtain ⟨xa, xl, xc, xz, xd, xn⟩ := x
          dsimp only at c0 c1 c2 c3 hxl0
          have hxl : (xl : Int) ≤ 17592186044416 := by omega
          have hmk : ∀ w, (Instr.makeSlice 60 (.int .i64 (n : Int)) (.int .i64 (n : Int))).run Try.prog w = .ok (.slice (some ⟨w.heap.size, 0, none⟩) n n) (w.alloc (.cells (bls (List.replicate n false)) 4 (0, 0))) := make_bls n (by omega)
          obtain ⟨B0, hB0⟩ : ∃ l, l = List.replicate n false := ⟨_, rfl⟩
          rw [← hB0] at hmk
          have HB0 := SL.hid hB0
          have HW := SL.hid hW; have HH := SL.hid hH; have Hhl := SL.hid hhl; have Hc0 := SL.hid c0; have Hc1 := SL.hid c1; have Hc3 := SL.hid c3
          have H5 := hsat.alloc (.cells (bls B0) 4 (0, 0))
          have D5 := hside.alloc (.cells (bls B0) 4 (0, 0))
          clear hB0 hW hH hhl c0 c1 c2 c3 hsat hside
          go_upto_block 4 with (fail)
          generalize wr.alloc (.cells (bls B0) 4 (0, 0)) = w5 at H5 D5 ⊢
          generalize wr.heap.size = sn at H5 ⊢
          obtain ⟨Y, hY⟩ : ∃ X, X = jrA j d J * (devA S d D * (pool S * whole w)) := ⟨_, rfl⟩
          have H6 : Sat w5 (pt hb (.cells (ints hs) 3 (0, 0)) * (pt sn (.cells (bls B0) 4 (0, 0)) * Y)) := H5.to (by rw [hY]; ac_rfl)
          have hold : ∀ (ad : Addr) (u : Value), w.cell? ad = some u → ∀ (Q : Assn) (w' : World), Sat w' (Q * Y) → w'.cell? ad = some u := fun ad u hc Q w' h =>
            (h.to (by rw [hY]; ac_rfl : _ = (Q * (jrA j d J * (devA S d D * pool S))) * whole w)).cellOld hc
          have HY := SL.hid hY; have H6h := SL.hid H6; have HD5 := SL.hid D5; have Hold := SL.hid hold
          clear H5 hmk hY H6 D5 hold
          go_cut [16] from 88 to 146 (fun u16 wx => N3Out n hb hs Y w u16 wx)
          case first =>
            go_wp2_with fail
            go_loopw [16, 18] (fun u16 u18 wr => N3Rel n xl hb sn hs Y w u16 u18 wr) (fun _ u _ => xl - (intOf u).toNat)
            case atStart =>
              refine ⟨0, [], [], B0, Nat.zero_le _, rfl, ⟨⟨none, 0, rfl⟩, rfl, Nat.zero_le _, fun p h => (by cases h), List.nodup_nil⟩, by rw [HB0.out]; exact seen0 n, ?_, HD5.out⟩
              exact (H6h.out.slNil 53 2).to (by unfold wrsA; show _ = (sl _ _ _ _ _ * emp) * _; rw [star_emp]; rfl)
            case round =>
              clear H6h HD5
              obtain ⟨k, L, M, bs, hk, rfl, h3, hseen, hsat, hside⟩ := hrel
              obtain ⟨va, vc, rfl⟩ := h3.sh
              have cS : wr.cell? ⟨b, off + i * 3, none⟩ = some (.slice xa xl xc) := Hold.out _ _ Hc0.out _ wr (hsat.to (by ac_rfl : _ = (wrsA (.slice va L.length vc) L * (pt hb (.cells (ints (updH hs M)) 3 (0, 0)) * pt sn (.cells (bls bs) 4 (0, 0)))) * Y))
              have hl24 := h3.l24
              obtain ⟨m, hm⟩ : ∃ m, m = L.length := ⟨_, rfl⟩
              have Hm := SL.hid hm; have H3 := SL.hid h3; have Hseen := SL.hid hseen; have Hside := SL.hid hside
              have hkm : (k : Int) ≤ 17592186044416 := by omega
              by_cases hgo : k < xl ∧ L.length < 24
              · obtain ⟨hg1, hg2⟩ := hgo
                have hg1' : (k : Int) < (xl : Int) := by omega
                have hg2' : (m : Int) < 24 := by omega
                obtain ⟨b2, off2, rfl, cz, hl2, hc2⟩ := Hc3.out.cell hg1
                have cZ : wr.cell? ⟨b2, off2 + k, none⟩ = some (.int .i64 (xz.getD k 0)) := Hold.out _ _ cz _ wr (hsat.to (by ac_rfl : _ = (wrsA (.slice va L.length vc) L * (pt hb (.cells (ints (updH hs M)) 3 (0, 0)) * pt sn (.cells (bls bs) 4 (0, 0)))) * Y))
                obtain ⟨z, hz⟩ : ∃ z, z = xz.getD k 0 := ⟨_, rfl⟩
                rw [← hz] at cZ
                have hand := and16 z
                have hp1 : 0 ≤ z % 65536 % (n : Int) := Int.emod_nonneg _ (by omega)
                have hp2 : z % 65536 % (n : Int) < (n : Int) := Int.emod_lt_of_pos _ (by omega)
                obtain ⟨id, hid⟩ := Int.eq_ofNat_of_zero_le hp1
                have htm : (z % 65536).tmod (n : Int) = (id : Int) := by
                  rw [Int.tmod_eq_emod_of_nonneg (by omega)]; exact hid
                have hidn : id < n := by omega
                have hidn' : (id : Int) < (n : Int) := by omega
                have hbl := hseen.1
                have cB : wr.cell? ⟨sn, id, none⟩ = some (.bool (bs.getD id false)) := (hsat.front3.cell id).trans (get_bls (by omega))
                have fB : wr.frozen? ⟨sn, id, none⟩ = false := hsat.front3.frozen id
                have hsid := hseen.2 id hidn
                have hz0 : 0 ≤ z % 65536 := by omega
                have Hs0 := SL.hid hsat
                rw [← hm]
                clear hz cz hseen h3 hside hp1 hp2 hbl hm hsat
                by_cases hbv : bs.getD id false = true
                · rw [hbv] at cB
                  clear hsid hbv
                  go_wp2
                  go_roundw
                  case rel => exact ⟨k + 1, L, M, bs, by omega, by go_num, by rw [Hm.out]; exact H3.out, Hseen.out, by rw [Hm.out]; exact Hs0.out, Hside.out⟩
                  case measure => simp [intOf]; omega
                · have hbf : bs.getD id false = false := by simpa using hbv
                  rw [hbf] at cB
                  have hnew : (id : Int) ∉ M.map Prod.fst := fun h => hbv (hsid.2 h)
                  have Hnew := SL.hid hnew
                  have hset := Hs0.out.front3.setCell id (.bool true)
                  rw [set_bls] at hset
                  have D6 := Hside.out.setCell ⟨sn, id, none⟩ (.bool true)
                  have cD : (wr.setCell ⟨sn, id, none⟩ (.bool true)).cell? ⟨b, off + i * 3 + 1, none⟩ = some (.int .i64 xd) := Hold.out _ _ Hc1.out _ _ (hset.to (by ac_rfl : _ = (pt sn (.cells (bls (bs.set id true)) 4 (0, 0)) * (wrsA (.slice va L.length vc) L * pt hb (.cells (ints (updH hs M)) 3 (0, 0)))) * Y))
                  have hand8 := and8 xd
                  have hx8 : 0 ≤ xd % 256 := by omega
                  have hx9 : xd % 256 < 256 := by omega
                  have Hset := SL.hid hset; have HD6 := SL.hid D6
                  clear hsid hbv hbf hnew hset D6
                  go_wp2_with fail
                  generalize wr.setCell ⟨sn, id, none⟩ (.bool true) = w6 at Hset HD6 cD ⊢
                  refine (block_any (xd % 256 + (k : Int)) w6).mono ?_
                  rintro e w7 ⟨gb, rfl, h7, d7⟩
                  obtain ⟨q, hq⟩ : ∃ q, q = xd % 256 + (k : Int) := ⟨_, rfl⟩
                  have hq0 : 0 ≤ q := by omega
                  have H7 := h7.under Hset.out
                  have H8 : Sat w7 (sl 53 2 (.slice va L.length vc) L.length (SL.flatW L.wr) * (pt gb (.cells (u8s (bj (xd % 256 + (k : Int)))) 5 (0, 0)) * (blksA (L.map fun x => (x.1, x.2.2)) * (pt sn (.cells (bls (bs.set id true)) 4 (0, 0)) * (pt hb (.cells (ints (updH hs M)) 3 (0, 0)) * Y))))) := H7.to (by unfold wrsA; ac_rfl)
                  obtain ⟨a', c', w8, hrun, h9, d9⟩ := append_write (Z := L.wr) H8 (id : Int) gb (bj (xd % 256 + (k : Int))) (by omega)
                  rw [← Hm.out] at hrun h9
                  have D9 := (HD6.out.trans d7).trans d9
                  have H9 : Sat w8 (pt hb (.cells (ints (updH hs M)) 3 (0, 0)) * (sl 53 2 (.slice a' (m + 1) c') (m + 1) (SL.flatW (L.wr ++ [((id : Int), .slice (some ⟨gb, 0, none⟩) 480 480, bj (xd % 256 + (k : Int)))])) * (pt gb (.cells (u8s (bj (xd % 256 + (k : Int)))) 5 (0, 0)) * (blksA (L.map fun x => (x.1, x.2.2)) * (pt sn (.cells (bls (bs.set id true)) 4 (0, 0)) * Y))))) := h9.to (by ac_rfl)
                  have cD8 : w8.cell? ⟨b, off + i * 3 + 1, none⟩ = some (.int .i64 xd) := Hold.out _ _ Hc1.out _ _ (H9.to (by ac_rfl : _ = (pt hb (.cells (ints (updH hs M)) 3 (0, 0)) * (sl 53 2 (.slice a' (m + 1) c') (m + 1) (SL.flatW (L.wr ++ [((id : Int), .slice (some ⟨gb, 0, none⟩) 480 480, bj (xd % 256 + (k : Int)))])) * (pt gb (.cells (u8s (bj (xd % 256 + (k : Int)))) 5 (0, 0)) * (blksA (L.map fun x => (x.1, x.2.2)) * pt sn (.cells (bls (bs.set id true)) 4 (0, 0)))))) * Y))
                  have hul : (updH hs M).length = n := by rw [updH_len]; exact Hhl.out
                  have cH : w8.cell? ⟨hb, id, none⟩ = some (.int .i64 ((updH hs M).getD id 0)) := (H9.cell id).trans (get_ints_lt (by omega))
                  have fH : w8.frozen? ⟨hb, id, none⟩ = false := H9.frozen id
                  have hset2 := H9.setCell id (.int .i64 (xd % 256 + (k : Int)))
                  rw [set_ints] at hset2
                  have eU : (updH hs M).set id (xd % 256 + (k : Int)) = updH hs (M ++ [((id : Int), xd % 256 + (k : Int))]) := by rw [updH_snoc]; rfl
                  rw [eU] at hset2
                  generalize (updH hs M).getD id 0 = uo at cH
                  have Hset2 := SL.hid hset2; have HD9 := SL.hid D9; have Hrun := SL.hid hrun; have Hq0 := SL.hid hq0; have Hq := SL.hid hq
                  clear h7 d7 H7 H8 h9 d9 H9 D9 hset2 hrun hul eU cD hq0 hq
                  go_wp2_with (at_builtin; refine wpList_append_run Hrun.out _ _ rfl rfl rfl rfl rfl ?_)
                  go_roundw
                  case rel =>
                    have hlen : (L ++ [(gb, (id : Int), bj (xd % 256 + (k : Int)))]).length = m + 1 := by rw [List.length_append, ← Hm.out]; rfl
                    refine ⟨k + 1, L ++ [(gb, (id : Int), bj (xd % 256 + (k : Int)))], M ++ [((id : Int), xd % 256 + (k : Int))], bs.set id true, by omega, by go_num, ⟨⟨a', c', by rw [hlen]⟩, ?_, by rw [hlen]; omega, ?_, ?_⟩, seen_snoc Hseen.out hidn _, ?_, HD9.out.setCell _ _⟩
                    · have := H3.out.bl
                      simp only [Wo.bl, mBl, List.map_append, List.map_cons, List.map_nil] at this ⊢
                      rw [this]
                    · intro p hp
                      rcases List.mem_append.1 hp with hp | hp
                      · exact H3.out.mok p hp
                      · rw [List.mem_singleton.1 hp]
                        exact ⟨by omega, hidn', by omega⟩
                    · rw [List.map_append, List.nodup_append]
                      refine ⟨H3.out.nd, by simp, fun x hx y hy => ?_⟩
                      rw [List.map_cons, List.map_nil, List.mem_singleton] at hy
                      rintro rfl
                      rw [hy] at hx
                      exact Hnew.out hx
                    · have h := Hset2.out
                      unfold wrsA
                      have e2 : Wo.wr (L ++ [(gb, (id : Int), bj (xd % 256 + (k : Int)))]) = Wo.wr L ++ [((id : Int), .slice (some ⟨gb, 0, none⟩) 480 480, bj (xd % 256 + (k : Int)))] := by simp [Wo.wr]
                      have e3 : (L ++ [(gb, (id : Int), bj (xd % 256 + (k : Int)))]).map (fun x => (x.1, x.2.2)) = L.map (fun x => (x.1, x.2.2)) ++ [(gb, bj (xd % 256 + (k : Int)))] := by simp
                      rw [hlen, e2, e3, blksA_snoc]
                      exact h.to (by ac_rfl)
                  case measure => simp [intOf]; omega
              · have fin : N3Out n hb hs Y w (.slice va L.length vc) wr := ⟨L, M, h3, (hsat.to (by ac_rfl : _ = pt sn (.cells (bls bs) 4 (0, 0)) * (wrsA (.slice va L.length vc) L * (pt hb (.cells (ints (updH hs M)) 3 (0, 0)) * Y)))).right, hside⟩
                have Hfin := SL.hid fin
                rw [← hm] at fin hgo ⊢
                clear fin hsat hside h3 hseen hm hl24
                by_cases hkx : k < xl
                · have hkx' : (k : Int) < (xl : Int) := by omega
                  have hm24 : ¬ (m : Int) < 24 := fun h => hgo ⟨hkx, by omega⟩
                  go_wp2_with fail
                  go_meet
                  rw [Hm.out]; exact Hfin.out
                · have hkx' : ¬ (k : Int) < (xl : Int) := by omega
                  go_wp2_with fail
                  go_meet
                  rw [Hm.out]; exact Hfin.out
          case rest =>
            clear H6h HD5
            obtain ⟨L, M, h3, hsat, hside⟩ := hcut
            obtain ⟨va, vc, rfl⟩ := h3.sh
            obtain ⟨m, hm⟩ : ∃ m, m = L.length := ⟨_, rfl⟩
            have hl24 := h3.l24
            have hMl : M.length = L.length := by
              have := congrArg List.length h3.bl
              simpa [Wo.bl, mBl] using this.symm
            have hm24 : (m : Int) ≤ 24 := by omega
            have H3 := SL.hid h3; have Hm := SL.hid hm; have Hside := SL.hid hside
            rw [← hm]
            by_cases h0 : m = 0
            · have hM0 : M = [] := List.eq_nil_of_length_eq_zero (by omega)
              have hs0 : Sat wc (jrA j d J * (devA S d D * (pool S * (pt hb (.cells (ints hs) 3 (0, 0)) * whole w)))) := by
                rw [hM0] at hsat
                exact (hsat.right.to (by rw [HY.out]; show pt hb (.cells (ints hs) 3 (0, 0)) * _ = _; ac_rfl))
              have Hs0 := SL.hid hs0
              have h0' : (m : Int) = 0 := by omega
              clear hsat hside h3 hm hs0 hM0 hMl hl24 h0
              go_wp2
              go_roundw
              case rel => exact ⟨i + 1, S, J, D, has, hs, by omega, by go_num, Hhl.out, HH.out, jw_more HW.out (by omega), Hs0.out, Hside.out⟩
              case measure => simp [intOf]; omega
            · have h0' : decide ((m : Int) = 0) = false := by simpa using h0
              have h0n : ¬ (m : Int) = 0 := by omega
              have hs1 : Sat wc (devA S d D * (wrsA (.slice va L.length vc) L * (pt hb (.cells (ints (updH hs M)) 3 (0, 0)) * (jrA j d J * (pool S * whole w))))) := hsat.to (by rw [HY.out]; ac_rfl)
              have hcnt := counts_any wc S d D _ hs1
              have Hs1 := SL.hid hs1
              have HMl := SL.hid hMl
              clear hsat hside h3 hs1 h0 hm hMl hl24
              go_wp2_with fail
              (with_reducible refine hcnt.mono ?_)
              rintro e w8 ⟨rfl, h8, d8⟩
              have H8 := (h8.keepW Hs1.out).alloc (.cells #[.int .i64 D.cr, .int .i64 D.cw, .int .i64 D.cf] 62 (0, 0))
              have D8 := (Hside.out.trans d8).alloc (.cells #[.int .i64 D.cr, .int .i64 D.cw, .int .i64 D.cf] 62 (0, 0))
              clear hcnt h8 d8 Hs1
              go_wp2_with fail
              generalize w8.alloc (.cells #[.int .i64 D.cr, .int .i64 D.cw, .int .i64 D.cf] 62 (0, 0)) = w9 at H8 D8 ⊢
              generalize w8.heap.size = cb at H8 ⊢
              obtain ⟨OC, hOC⟩ : ∃ o, o = Obj.cells #[.int .i64 D.cr, .int .i64 D.cw, .int .i64 D.cf] 62 (0, 0) := ⟨_, rfl⟩
              rw [← hOC] at H8
              have hbt : Batch (n : Int) L.bl := by
                rw [H3.out.bl]
                have e1 := HMl.out; have e2 := Hm.out
                refine ⟨by rw [List.length_map]; omega, by rw [List.length_map]; omega, fun x hx => ?_, fun x hx => ?_, ?_⟩
                · obtain ⟨p, hp, rfl⟩ := List.mem_map.1 hx
                  have := H3.out.mok p hp
                  exact ⟨this.1, this.2.1⟩
                · obtain ⟨p, hp, rfl⟩ := List.mem_map.1 hx
                  exact bj_len _
                · rw [List.map_map]; exact H3.out.nd
              have h480 : ∀ x ∈ L, x.2.2.length = 480 := fun x hx => by
                have : (x.2.1, x.2.2) ∈ Wo.bl L := List.mem_map.2 ⟨x, hx, rfl⟩
                exact hbt.b480 _ this
              have hcm := cyes_any w9 S j d J D (pt cb OC * (pt hb (.cells (ints (updH hs M)) 3 (0, 0)) * whole w)) (.slice va L.length vc) L has (H8.to (by ac_rfl)) HW.out hP0 (by omega) h480 hbt
              have hH2 : HasOf n (updB has L.bl) (updH hs M) := by
                rw [H3.out.bl]
                exact hasOf_upd M has hs Hhl.out HH.out H3.out.mok H3.out.nd
              have HOC := SL.hid hOC; have HH2 := SL.hid hH2
              rw [← Hm.out] at hcm
              have e0 := HW.out.cr0; have e1 := HW.out.cr1; have e2 := HW.out.cw0; have e3 := HW.out.cw1; have e4 := HW.out.cf0; have e5 := HW.out.cf1
              clear hOC hH2 H8 hbt h480
              (with_reducible refine hcm.mono ?_)
              rintro e w10 ⟨S7, J7, D7, E7, rfl, h10, d10, hW7, f1, f2, f3, f4, f5, hsq7⟩
              rw [← Hm.out] at f2 f4
              have HW7 := SL.hid hW7
              have H10 : Sat w10 (devA S7 d D7 * (pt cb OC * (jrA j d J7 * (pool S7 * (pt hb (.cells (ints (updH hs M)) 3 (0, 0)) * whole w))))) := by
                have := (h10.to (by ac_rfl : _ = wrsA (.slice va m vc) L * (devA S7 d D7 * (pt cb OC * (jrA j d J7 * (pool S7 * (pt hb (.cells (ints (updH hs M)) 3 (0, 0)) * whole w))))))).right
                exact this
              have hcnt2 := counts_any w10 S7 d D7 _ H10
              have H10h := SL.hid H10
              have D10 := SL.hid (D8.trans d10)
              have F5 := SL.hid f5
              clear hcm h10 d10 hW7 D8 H10 hsq7 f5
              go_wp2_with fail
              (with_reducible refine hcnt2.mono ?_)
              rintro e w11 ⟨rfl, h11, d11⟩
              have H11 := (h11.keepW H10h.out).alloc (.cells #[.int .i64 D7.cr, .int .i64 D7.cw, .int .i64 D7.cf] 62 (0, 0))
              have D11 := (D10.out.trans d11).alloc (.cells #[.int .i64 D7.cr, .int .i64 D7.cw, .int .i64 D7.cf] 62 (0, 0))
              clear hcnt2 h11 d11 H10h D10
              go_upto_region 32 with (fail)
              generalize w11.alloc (.cells #[.int .i64 D7.cr, .int .i64 D7.cw, .int .i64 D7.cf] 62 (0, 0)) = w12 at H11 D11 ⊢
              generalize w11.heap.size = cb2 at H11 ⊢
              have hf := H11.front3
              rw [HOC.out] at hf
              have y0 : w12.cell? ⟨cb2, 0, none⟩ = some (.int .i64 D7.cr) := H11.cell 0
              have y1 : w12.cell? ⟨cb2, 1, none⟩ = some (.int .i64 D7.cw) := H11.cell 1
              have y2 : w12.cell? ⟨cb2, 2, none⟩ = some (.int .i64 D7.cf) := H11.cell 2
              have x0 : w12.cell? ⟨cb, 0, none⟩ = some (.int .i64 D.cr) := hf.cell 0
              have x1 : w12.cell? ⟨cb, 1, none⟩ = some (.int .i64 D.cw) := hf.cell 1
              have x2 : w12.cell? ⟨cb, 2, none⟩ = some (.int .i64 D.cf) := hf.cell 2
              rw [F5.out] at y2
              have Hs := SL.hid (H11.to (by ac_rfl : _ = (pt cb2 (.cells #[.int .i64 D7.cr, .int .i64 D7.cw, .int .i64 D7.cf] 62 (0, 0)) * pt cb OC) * (jrA j d J7 * (devA S7 d D7 * (pool S7 * (pt hb (.cells (ints (updH hs M)) 3 (0, 0)) * whole w)))))).right
              have HD := SL.hid D11
              clear H11 D11 hf F5
              have hi200 : (i : Int) ≤ 200 := hi'
              generalize D.cr = r0 at *
              generalize D.cw = r1 at *
              generalize D.cf = r2 at *
              generalize D7.cr = s0 at *
              generalize D7.cw = s1 at *
              have g0 : decide (2 * (m : Int) < s0 - r0) = false := by simp; omega
              have g1 : decide (3 * (m : Int) < s1 - r1) = false := by simp; omega
              go_wp2
              go_roundw
              case rel => exact ⟨i + 1, S7, J7, D7, updB has L.bl, updH hs M, by omega, by go_num, by rw [updH_len]; exact Hhl.out, HH2.out, HW7.out, Hs.out, HD.out⟩
              case measure => simp [intOf]; omega
        · have hd : (decide ((i : Int) < (len2 : Int)) && decide ((i : Int) < 200)) = false := by
            rw [Bool.and_eq_false_iff]
            by_cases h : i < len2
            · exact .inr (by simp; omega)
            · exact .inl (by simp; omega)
          have fin : N2Out n P j d hb w wr := ⟨S, J, D, has, hs, hhl, hH, jw_more hW (by omega), hsat, hside⟩
          have Hfin := SL.hid fin
          clear fin hsat hside hW hH
          by_cases hl : i < len2
          · have hl' : (i : Int) < (len2 : Int) := by omega
            obtain rfl : i = 200 := by omega
            go_wp2_with fail
            go_meet
            exact Hfin.out
          · have hl' : ¬ (i : Int) < (len2 : Int) := by omega
            go_wp2_with fail
            go_meet
            exact Hfin.out
    case rest =>
      clear hsat hside HZ2
      obtain ⟨S, J, D, has, hs, hhl, hH, hW, hsat, hside⟩ := hcut
      go_upto_block 6 with (fail)
      go_wp2_with fail
      go_loopw [23] (fun u wr => N4Rel n P j d hb 200 J has hs w u wr) (fun u _ => n - (intOf u).toNat)
      case atStart => exact ⟨0, 200, S, D, Nat.zero_le _, rfl, rfl, hW, hsat, hside⟩
      case round =>
        clear hsat hside hW
        obtain ⟨i, B2, S, D, hi, rfl, hB2, hW, hsat, hside⟩ := hrel
        by_cases hlt : i < n
        · have hlt' : (i : Int) < (n : Int) := by omega
          have hHi := hH i hlt
          have hrd := jreadC_any wr S j d J D (pt hb (.cells (ints hs) 3 (0, 0)) * whole w) has hsat hW (by omega) (id := (i : Int)) (by omega) (by omega)
          have HW := SL.hid hW; have Hside := SL.hid hside
          clear hsat hW hside
          go_wp2_with fail
          (with_reducible refine hrd.mono ?_)
          rintro e w10 ⟨dv, r, rfl, h10, d10, r1, r2⟩
          obtain ⟨l, hl⟩ : ∃ l, l = (has (i : Int)).getD (zs 480) := ⟨_, rfl⟩
          rw [← hl] at h10
          obtain ⟨x, hx⟩ : ∃ x, x = hs.getD i 0 := ⟨_, rfl⟩
          have hx2 : (x = -1 ∧ l = zs 480) ∨ (0 ≤ x ∧ l = bj x) := by
            rcases hHi with ⟨a, b⟩ | ⟨a, b⟩
            · rw [b] at hl; exact .inl ⟨by rw [hx]; exact a, hl⟩
            · rw [b] at hl; exact .inr ⟨by rw [hx]; exact a, by rw [hl, hx]; rfl⟩
          have hl480 : l.length = 480 := by
            rcases hx2 with ⟨_, e⟩ | ⟨_, e⟩ <;> rw [e]
            · exact length_zs 480
            · exact bj_len x
          rcases h10.slCases with ⟨_, h0, _⟩ | ⟨g, cap2, cur2, rfl, q3, q4, q7, q8, q9⟩
          · omega
          clear q7 q8 q9
          rw [hl480] at h10 q3 ⊢
          have hcap480 : (480 : Int) ≤ (cap2 : Int) := by omega
          have hcap2m : (cap2 : Int) ≤ 9223372036854775807 := by unfold maxLen at q4; omega
          obtain ⟨BIG, hBIG⟩ : ∃ X, X = bs 5 (.slice (some ⟨g, 0, none⟩) 480 cap2) l * (jrA j d J * (devA S d { D with cr := r } * (pool S * (pt hb (.cells (ints hs) 3 (0, 0)) * whole w)))) := ⟨_, rfl⟩
          have H10 : Sat w10 BIG := hBIG ▸ h10
          have HB := SL.hid hBIG
          have cx : ∀ w', Sat w' BIG → (convert 51 9 (.slice (some ⟨g, 0, none⟩) 480 cap2)).run Try.prog w' = .ok (.string (str l)) w' := fun w' h => run_text w' _ _ (HB.out ▸ h).bsRd
          have cc : ∀ w', Sat w' BIG → w'.cell? ⟨hb, i, none⟩ = some (.int .i64 x) := fun w' h => by
            have h' : Sat w' (pt hb (.cells (ints hs) 3 (0, 0)) * (bs 5 (.slice (some ⟨g, 0, none⟩) 480 cap2) l * (jrA j d J * (devA S d { D with cr := r } * (pool S * whole w))))) := h.to (by rw [HB.out]; ac_rfl)
            rw [hx]; exact (h'.cell i).trans (get_ints_lt (by omega))
          have HW2 := SL.hid (jw_cr HW.out r1 r2)
          have D10 := SL.hid (Hside.out.trans d10)
          clear hrd h10 d10 r1 r2 hBIG hl Hside HW hx q3 q4
          go_wp2_with fail
          go_cut [238] from 200 to 238 (fun u238 wx => u238 = .bool false ∧ Sat wx BIG ∧ Side w wx)
          case first =>
            rcases hx2 with ⟨rfl, hle⟩ | ⟨hx0, hle⟩
            · rw [hle] at cx
              have hmk : ∀ w, (Instr.makeSlice 51 (.int .i64 480) (.int .i64 480)).run Try.prog w =
                .ok (.slice (some ⟨w.heap.size, 0, none⟩) 480 480) (w.alloc (.cells (u8s (zs 480)) 5 (0, 0))) := make_bytes 480 (by omega)
              have kz : (convert 51 9 (.slice (some ⟨w10.heap.size, 0, none⟩) 480 480)).run Try.prog (w10.alloc (.cells (u8s (zs 480)) 5 (0, 0))).drew = .ok (.string (str (zs 480))) (w10.alloc (.cells (u8s (zs 480)) 5 (0, 0))).drew := by
                have := rd_row (c := 480) (H10.alloc (.cells (u8s (zs 480)) 5 (0, 0))).heap
                rw [length_zs] at this
                exact run_text _ _ _ (show Rd (w10.alloc (.cells (u8s (zs 480)) 5 (0, 0))).drew _ _ from this)
              have HAl : Sat (w10.drew.alloc (.cells (u8s (zs 480)) 5 (0, 0))) BIG := (H10.drew.alloc _).right
              have DAl : Side w (w10.alloc (.cells (u8s (zs 480)) 5 (0, 0))).drew := (D10.out.alloc _).drew
              go_wp2_with fail
              refine wp_region_held_drew (S := (fun w' => Sat w' BIG)) (by kernel_rfl) ?_ (fun hHeld => ?_)
              · first | exact H10.drew | exact HAl | assumption
              refine wpAnyH_take (i := 0) (v := ?_) rfl (by kernel_rfl) (by kernel_rfl) (by kernel_rfl) (fun _ _ _ h => h) (Or.inl ⟨by kernel_rfl, ?_⟩) (by assumption) ?_
              rotate_left
              · intro w hSw; (try dsimp only at hSw); go_simp; try with_reducible rfl
              try simp only [List.getElem_toArray, List.getElem_cons_succ, List.getElem_cons_zero, Act.put, List.setIfInBounds_toArray, List.set_cons_zero, List.set_cons_succ]
              refine wpAnyH_take (i := 1) (v := ?_) rfl (by kernel_rfl) (by kernel_rfl) (by kernel_rfl) (fun _ _ _ h => h) (Or.inl ⟨by kernel_rfl, ?_⟩) (by assumption) ?_
              rotate_left
              · intro w hSw; (try dsimp only at hSw); go_simp; try with_reducible rfl
              try simp only [List.getElem_toArray, List.getElem_cons_succ, List.getElem_cons_zero, Act.put, List.setIfInBounds_toArray, List.set_cons_zero, List.set_cons_succ]
              refine wpAnyH_take (i := 2) (v := ?_) rfl (by kernel_rfl) (by kernel_rfl) (by kernel_rfl) (fun _ _ _ h => h) (Or.inl ⟨by kernel_rfl, ?_⟩) (by assumption) ?_
              rotate_left
              · intro w hSw; (try dsimp only at hSw); go_simp; try with_reducible rfl
              try simp only [List.getElem_toArray, List.getElem_cons_succ, List.getElem_cons_zero, Act.put, List.setIfInBounds_toArray, List.set_cons_zero, List.set_cons_succ]
              refine wpAnyH_take (i := 3) (v := ?_) rfl (by kernel_rfl) (by kernel_rfl) (by kernel_rfl) (fun _ _ _ h => h) (Or.inl ⟨by kernel_rfl, ?_⟩) (by assumption) ?_
              rotate_left
              · intro w hSw; (try dsimp only at hSw); go_simp; try with_reducible rfl
              try simp only [List.getElem_toArray, List.getElem_cons_succ, List.getElem_cons_zero, Act.put, List.setIfInBounds_toArray, List.set_cons_zero, List.set_cons_succ]
              refine wpAnyH_take (i := 4) (v := ?_) rfl (by kernel_rfl) (by kernel_rfl) (by kernel_rfl) (fun _ _ _ h => h) (Or.inl ⟨by kernel_rfl, ?_⟩) (by assumption) ?_
              rotate_left
              · intro w hSw; (try dsimp only at hSw); go_simp; try with_reducible rfl
              try simp only [List.getElem_toArray, List.getElem_cons_succ, List.getElem_cons_zero, Act.put, List.setIfInBounds_toArray, List.set_cons_zero, List.set_cons_succ]
              refine wpAnyH_take (i := 5) (v := ?_) rfl (by kernel_rfl) (by kernel_rfl) (by kernel_rfl) (fun _ _ _ h => h) (Or.inl ⟨by kernel_rfl, ?_⟩) (by assumption) ?_
              rotate_left
              · intro w hSw; (try dsimp only at hSw); go_simp; try with_reducible rfl
              try simp only [List.getElem_toArray, List.getElem_cons_succ, List.getElem_cons_zero, Act.put, List.setIfInBounds_toArray, List.set_cons_zero, List.set_cons_succ]
              refine wpAnyH_take (i := 6) (v := ?_) rfl (by kernel_rfl) (by kernel_rfl) (by kernel_rfl) (fun _ _ _ h => h) (Or.inl ⟨by kernel_rfl, ?_⟩) (by assumption) ?_
              rotate_left
              · intro w hSw; (try dsimp only at hSw); go_simp; try with_reducible rfl
              try simp only [List.getElem_toArray, List.getElem_cons_succ, List.getElem_cons_zero, Act.put, List.setIfInBounds_toArray, List.set_cons_zero, List.set_cons_succ]
              refine wpAnyH_take (i := 7) (v := ?_) rfl (by kernel_rfl) (by kernel_rfl) (by kernel_rfl) (fun _ _ _ h => h) (Or.inl ⟨by kernel_rfl, ?_⟩) (by assumption) ?_
              rotate_left
              · intro w hSw; (try dsimp only at hSw); go_simp; try with_reducible rfl
              try simp only [List.getElem_toArray, List.getElem_cons_succ, List.getElem_cons_zero, Act.put, List.setIfInBounds_toArray, List.set_cons_zero, List.set_cons_succ]
              refine wpAnyH_take (i := 8) (v := ?_) rfl (by kernel_rfl) (by kernel_rfl) (by kernel_rfl) (fun _ _ _ h => h) (Or.inl ⟨by kernel_rfl, ?_⟩) (by assumption) ?_
              rotate_left
              · intro w hSw; (try dsimp only at hSw); go_simp; try with_reducible rfl
              try simp only [List.getElem_toArray, List.getElem_cons_succ, List.getElem_cons_zero, Act.put, List.setIfInBounds_toArray, List.set_cons_zero, List.set_cons_succ]
              refine wpAnyH_take (i := 9) (v := ?_) rfl (by kernel_rfl) (by kernel_rfl) (by kernel_rfl) (fun _ _ _ h => h) (Or.inl ⟨by kernel_rfl, ?_⟩) (by assumption) ?_
              rotate_left
              · intro w hSw; (try dsimp only at hSw); go_simp; try with_reducible rfl
              try simp only [List.getElem_toArray, List.getElem_cons_succ, List.getElem_cons_zero, Act.put, List.setIfInBounds_toArray, List.set_cons_zero, List.set_cons_succ]
              refine wpAnyH_take (i := 10) (v := ?_) rfl (by kernel_rfl) (by kernel_rfl) (by kernel_rfl) (fun _ _ _ h => h) (Or.inl ⟨by kernel_rfl, ?_⟩) (by assumption) ?_
              rotate_left
              · intro w hSw; (try dsimp only at hSw); go_simp; try with_reducible rfl
              try simp only [List.getElem_toArray, List.getElem_cons_succ, List.getElem_cons_zero, Act.put, List.setIfInBounds_toArray, List.set_cons_zero, List.set_cons_succ]
              refine wpAnyH_take (i := 11) (v := ?_) rfl (by kernel_rfl) (by kernel_rfl) (by kernel_rfl) (fun _ _ _ h => h) (Or.inl ⟨by kernel_rfl, ?_⟩) (by assumption) ?_
              rotate_left
              · intro w hSw; (try dsimp only at hSw); go_simp; try with_reducible rfl
              try simp only [List.getElem_toArray, List.getElem_cons_succ, List.getElem_cons_zero, Act.put, List.setIfInBounds_toArray, List.set_cons_zero, List.set_cons_succ]
              refine wpAnyH_take (i := 12) (v := ?_) rfl (by kernel_rfl) (by kernel_rfl) (by kernel_rfl) (fun _ _ _ h => h) (Or.inl ⟨by kernel_rfl, ?_⟩) (by assumption) ?_
              rotate_left
              · intro w hSw; (try dsimp only at hSw); go_simp; try with_reducible rfl
              try simp only [List.getElem_toArray, List.getElem_cons_succ, List.getElem_cons_zero, Act.put, List.setIfInBounds_toArray, List.set_cons_zero, List.set_cons_succ]
              refine wpAnyH_take (i := 13) (v := ?_) rfl (by kernel_rfl) (by kernel_rfl) (by kernel_rfl) (fun _ _ _ h => h) (Or.inl ⟨by kernel_rfl, ?_⟩) (by assumption) ?_
              rotate_left
              · intro w hSw; (try dsimp only at hSw); go_simp; try with_reducible rfl
              try simp only [List.getElem_toArray, List.getElem_cons_succ, List.getElem_cons_zero, Act.put, List.setIfInBounds_toArray, List.set_cons_zero, List.set_cons_succ]
              refine wpAnyH_take (i := 14) (v := undef) rfl (by kernel_rfl) (by kernel_rfl) (by kernel_rfl) (fun _ _ _ h => h) (Or.inr ⟨by kernel_rfl, rfl⟩) (by assumption) ?_
              simp only [List.getElem_toArray, List.getElem_cons_succ, List.getElem_cons_zero, Act.put, List.setIfInBounds_toArray, List.set_cons_zero, List.set_cons_succ]
              refine wpAnyH_take (i := 15) (v := undef) rfl (by kernel_rfl) (by kernel_rfl) (by kernel_rfl) (fun _ _ _ h => h) (Or.inr ⟨by kernel_rfl, rfl⟩) (by assumption) ?_
              simp only [List.getElem_toArray, List.getElem_cons_succ, List.getElem_cons_zero, Act.put, List.setIfInBounds_toArray, List.set_cons_zero, List.set_cons_succ]
              refine wpAnyH_take (i := 16) (v := undef) rfl (by kernel_rfl) (by kernel_rfl) (by kernel_rfl) (fun _ _ _ h => h) (Or.inr ⟨by kernel_rfl, rfl⟩) (by assumption) ?_
              simp only [List.getElem_toArray, List.getElem_cons_succ, List.getElem_cons_zero, Act.put, List.setIfInBounds_toArray, List.set_cons_zero, List.set_cons_succ]
              refine wpAnyH_take (i := 17) (v := undef) rfl (by kernel_rfl) (by kernel_rfl) (by kernel_rfl) (fun _ _ _ h => h) (Or.inr ⟨by kernel_rfl, rfl⟩) (by assumption) ?_
              simp only [List.getElem_toArray, List.getElem_cons_succ, List.getElem_cons_zero, Act.put, List.setIfInBounds_toArray, List.set_cons_zero, List.set_cons_succ]
              refine wpAnyH_take (i := 18) (v := undef) rfl (by kernel_rfl) (by kernel_rfl) (by kernel_rfl) (fun _ _ _ h => h) (Or.inr ⟨by kernel_rfl, rfl⟩) (by assumption) ?_
              simp only [List.getElem_toArray, List.getElem_cons_succ, List.getElem_cons_zero, Act.put, List.setIfInBounds_toArray, List.set_cons_zero, List.set_cons_succ]
              refine wpAnyH_take (i := 19) (v := undef) rfl (by kernel_rfl) (by kernel_rfl) (by kernel_rfl) (fun _ _ _ h => h) (Or.inr ⟨by kernel_rfl, rfl⟩) (by assumption) ?_
              simp only [List.getElem_toArray, List.getElem_cons_succ, List.getElem_cons_zero, Act.put, List.setIfInBounds_toArray, List.set_cons_zero, List.set_cons_succ]
              refine wpAnyH_take (i := 20) (v := undef) rfl (by kernel_rfl) (by kernel_rfl) (by kernel_rfl) (fun _ _ _ h => h) (Or.inr ⟨by kernel_rfl, rfl⟩) (by assumption) ?_
              simp only [List.getElem_toArray, List.getElem_cons_succ, List.getElem_cons_zero, Act.put, List.setIfInBounds_toArray, List.set_cons_zero, List.set_cons_succ]
              refine wpAnyH_take (i := 21) (v := undef) rfl (by kernel_rfl) (by kernel_rfl) (by kernel_rfl) (fun _ _ _ h => h) (Or.inr ⟨by kernel_rfl, rfl⟩) (by assumption) ?_
              simp only [List.getElem_toArray, List.getElem_cons_succ, List.getElem_cons_zero, Act.put, List.setIfInBounds_toArray, List.set_cons_zero, List.set_cons_succ]
              refine wpAnyH_take (i := 22) (v := undef) rfl (by kernel_rfl) (by kernel_rfl) (by kernel_rfl) (fun _ _ _ h => h) (Or.inr ⟨by kernel_rfl, rfl⟩) (by assumption) ?_
              simp only [List.getElem_toArray, List.getElem_cons_succ, List.getElem_cons_zero, Act.put, List.setIfInBounds_toArray, List.set_cons_zero, List.set_cons_succ]
              refine wpAnyH_take (i := 23) (v := ?_) rfl (by kernel_rfl) (by kernel_rfl) (by kernel_rfl) (fun _ _ _ h => h) (Or.inl ⟨by kernel_rfl, ?_⟩) (by assumption) ?_
              rotate_left
              · intro w hSw; (try dsimp only at hSw); go_simp; try with_reducible rfl
              try simp only [List.getElem_toArray, List.getElem_cons_succ, List.getElem_cons_zero, Act.put, List.setIfInBounds_toArray, List.set_cons_zero, List.set_cons_succ]
              refine wpAnyH_take (i := 24) (v := ?_) rfl (by kernel_rfl) (by kernel_rfl) (by kernel_rfl) (fun _ _ _ h => h) (Or.inl ⟨by kernel_rfl, ?_⟩) (by assumption) ?_
              rotate_left
              · intro w hSw; (try dsimp only at hSw); go_simp; try with_reducible rfl
              try simp only [List.getElem_toArray, List.getElem_cons_succ, List.getElem_cons_zero, Act.put, List.setIfInBounds_toArray, List.set_cons_zero, List.set_cons_succ]
              refine wpAnyH_take (i := 25) (v := ?_) rfl (by kernel_rfl) (by kernel_rfl) (by kernel_rfl) (fun _ _ _ h => h) (Or.inl ⟨by kernel_rfl, ?_⟩) (by assumption) ?_
              rotate_left
              · intro w hSw; (try dsimp only at hSw); go_simp; try with_reducible rfl
              try simp only [List.getElem_toArray, List.getElem_cons_succ, List.getElem_cons_zero, Act.put, List.setIfInBounds_toArray, List.set_cons_zero, List.set_cons_succ]
              refine wpAnyH_take (i := 26) (v := ?_) rfl (by kernel_rfl) (by kernel_rfl) (by kernel_rfl) (fun _ _ _ h => h) (Or.inl ⟨by kernel_rfl, ?_⟩) (by assumption) ?_
              rotate_left
              · intro w hSw; (try dsimp only at hSw); go_simp; try with_reducible rfl
              try simp only [List.getElem_toArray, List.getElem_cons_succ, List.getElem_cons_zero, Act.put, List.setIfInBounds_toArray, List.set_cons_zero, List.set_cons_succ]
              refine wpAnyH_take (i := 27) (v := ?_) rfl (by kernel_rfl) (by kernel_rfl) (by kernel_rfl) (fun _ _ _ h => h) (Or.inl ⟨by kernel_rfl, ?_⟩) (by assumption) ?_
              rotate_left
              · intro w hSw; (try dsimp only at hSw); go_simp; try with_reducible rfl
              try simp only [List.getElem_toArray, List.getElem_cons_succ, List.getElem_cons_zero, Act.put, List.setIfInBounds_toArray, List.set_cons_zero, List.set_cons_succ]
              refine wpAnyH_take (i := 28) (v := ?_) rfl (by kernel_rfl) (by kernel_rfl) (by kernel_rfl) (fun _ _ _ h => h) (Or.inl ⟨by kernel_rfl, ?_⟩) (by assumption) ?_
              rotate_left
              · intro w hSw; (try dsimp only at hSw); go_simp; try with_reducible rfl
              try simp only [List.getElem_toArray, List.getElem_cons_succ, List.getElem_cons_zero, Act.put, List.setIfInBounds_toArray, List.set_cons_zero, List.set_cons_succ]
              refine wpAnyH_take (i := 29) (v := ?_) rfl (by kernel_rfl) (by kernel_rfl) (by kernel_rfl) (fun _ _ _ h => h) (Or.inl ⟨by kernel_rfl, ?_⟩) (by assumption) ?_
              rotate_left
              · intro w hSw; (try dsimp only at hSw); go_simp; try with_reducible rfl
              try simp only [List.getElem_toArray, List.getElem_cons_succ, List.getElem_cons_zero, Act.put, List.setIfInBounds_toArray, List.set_cons_zero, List.set_cons_succ]
              refine wpAnyH_take (i := 30) (v := ?_) rfl (by kernel_rfl) (by kernel_rfl) (by kernel_rfl) (fun _ _ _ h => h) (Or.inl ⟨by kernel_rfl, ?_⟩) (by assumption) ?_
              rotate_left
              · intro w hSw; (try dsimp only at hSw); go_simp; try with_reducible rfl
              try simp only [List.getElem_toArray, List.getElem_cons_succ, List.getElem_cons_zero, Act.put, List.setIfInBounds_toArray, List.set_cons_zero, List.set_cons_succ]
              refine wpAnyH_take (i := 31) (v := ?_) rfl (by kernel_rfl) (by kernel_rfl) (by kernel_rfl) (fun _ _ _ h => h) (Or.inl ⟨by kernel_rfl, ?_⟩) (by assumption) ?_
              rotate_left
              · intro w hSw; (try dsimp only at hSw); go_simp; try with_reducible rfl
              try simp only [List.getElem_toArray, List.getElem_cons_succ, List.getElem_cons_zero, Act.put, List.setIfInBounds_toArray, List.set_cons_zero, List.set_cons_succ]
              refine wpAnyH_take (i := 32) (v := ?_) rfl (by kernel_rfl) (by kernel_rfl) (by kernel_rfl) (fun _ _ _ h => h) (Or.inl ⟨by kernel_rfl, ?_⟩) (by assumption) ?_
              rotate_left
              · intro w hSw; (try dsimp only at hSw); go_simp; try with_reducible rfl
              try simp only [List.getElem_toArray, List.getElem_cons_succ, List.getElem_cons_zero, Act.put, List.setIfInBounds_toArray, List.set_cons_zero, List.set_cons_succ]
              refine wpAnyH_take (i := 33) (v := ?_) rfl (by kernel_rfl) (by kernel_rfl) (by kernel_rfl) (fun _ _ _ h => h) (Or.inl ⟨by kernel_rfl, ?_⟩) (by assumption) ?_
              rotate_left
              · intro w hSw; (try dsimp only at hSw); go_simp; try with_reducible rfl
              try simp only [List.getElem_toArray, List.getElem_cons_succ, List.getElem_cons_zero, Act.put, List.setIfInBounds_toArray, List.set_cons_zero, List.set_cons_succ]
              refine wpAnyH_ready (rs := [34]) (by kernel_rfl) (by simp) ?_
              refine AllReadyH.cons rfl (fun K hK => ?_) AllReadyH.nil
              go_simp
              refine hK.out _ _ ?_ (fun hHeld => ?_)
              · first | exact H10.drew | exact HAl | assumption
              clear hK K
              refine wpAnyH_ready (rs := [35]) (by kernel_rfl) (by simp) ?_
              refine AllReadyH.cons rfl (fun K hK => ?_) AllReadyH.nil
              go_simp
              refine hK.out _ _ ?_ (fun hHeld => ?_)
              · first | exact H10.drew | exact HAl | assumption
              clear hK K
              refine wpAnyH_take (i := 36) (v := ?_) rfl (by kernel_rfl) (by kernel_rfl) (by kernel_rfl) (fun _ _ _ h => h) (Or.inl ⟨by kernel_rfl, ?_⟩) (by assumption) ?_
              rotate_left
              · intro w hSw; (try dsimp only at hSw); go_simp; try with_reducible rfl
              try simp only [List.getElem_toArray, List.getElem_cons_succ, List.getElem_cons_zero, Act.put, List.setIfInBounds_toArray, List.set_cons_zero, List.set_cons_succ]
              refine wpAnyH_take (i := 37) (v := ?_) rfl (by kernel_rfl) (by kernel_rfl) (by kernel_rfl) (fun _ _ _ h => h) (Or.inl ⟨by kernel_rfl, ?_⟩) (by assumption) ?_
              rotate_left
              · intro w hSw; (try dsimp only at hSw); go_simp; try with_reducible rfl
              try simp only [List.getElem_toArray, List.getElem_cons_succ, List.getElem_cons_zero, Act.put, List.setIfInBounds_toArray, List.set_cons_zero, List.set_cons_succ]
              refine wpAnyH_take (i := 38) (v := ?_) rfl (by kernel_rfl) (by kernel_rfl) (by kernel_rfl) (fun _ _ _ h => h) (Or.inl ⟨by kernel_rfl, ?_⟩) (by assumption) ?_
              rotate_left
              · intro w hSw; (try dsimp only at hSw); go_simp; try with_reducible rfl
              try simp only [List.getElem_toArray, List.getElem_cons_succ, List.getElem_cons_zero, Act.put, List.setIfInBounds_toArray, List.set_cons_zero, List.set_cons_succ]
              refine wpAnyH_done (by kernel_rfl) ?_ _
              go_wp2_with fail
              go_meet
              exact ⟨rfl, HAl, DAl⟩
            · obtain ⟨xk, rfl⟩ := Int.eq_ofNat_of_zero_le hx0
              rw [hle] at cx
              clear hx0
              go_wp2_with fail
              refine wp_region_held_drew (S := (fun w' => Sat w' BIG)) (by kernel_rfl) ?_ (fun hHeld => ?_)
              · first | exact H10.drew | exact HBA | assumption
              refine wpAnyH_take (i := 0) (v := ?_) rfl (by kernel_rfl) (by kernel_rfl) (by kernel_rfl) (fun _ _ _ h => h) (Or.inl ⟨by kernel_rfl, ?_⟩) (by assumption) ?_
              rotate_left
              · intro w hSw; (try dsimp only at hSw); go_simp; try with_reducible rfl
              try simp only [List.getElem_toArray, List.getElem_cons_succ, List.getElem_cons_zero, Act.put, List.setIfInBounds_toArray, List.set_cons_zero, List.set_cons_succ]
              refine wpAnyH_take (i := 1) (v := ?_) rfl (by kernel_rfl) (by kernel_rfl) (by kernel_rfl) (fun _ _ _ h => h) (Or.inl ⟨by kernel_rfl, ?_⟩) (by assumption) ?_
              rotate_left
              · intro w hSw; (try dsimp only at hSw); go_simp; try with_reducible rfl
              try simp only [List.getElem_toArray, List.getElem_cons_succ, List.getElem_cons_zero, Act.put, List.setIfInBounds_toArray, List.set_cons_zero, List.set_cons_succ]
              refine wpAnyH_take (i := 2) (v := ?_) rfl (by kernel_rfl) (by kernel_rfl) (by kernel_rfl) (fun _ _ _ h => h) (Or.inl ⟨by kernel_rfl, ?_⟩) (by assumption) ?_
              rotate_left
              · intro w hSw; (try dsimp only at hSw); go_simp; try with_reducible rfl
              try simp only [List.getElem_toArray, List.getElem_cons_succ, List.getElem_cons_zero, Act.put, List.setIfInBounds_toArray, List.set_cons_zero, List.set_cons_succ]
              refine wpAnyH_take (i := 3) (v := ?_) rfl (by kernel_rfl) (by kernel_rfl) (by kernel_rfl) (fun _ _ _ h => h) (Or.inl ⟨by kernel_rfl, ?_⟩) (by assumption) ?_
              rotate_left
              · intro w hSw; (try dsimp only at hSw); go_simp; try with_reducible rfl
              try simp only [List.getElem_toArray, List.getElem_cons_succ, List.getElem_cons_zero, Act.put, List.setIfInBounds_toArray, List.set_cons_zero, List.set_cons_succ]
              refine wpAnyH_take (i := 4) (v := ?_) rfl (by kernel_rfl) (by kernel_rfl) (by kernel_rfl) (fun _ _ _ h => h) (Or.inl ⟨by kernel_rfl, ?_⟩) (by assumption) ?_
              rotate_left
              · intro w hSw; (try dsimp only at hSw); go_simp; try with_reducible rfl
              try simp only [List.getElem_toArray, List.getElem_cons_succ, List.getElem_cons_zero, Act.put, List.setIfInBounds_toArray, List.set_cons_zero, List.set_cons_succ]
              refine wpAnyH_take (i := 5) (v := ?_) rfl (by kernel_rfl) (by kernel_rfl) (by kernel_rfl) (fun _ _ _ h => h) (Or.inl ⟨by kernel_rfl, ?_⟩) (by assumption) ?_
              rotate_left
              · intro w hSw; (try dsimp only at hSw); go_simp; try with_reducible rfl
              try simp only [List.getElem_toArray, List.getElem_cons_succ, List.getElem_cons_zero, Act.put, List.setIfInBounds_toArray, List.set_cons_zero, List.set_cons_succ]
              refine wpAnyH_take (i := 6) (v := ?_) rfl (by kernel_rfl) (by kernel_rfl) (by kernel_rfl) (fun _ _ _ h => h) (Or.inl ⟨by kernel_rfl, ?_⟩) (by assumption) ?_
              rotate_left
              · intro w hSw; (try dsimp only at hSw); go_simp; try with_reducible rfl
              try simp only [List.getElem_toArray, List.getElem_cons_succ, List.getElem_cons_zero, Act.put, List.setIfInBounds_toArray, List.set_cons_zero, List.set_cons_succ]
              refine wpAnyH_take (i := 7) (v := ?_) rfl (by kernel_rfl) (by kernel_rfl) (by kernel_rfl) (fun _ _ _ h => h) (Or.inl ⟨by kernel_rfl, ?_⟩) (by assumption) ?_
              rotate_left
              · intro w hSw; (try dsimp only at hSw); go_simp; try with_reducible rfl
              try simp only [List.getElem_toArray, List.getElem_cons_succ, List.getElem_cons_zero, Act.put, List.setIfInBounds_toArray, List.set_cons_zero, List.set_cons_succ]
              refine wpAnyH_take (i := 8) (v := ?_) rfl (by kernel_rfl) (by kernel_rfl) (by kernel_rfl) (fun _ _ _ h => h) (Or.inl ⟨by kernel_rfl, ?_⟩) (by assumption) ?_
              rotate_left
              · intro w hSw; (try dsimp only at hSw); go_simp; try with_reducible rfl
              try simp only [List.getElem_toArray, List.getElem_cons_succ, List.getElem_cons_zero, Act.put, List.setIfInBounds_toArray, List.set_cons_zero, List.set_cons_succ]
              refine wpAnyH_take (i := 9) (v := ?_) rfl (by kernel_rfl) (by kernel_rfl) (by kernel_rfl) (fun _ _ _ h => h) (Or.inl ⟨by kernel_rfl, ?_⟩) (by assumption) ?_
              rotate_left
              · intro w hSw; (try dsimp only at hSw); go_simp; try with_reducible rfl
              try simp only [List.getElem_toArray, List.getElem_cons_succ, List.getElem_cons_zero, Act.put, List.setIfInBounds_toArray, List.set_cons_zero, List.set_cons_succ]
              refine wpAnyH_take (i := 10) (v := ?_) rfl (by kernel_rfl) (by kernel_rfl) (by kernel_rfl) (fun _ _ _ h => h) (Or.inl ⟨by kernel_rfl, ?_⟩) (by assumption) ?_
              rotate_left
              · intro w hSw; (try dsimp only at hSw); go_simp; try with_reducible rfl
              try simp only [List.getElem_toArray, List.getElem_cons_succ, List.getElem_cons_zero, Act.put, List.setIfInBounds_toArray, List.set_cons_zero, List.set_cons_succ]
              refine wpAnyH_take (i := 11) (v := ?_) rfl (by kernel_rfl) (by kernel_rfl) (by kernel_rfl) (fun _ _ _ h => h) (Or.inl ⟨by kernel_rfl, ?_⟩) (by assumption) ?_
              rotate_left
              · intro w hSw; (try dsimp only at hSw); go_simp; try with_reducible rfl
              try simp only [List.getElem_toArray, List.getElem_cons_succ, List.getElem_cons_zero, Act.put, List.setIfInBounds_toArray, List.set_cons_zero, List.set_cons_succ]
              refine wpAnyH_take (i := 12) (v := ?_) rfl (by kernel_rfl) (by kernel_rfl) (by kernel_rfl) (fun _ _ _ h => h) (Or.inl ⟨by kernel_rfl, ?_⟩) (by assumption) ?_
              rotate_left
              · intro w hSw; (try dsimp only at hSw); go_simp; try with_reducible rfl
              try simp only [List.getElem_toArray, List.getElem_cons_succ, List.getElem_cons_zero, Act.put, List.setIfInBounds_toArray, List.set_cons_zero, List.set_cons_succ]
              refine wpAnyH_take (i := 13) (v := ?_) rfl (by kernel_rfl) (by kernel_rfl) (by kernel_rfl) (fun _ _ _ h => h) (Or.inl ⟨by kernel_rfl, ?_⟩) (by assumption) ?_
              rotate_left
              · intro w hSw; (try dsimp only at hSw); go_simp; try with_reducible rfl
              try simp only [List.getElem_toArray, List.getElem_cons_succ, List.getElem_cons_zero, Act.put, List.setIfInBounds_toArray, List.set_cons_zero, List.set_cons_succ]
              refine wpAnyH_take (i := 14) (v := ?_) rfl (by kernel_rfl) (by kernel_rfl) (by kernel_rfl) (fun _ _ _ h => h) (Or.inl ⟨by kernel_rfl, ?_⟩) (by assumption) ?_
              rotate_left
              · intro w hSw; (try dsimp only at hSw); go_simp; try with_reducible rfl
              try simp only [List.getElem_toArray, List.getElem_cons_succ, List.getElem_cons_zero, Act.put, List.setIfInBounds_toArray, List.set_cons_zero, List.set_cons_succ]
              refine wpAnyH_take (i := 15) (v := ?_) rfl (by kernel_rfl) (by kernel_rfl) (by kernel_rfl) (fun _ _ _ h => h) (Or.inl ⟨by kernel_rfl, ?_⟩) (by assumption) ?_
              rotate_left
              · intro w hSw; (try dsimp only at hSw); go_simp; try with_reducible rfl
              try simp only [List.getElem_toArray, List.getElem_cons_succ, List.getElem_cons_zero, Act.put, List.setIfInBounds_toArray, List.set_cons_zero, List.set_cons_succ]
              refine wpAnyH_take (i := 16) (v := ?_) rfl (by kernel_rfl) (by kernel_rfl) (by kernel_rfl) (fun _ _ _ h => h) (Or.inl ⟨by kernel_rfl, ?_⟩) (by assumption) ?_
              rotate_left
              · intro w hSw; (try dsimp only at hSw); go_simp; try with_reducible rfl
              try simp only [List.getElem_toArray, List.getElem_cons_succ, List.getElem_cons_zero, Act.put, List.setIfInBounds_toArray, List.set_cons_zero, List.set_cons_succ]
              refine wpAnyH_take (i := 17) (v := ?_) rfl (by kernel_rfl) (by kernel_rfl) (by kernel_rfl) (fun _ _ _ h => h) (Or.inl ⟨by kernel_rfl, ?_⟩) (by assumption) ?_
              rotate_left
              · intro w hSw; (try dsimp only at hSw); go_simp; try with_reducible rfl
              try simp only [List.getElem_toArray, List.getElem_cons_succ, List.getElem_cons_zero, Act.put, List.setIfInBounds_toArray, List.set_cons_zero, List.set_cons_succ]
              refine wpAnyH_take (i := 18) (v := ?_) rfl (by kernel_rfl) (by kernel_rfl) (by kernel_rfl) (fun _ _ _ h => h) (Or.inl ⟨by kernel_rfl, ?_⟩) (by assumption) ?_
              rotate_left
              · intro w hSw; (try dsimp only at hSw); go_simp; try with_reducible rfl
              try simp only [List.getElem_toArray, List.getElem_cons_succ, List.getElem_cons_zero, Act.put, List.setIfInBounds_toArray, List.set_cons_zero, List.set_cons_succ]
              refine wpAnyH_take (i := 19) (v := ?_) rfl (by kernel_rfl) (by kernel_rfl) (by kernel_rfl) (fun _ _ _ h => h) (Or.inl ⟨by kernel_rfl, ?_⟩) (by assumption) ?_
              rotate_left
              · intro w hSw; (try dsimp only at hSw); go_simp; try with_reducible rfl
              try simp only [List.getElem_toArray, List.getElem_cons_succ, List.getElem_cons_zero, Act.put, List.setIfInBounds_toArray, List.set_cons_zero, List.set_cons_succ]
              refine wpAnyH_ready (rs := [20]) (by kernel_rfl) (by simp) ?_
              refine AllReadyH.cons rfl (fun K hK => ?_) AllReadyH.nil
              go_simp
              go_wp2_with (first | (go_at_call 23; refine (block_any (xk : Int) _).mono ?_; rintro e wA ⟨gA, rfl, hA, dA⟩; have hA' := hA.under (Q := BIG) (by assumption); have kA := run_text wA _ _ (rd_bj hA'); have HBA := hA'.right))
              refine hK.out _ _ ?_ (fun hHeld => ?_)
              · first | exact H10.drew | exact HBA | assumption
              clear hK K
              refine wpAnyH_ready (rs := [21]) (by kernel_rfl) (by simp) ?_
              refine AllReadyH.cons rfl (fun K hK => ?_) AllReadyH.nil
              go_simp
              refine hK.out _ _ ?_ (fun hHeld => ?_)
              · first | exact H10.drew | exact HBA | assumption
              clear hK K
              refine wpAnyH_take (i := 22) (v := ?_) rfl (by kernel_rfl) (by kernel_rfl) (by kernel_rfl) (fun _ _ _ h => h) (Or.inl ⟨by kernel_rfl, ?_⟩) (by assumption) ?_
              rotate_left
              · intro w hSw; (try dsimp only at hSw); go_simp; try with_reducible rfl
              try simp only [List.getElem_toArray, List.getElem_cons_succ, List.getElem_cons_zero, Act.put, List.setIfInBounds_toArray, List.set_cons_zero, List.set_cons_succ]
              refine wpAnyH_take (i := 23) (v := ?_) rfl (by kernel_rfl) (by kernel_rfl) (by kernel_rfl) (fun _ _ _ h => h) (Or.inl ⟨by kernel_rfl, ?_⟩) (by assumption) ?_
              rotate_left
              · intro w hSw; (try dsimp only at hSw); go_simp; try with_reducible rfl
              try simp only [List.getElem_toArray, List.getElem_cons_succ, List.getElem_cons_zero, Act.put, List.setIfInBounds_toArray, List.set_cons_zero, List.set_cons_succ]
              refine wpAnyH_take (i := 24) (v := ?_) rfl (by kernel_rfl) (by kernel_rfl) (by kernel_rfl) (fun _ _ _ h => h) (Or.inl ⟨by kernel_rfl, ?_⟩) (by assumption) ?_
              rotate_left
              · intro w hSw; (try dsimp only at hSw); go_simp; try with_reducible rfl
              try simp only [List.getElem_toArray, List.getElem_cons_succ, List.getElem_cons_zero, Act.put, List.setIfInBounds_toArray, List.set_cons_zero, List.set_cons_succ]
              refine wpAnyH_take (i := 25) (v := ?_) rfl (by kernel_rfl) (by kernel_rfl) (by kernel_rfl) (fun _ _ _ h => h) (Or.inl ⟨by kernel_rfl, ?_⟩) (by assumption) ?_
              rotate_left
              · intro w hSw; (try dsimp only at hSw); go_simp; try with_reducible rfl
              try simp only [List.getElem_toArray, List.getElem_cons_succ, List.getElem_cons_zero, Act.put, List.setIfInBounds_toArray, List.set_cons_zero, List.set_cons_succ]
              refine wpAnyH_take (i := 26) (v := ?_) rfl (by kernel_rfl) (by kernel_rfl) (by kernel_rfl) (fun _ _ _ h => h) (Or.inl ⟨by kernel_rfl, ?_⟩) (by assumption) ?_
              rotate_left
              · intro w hSw; (try dsimp only at hSw); go_simp; try with_reducible rfl
              try simp only [List.getElem_toArray, List.getElem_cons_succ, List.getElem_cons_zero, Act.put, List.setIfInBounds_toArray, List.set_cons_zero, List.set_cons_succ]
              refine wpAnyH_take (i := 27) (v := ?_) rfl (by kernel_rfl) (by kernel_rfl) (by kernel_rfl) (fun _ _ _ h => h) (Or.inl ⟨by kernel_rfl, ?_⟩) (by assumption) ?_
              rotate_left
              · intro w hSw; (try dsimp only at hSw); go_simp; try with_reducible rfl
              try simp only [List.getElem_toArray, List.getElem_cons_succ, List.getElem_cons_zero, Act.put, List.setIfInBounds_toArray, List.set_cons_zero, List.set_cons_succ]
              refine wpAnyH_take (i := 28) (v := ?_) rfl (by kernel_rfl) (by kernel_rfl) (by kernel_rfl) (fun _ _ _ h => h) (Or.inl ⟨by kernel_rfl, ?_⟩) (by assumption) ?_
              rotate_left
              · intro w hSw; (try dsimp only at hSw); go_simp; try with_reducible rfl
              try simp only [List.getElem_toArray, List.getElem_cons_succ, List.getElem_cons_zero, Act.put, List.setIfInBounds_toArray, List.set_cons_zero, List.set_cons_succ]
              refine wpAnyH_take (i := 29) (v := ?_) rfl (by kernel_rfl) (by kernel_rfl) (by kernel_rfl) (fun _ _ _ h => h) (Or.inl ⟨by kernel_rfl, ?_⟩) (by assumption) ?_
              rotate_left
              · intro w hSw; (try dsimp only at hSw); go_simp; try with_reducible rfl
              try simp only [List.getElem_toArray, List.getElem_cons_succ, List.getElem_cons_zero, Act.put, List.setIfInBounds_toArray, List.set_cons_zero, List.set_cons_succ]
              refine wpAnyH_take (i := 30) (v := ?_) rfl (by kernel_rfl) (by kernel_rfl) (by kernel_rfl) (fun _ _ _ h => h) (Or.inl ⟨by kernel_rfl, ?_⟩) (by assumption) ?_
              rotate_left
              · intro w hSw; (try dsimp only at hSw); go_simp; try with_reducible rfl
              try simp only [List.getElem_toArray, List.getElem_cons_succ, List.getElem_cons_zero, Act.put, List.setIfInBounds_toArray, List.set_cons_zero, List.set_cons_succ]
              refine wpAnyH_take (i := 31) (v := ?_) rfl (by kernel_rfl) (by kernel_rfl) (by kernel_rfl) (fun _ _ _ h => h) (Or.inl ⟨by kernel_rfl, ?_⟩) (by assumption) ?_
              rotate_left
              · intro w hSw; (try dsimp only at hSw); go_simp; try with_reducible rfl
              try simp only [List.getElem_toArray, List.getElem_cons_succ, List.getElem_cons_zero, Act.put, List.setIfInBounds_toArray, List.set_cons_zero, List.set_cons_succ]
              refine wpAnyH_take (i := 32) (v := undef) rfl (by kernel_rfl) (by kernel_rfl) (by kernel_rfl) (fun _ _ _ h => h) (Or.inr ⟨by kernel_rfl, rfl⟩) (by assumption) ?_
              simp only [List.getElem_toArray, List.getElem_cons_succ, List.getElem_cons_zero, Act.put, List.setIfInBounds_toArray, List.set_cons_zero, List.set_cons_succ]
              refine wpAnyH_take (i := 33) (v := undef) rfl (by kernel_rfl) (by kernel_rfl) (by kernel_rfl) (fun _ _ _ h => h) (Or.inr ⟨by kernel_rfl, rfl⟩) (by assumption) ?_
              simp only [List.getElem_toArray, List.getElem_cons_succ, List.getElem_cons_zero, Act.put, List.setIfInBounds_toArray, List.set_cons_zero, List.set_cons_succ]
              refine wpAnyH_take (i := 34) (v := undef) rfl (by kernel_rfl) (by kernel_rfl) (by kernel_rfl) (fun _ _ _ h => h) (Or.inr ⟨by kernel_rfl, rfl⟩) (by assumption) ?_
              simp only [List.getElem_toArray, List.getElem_cons_succ, List.getElem_cons_zero, Act.put, List.setIfInBounds_toArray, List.set_cons_zero, List.set_cons_succ]
              refine wpAnyH_take (i := 35) (v := undef) rfl (by kernel_rfl) (by kernel_rfl) (by kernel_rfl) (fun _ _ _ h => h) (Or.inr ⟨by kernel_rfl, rfl⟩) (by assumption) ?_
              simp only [List.getElem_toArray, List.getElem_cons_succ, List.getElem_cons_zero, Act.put, List.setIfInBounds_toArray, List.set_cons_zero, List.set_cons_succ]
              refine wpAnyH_take (i := 36) (v := undef) rfl (by kernel_rfl) (by kernel_rfl) (by kernel_rfl) (fun _ _ _ h => h) (Or.inr ⟨by kernel_rfl, rfl⟩) (by assumption) ?_
              simp only [List.getElem_toArray, List.getElem_cons_succ, List.getElem_cons_zero, Act.put, List.setIfInBounds_toArray, List.set_cons_zero, List.set_cons_succ]
              refine wpAnyH_take (i := 37) (v := ?_) rfl (by kernel_rfl) (by kernel_rfl) (by kernel_rfl) (fun _ _ _ h => h) (Or.inl ⟨by kernel_rfl, ?_⟩) (by assumption) ?_
              rotate_left
              · intro w hSw; (try dsimp only at hSw); go_simp; try with_reducible rfl
              try simp only [List.getElem_toArray, List.getElem_cons_succ, List.getElem_cons_zero, Act.put, List.setIfInBounds_toArray, List.set_cons_zero, List.set_cons_succ]
              refine wpAnyH_take (i := 38) (v := ?_) rfl (by kernel_rfl) (by kernel_rfl) (by kernel_rfl) (fun _ _ _ h => h) (Or.inl ⟨by kernel_rfl, ?_⟩) (by assumption) ?_
              rotate_left
              · intro w hSw; (try dsimp only at hSw); go_simp; try with_reducible rfl
              try simp only [List.getElem_toArray, List.getElem_cons_succ, List.getElem_cons_zero, Act.put, List.setIfInBounds_toArray, List.set_cons_zero, List.set_cons_succ]
              refine wpAnyH_done (by kernel_rfl) ?_ _
              go_wp2_with fail
              go_meet
              exact ⟨rfl, HBA, (D10.out.drew).trans dA⟩
          case rest =>
            obtain ⟨rfl, HEND, DEND⟩ := hcut
            have HE := SL.hid (HB.out ▸ HEND : Sat _ (bs 5 (.slice (some ⟨g, 0, none⟩) 480 cap2) l * (jrA j d J * (devA S d { D with cr := r } * (pool S * (pt hb (.cells (ints hs) 3 (0, 0)) * whole w)))))).right
            have HDE := SL.hid DEND
            clear HEND DEND cx cc H10 hx2 hl480
            go_wp2
            go_roundw
            case rel => exact ⟨i + 1, B2 + 1, S, { D with cr := r }, by omega, by go_num, by omega, HW2.out, HE.out, HDE.out⟩
            case measure => simp [intOf]; omega
        · obtain rfl : i = n := by omega
          have Hs := SL.hid hsat.right.right.right.right; have Hd := SL.hid hside
          clear hsat hside hW
          go_wp2
          go_ret
          exact ⟨rfl, Hs.out, Hd.out⟩
end Go.Proofs.Ytlfooilcngjeiaa

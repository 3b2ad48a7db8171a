/- FileLinks: the walk. -/
import Derived.Test.YtaoohjeaaccnfaaVe
namespace Go.Proofs.Ytaoohjeaaccnfaa.Fs
set_option linter.unusedVariables false
set_option linter.unusedSimpArgs false
open Go.RowKit Go.SL Go.Proofs.Ytaoohjeaaccnfaa.Ba
def lkF (z : Int) : AF := { (newF 2).wr 5 [97, 98, 99] with lk := z }
theorem lkF_one : (newF 2).wr 5 [97, 98, 99] = lkF 1 := rfl
theorem lkF_need (z : Int) : needP (lkF z).pr = 2 := by
  show needP ((newF 2).wr 5 [97, 98, 99]).pr = 2
  decide +kernel
theorem lkF_sub (z : Int) : (lkF z).sub 5 9 = [97, 98, 99] := rfl
theorem rootA_up {id : Nat} (h : rootA id = none) (f : AF) : upO rootA id (some f) id = some f := upO_same _ _ _
def LkRel (w0 : World) (b sc id : Nat) (lk i : Value) (wr : World) : Prop :=
  ∃ (k : Nat) (z : Int) (M : BU) (A : Nat → Option AF), i = .int .i64 (k : Int) ∧ lk = .int .i64 z ∧ 0 ≤ z ∧ z ≤ 65535 ∧ AbsU 8 M A 4 ∧ A id = some (lkF z) ∧ Side w0 wr ∧ Sat wr (SpA 8 b M * (pt sc (spO b 8) * whole w0))
set_option maxRecDepth 100000 in
set_option maxHeartbeats 4000000 in
theorem links_any (a : Option Addr) (len cap : Nat) (zs : List Int) (w : World) (hz : IsInts w a len cap zs) : Calls Try.prog 7 #[.slice a len cap] w (LawQ w) := by
  refine callsQ fun Q HQ => ?_
  have Hz := SL.hid hz
  clear hz
  go_enter Try.func7, Try.ntmps7
  go_wp2_with fail
  refine (shown_any w).mono ?_
  rintro e w1 ⟨rfl, h1, d1⟩
  have hm := made_any 8 (by decide) (by decide) _ w1 h1
  go_wp2_with fail
  refine hm.mono ?_
  rintro e w2 ⟨b, rfl, d2, h2⟩
  have hA := h2.alloc (.cells #[.pointer (some ⟨b, 0, none⟩), .int .i64 8] 26 (0, 0))
  have D := SL.hid ((d1.trans d2).alloc (.cells #[.pointer (some ⟨b, 0, none⟩), .int .i64 8] 26 (0, 0)))
  have H : Hid (Sat (w2.alloc (.cells #[.pointer (some ⟨b, 0, none⟩), .int .i64 8] 26 (0, 0))) (SpA 8 b (madeM 8) * (pt w2.heap.size (spO b 8) * whole w))) := hA.to (by ac_rfl)
  clear h1 h2 hA d1 d2 hm
  unfold spV
  go_wp2_with fail
  generalize w2.alloc (.cells #[.pointer (some ⟨b, 0, none⟩), .int .i64 8] 26 (0, 0)) = w3 at *
  generalize w2.heap.size = sc at *
  have hab := (made_abs (n := 8) (by decide) (by decide)).2
  -- New
  rcases abs_new (zask_rdr 8) (by decide) (by decide) hab (.inr rfl : (2 : Int) = 1 ∨ (2 : Int) = 2) with ⟨id, M1, e1, r1, i0, i1, -, A1⟩ | ⟨s', -, h0, -⟩
  rotate_left
  · exact absurd h0 (by decide)
  have hc := x_new (by decide) (by decide) 2 H.out
  rw [e1] at hc
  have A1' := SL.hid A1; have R1 := SL.hid r1
  clear hab e1 A1 r1
  refine hc.mono ?_
  rintro e w4 ⟨he, d, h⟩
  obtain rfl : e = .returned (.tuple #[.int .i64 (id : Int), .int .i64 0]) := he
  replace D := SL.hid (D.out.trans d)
  replace H : Hid (Sat w4 (SpA 8 b M1 * (pt sc (spO b 8) * whole w))) := h
  clear hc h d
  have cA : w4.cell? ⟨sc, 0, none⟩ = some (.pointer (some ⟨b, 0, none⟩)) := H.out.front2.cell 0
  have cB : w4.cell? ⟨sc, 1, none⟩ = some (.int .i64 8) := H.out.front2.cell 1
  -- WriteAt
  have kc := fun (w : World) (C : Array Value) (n c : Nat) => Lib.run_convert_bytes_const (P := Try.prog) w 22 5 C n c Try.underlying22 Try.underlying5
  have hxy : Sat (w4.alloc (.cells #[.int .u8 97, .int .u8 98, .int .u8 99] 5 (3, 4))) (SpA 8 b M1 * (litA w4.heap.size [97, 98, 99] 3 * (pt sc (spO b 8) * (whole w)))) := (H.out.alloc (.cells #[.int .u8 97, .int .u8 98, .int .u8 99] 5 (3, 4))).front2
  have hA1 : upO rootA id (some (newF 2)) id = some (newF 2) := upO_same _ _ _
  rcases abs_writeAt (zask_rdr 8) (by decide) (by decide) A1'.out hA1 5 [97, 98, 99] (by decide) (by decide) with ⟨M2, e2, -, A2⟩ | ⟨s', -, h0, -⟩
  rotate_left
  · rw [lkF_one, lkF_need] at h0
    exact absurd h0 (by decide +kernel)
  have hk : 8 - 2 - 1 + needP (newF 2).pr - needP ((newF 2).wr 5 [97, 98, 99]).pr = 4 := by rw [lkF_one, lkF_need]; decide +kernel
  rw [hk, lkF_one] at A2
  have hA2 : upO (upO rootA id (some (newF 2))) id (some (lkF 1)) id = some (lkF 1) := upO_same _ _ _
  obtain ⟨A, hAA⟩ : ∃ A, upO (upO rootA id (some (newF 2))) id (some (lkF 1)) = A := ⟨_, rfl⟩
  rw [hAA] at A2 hA2
  have A2' := SL.hid A2; have HA2 := SL.hid hA2
  have hwa := x_writeat (by decide) (by decide) (id : Int) 5 [97, 98, 99] (some ⟨w4.heap.size, 0, none⟩) 3 _ (hD_lit _ _ _) (by decide) (by decide) hxy
  have e2' : wrun (wwriteAt (zask 8) 8 (id : Int) 5 [97, 98, 99]) M1 = (.ok (), M2) := e2
  rw [e2'] at hwa
  have Hwa := SL.hid hwa
  replace D := SL.hid (D.out.alloc (.cells #[.int .u8 97, .int .u8 98, .int .u8 99] 5 (3, 4)))
  clear hxy hwa A1' R1 hA1 A2 hk hAA hA2 e2 e2' H
  go_wp2_with fail
  clear cA cB kc
  generalize w4.alloc (.cells #[.int .u8 97, .int .u8 98, .int .u8 99] 5 (3, 4)) = w5 at *
  refine Hwa.out.mono ?_
  generalize w4.heap.size = xy at *
  rintro e w6 ⟨he, d, h⟩
  obtain rfl : e = .returned (.int .i64 0) := he
  have h2 : Sat w6 (SpA 8 b M2 * (pt sc (spO b 8) * whole w)) := (h.to (by ac_rfl : _ = (litA xy [97, 98, 99] 3) * (SpA 8 b M2 * (pt sc (spO b 8) * whole w)))).right
  have H := SL.hid h2
  replace D := SL.hid (D.out.trans d)
  clear Hwa h h2 d
  go_wp2_with fail
  go_loopw [8, 9] (fun lk i wr => LkRel w b sc id lk i wr) (fun _ i _ => len - (intOf i).toNat)
  case atStart => exact ⟨0, 1, M2, A, rfl, rfl, by decide, by decide, A2'.out, HA2.out, D.out, H.out⟩
  case round =>
    obtain ⟨k, z, M, A, rfl, rfl, z0, z1, hab, hAi, ds, hs⟩ := hrel
    have HS := SL.hid hs; have AB := SL.hid hab; have AI := SL.hid hAi
    have cA : wr.cell? ⟨sc, 0, none⟩ = some (.pointer (some ⟨b, 0, none⟩)) := hs.front2.cell 0
    have cB : wr.cell? ⟨sc, 1, none⟩ = some (.int .i64 8) := hs.front2.cell 1
    clear H D A2' HA2 hab hAi
    by_cases hlt : k < len ∧ k < 30
    · obtain ⟨hl, h30⟩ := hlt
      have hl' : (k : Int) < (len : Int) := by omega
      have h30' : (k : Int) < 30 := by omega
      obtain ⟨ab, ao, rfl, hcell, hlc, hcap, x0, x1⟩ := Hz.out.cell hl
      have cx : wr.cell? ⟨ab, ao + k, none⟩ = some (.int .i64 (zs.getD k 0)) := (hs.to (star_assoc _ _ _).symm).cellOld hcell
      have hcap' : (cap : Int) ≤ 9223372036854775807 := by omega
      have hlc' : (len : Int) ≤ (cap : Int) := by omega
      obtain ⟨x, hx⟩ : ∃ x, zs.getD k 0 = x := ⟨_, rfl⟩
      rw [hx] at cx x0 x1
      have keep : ∀ w' M', Sat w' (SpA 8 b M' * (pt sc (spO b 8) * whole w)) → w'.cell? ⟨sc, 0, none⟩ = some (.pointer (some ⟨b, 0, none⟩)) ∧ w'.cell? ⟨sc, 1, none⟩ = some (.int .i64 8) ∧ w'.cell? ⟨ab, ao + k, none⟩ = some (.int .i64 x) := fun w' M' h =>
        ⟨h.front2.cell 0, h.front2.cell 1, by rw [← hx]; exact (h.to (star_assoc _ _ _).symm).cellOld hcell⟩
      have Keep := SL.hid keep
      clear hcell hx keep hs
      have hw0 : z ≤ 65535 := z1
      have hneg : IntKind.i64.wrap (-z) = -z := by rw [IntKind.wrap_i64]; omega
      have hsubz : IntKind.i64.wrap (65535 - z) = 65535 - z := by rw [IntKind.wrap_i64]; omega
      have hlkE : (lkF z).lk = z := rfl
      have hlink := abs_links (zask_rdr 8) (by decide) (by decide) AB.out AI.out x
      rw [hlkE] at hlink
      have hcall := fun w' h => x_links (n := 8) (b := b) (M := M) (w := w') (F := pt sc (spO b 8) * whole w) (by decide) (by decide) (id : Int) x h
      by_cases hfit : -z ≤ x ∧ x ≤ 65535 - z
      · obtain ⟨f0, f1⟩ := hfit
        have hwz : wrap64 (z + x) = z + x := by unfold wrap64; omega
        rcases hlink with ⟨M', e3, -, A3⟩ | ⟨s', -, h9, -⟩
        rotate_left
        · rw [hwz] at h9; omega
        rw [e3] at hcall
        rw [hwz] at A3
        have A3' : Hid (AbsU 8 M' (upO A id (some (lkF (z + x)))) 4) := A3
        have Hcall := SL.hid hcall
        have g0 : -z ≤ x := f0
        have g1 : x ≤ 65535 - z := f1
        have hzx : z + x ≤ 65535 := by omega
        have hzx0 : 0 ≤ z + x := by omega
        clear hcall e3 A3 hwz hneg hsubz
        go_wp2_with fail
        go_region_held3 (fun w' => w'.cell? ⟨sc, 0, none⟩ = some (.pointer (some ⟨b, 0, none⟩)) ∧ w'.cell? ⟨sc, 1, none⟩ = some (.int .i64 8) ∧ w'.cell? ⟨ab, ao + k, none⟩ = some (.int .i64 x)) (first | exact ⟨cA, cB, cx⟩ | exact kA | go_keep)
          (first | (go_at_call 17; refine (Hcall.out _ HS.out.drew).mono ?_; rintro e w7 ⟨he, d, h⟩; obtain rfl : e = .returned (.int .i64 0) := he; have kA := Keep.out w7 M' h))
        all_goals
          have HN := SL.hid h
          have DN := SL.hid (ds.drew.trans d)
          obtain ⟨cA7, cB7, cx7⟩ := kA
          clear h d Hcall HS cA cB cx
          try clear hHeld
          go_wp2_with fail
          go_roundw
          case rel => exact ⟨k + 1, z + x, M', _, by go_num, by go_num, by omega, by omega, A3'.out, upO_same _ _ _, DN.out, HN.out⟩
          case measure => simp [intOf]; omega
      · have hwz : ¬ (0 ≤ wrap64 (z + x) ∧ wrap64 (z + x) ≤ 65535) := by unfold wrap64; omega
        rcases hlink with ⟨M', e3, h9, -⟩ | ⟨s', e3, -, A3⟩
        · exact absurd h9 hwz
        rw [e3] at hcall
        have A3' := SL.hid A3
        have Hcall := SL.hid hcall
        clear hcall e3 A3 hwz
        obtain ⟨fb, hfb⟩ : ∃ fb, (decide (-z ≤ x) && decide (x ≤ 65535 - z)) = fb := ⟨_, rfl⟩
        have hfb2 : fb = false := by
          rw [← hfb]
          cases h1 : decide (-z ≤ x) with
          | false => rfl
          | true =>
            have : -z ≤ x := by simpa using h1
            have : ¬ x ≤ 65535 - z := fun h9 => hfit ⟨this, h9⟩
            simp [this]
        have hcase : (¬ -z ≤ x) ∨ (-z ≤ x ∧ ¬ x ≤ 65535 - z) := by omega
        clear hfit hfb hfb2
        rcases hcase with hc1 | ⟨hc1, hc2⟩
        all_goals
          go_wp2_with fail
          go_region_held3 (fun w' => w'.cell? ⟨sc, 0, none⟩ = some (.pointer (some ⟨b, 0, none⟩)) ∧ w'.cell? ⟨sc, 1, none⟩ = some (.int .i64 8) ∧ w'.cell? ⟨ab, ao + k, none⟩ = some (.int .i64 x)) (first | exact ⟨cA, cB, cx⟩ | exact kA | go_keep)
            (first | (go_at_call 17; refine (Hcall.out _ HS.out.drew).mono ?_; rintro e w7 ⟨he, d, h⟩; obtain rfl : e = .returned (.int .i64 1) := he; have kA := Keep.out w7 _ h))
          all_goals
            have HN := SL.hid h
            have DN := SL.hid (ds.drew.trans d)
            have AIo := SL.hid AI.out
            clear h d Hcall HS cA cB cx kA
            try clear hHeld
            go_wp2_with fail
            go_roundw
            case rel => exact ⟨k + 1, z, _, _, by go_num, rfl, z0, z1, A3'.out, AIo.out, DN.out, HN.out⟩
            case measure => simp [intOf]; omega
    · have hout : (¬ (k : Int) < (len : Int)) ∨ ((k : Int) < (len : Int) ∧ ¬ (k : Int) < 30) := by omega
      obtain ⟨x, M3, e3, x1, x2, x3, A3⟩ := abs_node (zask_rdr 8) (by decide) (by decide) AB.out AI.out
      have hnd := x_node (n := 8) (b := b) (M := M) (w := wr) (F := pt sc (spO b 8) * whole w) (by decide) (by decide) (id : Int) HS.out
      rw [e3] at hnd
      obtain ⟨M4, e4, A4⟩ := abs_readAt (zask_rdr 8) (by decide) (by decide) A3 AI.out 5 9
      rw [lkF_sub] at e4
      have e4' : wrun (wreadAt (zask 8) 8 (id : Int) 5 9) M3 = (.ok [97, 98, 99], M4) := e4
      have Hnd := SL.hid hnd; have E4 := SL.hid e4'
      have X1 : Hid (x.kd = 2) := x1
      have X2 : Hid (x.lk = z) := x2
      have X3 : Hid (x.sz = 8) := x3
      clear hnd e3 e4 e4' A3 A4 x1 x2 x3 hlt hs
      rcases hout with ho | ⟨ho1, ho2⟩
      all_goals
        go_wp2_with fail
        refine Hnd.out.mono ?_
        rintro e w7 ⟨he, h16, d, h⟩
        obtain rfl : e = .returned (.tuple #[.agg (ints x.l), .int .i64 0]) := he
        have h16' : x.dr.length = 16 := h16
        have hX : (ints x.l).size = 20 := by rw [size_ints, Nd.cells h16']
        have hE := (show Sat w7 (SpA 8 b M3 * (pt sc (spO b 8) * whole w)) from h).alloc (.cells #[.int .i64 0, .int .i64 0, .int .i64 0, .int .i64 0, .int .i64 0, .int .i64 0, .int .i64 0, .int .i64 0, .int .i64 0, .int .i64 0, .int .i64 0, .int .i64 0, .int .i64 0, .int .i64 0, .int .i64 0, .int .i64 0, .int .i64 0, .int .i64 0, .int .i64 0, .int .i64 0] 48 (0, 0))
        have Hz := SL.hid hE.heap
        have hE2 := hE.setRow (cs' := ints x.l)
        have D2 := SL.hid ((ds.trans d).alloc (.cells #[.int .i64 0, .int .i64 0, .int .i64 0, .int .i64 0, .int .i64 0, .int .i64 0, .int .i64 0, .int .i64 0, .int .i64 0, .int .i64 0, .int .i64 0, .int .i64 0, .int .i64 0, .int .i64 0, .int .i64 0, .int .i64 0, .int .i64 0, .int .i64 0, .int .i64 0, .int .i64 0] 48 (0, 0)) |>.setRow w7.heap.size (ints x.l))
        have Hone : Hid ((ints x.l).all (·.oneCell') = true) := by simp [RowKit.Hid, ints, Value.oneCell']
        have Hinf : Hid ((Try.prog.info? 48).map (·.size) = some (ints x.l).size) := by show _ = _; rw [hX]; exact info_node0
        have HX := SL.hid hX
        have n0 : ((w7.alloc (.cells #[.int .i64 0, .int .i64 0, .int .i64 0, .int .i64 0, .int .i64 0, .int .i64 0, .int .i64 0, .int .i64 0, .int .i64 0, .int .i64 0, .int .i64 0, .int .i64 0, .int .i64 0, .int .i64 0, .int .i64 0, .int .i64 0, .int .i64 0, .int .i64 0, .int .i64 0, .int .i64 0] 48 (0, 0))).setRow w7.heap.size (ints x.l)).cell? ⟨w7.heap.size, 0, none⟩ = some (.int .i64 2) := by rw [← X1.out]; exact hE2.cell 0
        have n1 : ((w7.alloc (.cells #[.int .i64 0, .int .i64 0, .int .i64 0, .int .i64 0, .int .i64 0, .int .i64 0, .int .i64 0, .int .i64 0, .int .i64 0, .int .i64 0, .int .i64 0, .int .i64 0, .int .i64 0, .int .i64 0, .int .i64 0, .int .i64 0, .int .i64 0, .int .i64 0, .int .i64 0, .int .i64 0] 48 (0, 0))).setRow w7.heap.size (ints x.l)).cell? ⟨w7.heap.size, 1, none⟩ = some (.int .i64 z) := by rw [← X2.out]; exact hE2.cell 1
        have n2 : ((w7.alloc (.cells #[.int .i64 0, .int .i64 0, .int .i64 0, .int .i64 0, .int .i64 0, .int .i64 0, .int .i64 0, .int .i64 0, .int .i64 0, .int .i64 0, .int .i64 0, .int .i64 0, .int .i64 0, .int .i64 0, .int .i64 0, .int .i64 0, .int .i64 0, .int .i64 0, .int .i64 0, .int .i64 0] 48 (0, 0))).setRow w7.heap.size (ints x.l)).cell? ⟨w7.heap.size, 2, none⟩ = some (.int .i64 8) := by rw [← X3.out]; exact hE2.cell 2
        have hE3 := hE2.to (by ac_rfl : _ = SpA 8 b M3 * (pt sc (spO b 8) * (pt w7.heap.size (.cells (ints x.l) 48 (0, 0)) * whole w)))
        have cA7 : ((w7.alloc (.cells #[.int .i64 0, .int .i64 0, .int .i64 0, .int .i64 0, .int .i64 0, .int .i64 0, .int .i64 0, .int .i64 0, .int .i64 0, .int .i64 0, .int .i64 0, .int .i64 0, .int .i64 0, .int .i64 0, .int .i64 0, .int .i64 0, .int .i64 0, .int .i64 0, .int .i64 0, .int .i64 0] 48 (0, 0))).setRow w7.heap.size (ints x.l)).cell? ⟨sc, 0, none⟩ = some (.pointer (some ⟨b, 0, none⟩)) := hE3.front2.cell 0
        have cB7 : ((w7.alloc (.cells #[.int .i64 0, .int .i64 0, .int .i64 0, .int .i64 0, .int .i64 0, .int .i64 0, .int .i64 0, .int .i64 0, .int .i64 0, .int .i64 0, .int .i64 0, .int .i64 0, .int .i64 0, .int .i64 0, .int .i64 0, .int .i64 0, .int .i64 0, .int .i64 0, .int .i64 0, .int .i64 0] 48 (0, 0))).setRow w7.heap.size (ints x.l)).cell? ⟨sc, 1, none⟩ = some (.int .i64 8) := hE3.front2.cell 1
        have hrd := x_readat (n := 8) (by decide) (by decide) (id : Int) 5 9 hE3
        rw [E4.out] at hrd
        have Hrd := SL.hid hrd
        clear hE hE2 hE3 hrd h h16 h16' hX Hnd HS cA cB
        go_wp2_with (refine wpList_store_row (by exact rfl) 48 (.tmp 12) (.tmp 94) (by exact rfl) w7.heap.size (ints x.l) (by exact rfl) (by exact rfl) 48 _ (by with_reducible exact Hz.out) Hinf.out (by rw [HX.out]; rfl) Hone.out ?_)
        generalize ((w7.alloc (.cells #[.int .i64 0, .int .i64 0, .int .i64 0, .int .i64 0, .int .i64 0, .int .i64 0, .int .i64 0, .int .i64 0, .int .i64 0, .int .i64 0, .int .i64 0, .int .i64 0, .int .i64 0, .int .i64 0, .int .i64 0, .int .i64 0, .int .i64 0, .int .i64 0, .int .i64 0, .int .i64 0] 48 (0, 0))).setRow w7.heap.size (ints x.l)) = w8 at *
        generalize w7.heap.size = nb at *
        refine Hrd.out.mono ?_
        rintro e w9 ⟨v9, he, d9, h9⟩
        obtain rfl : e = .returned (.tuple #[v9, .int .i64 0]) := he
        have h9' : Sat w9 (bs 5 v9 [97, 98, 99] * (SpA 8 b M4 * (pt sc (spO b 8) * (pt nb (.cells (ints x.l) 48 (0, 0)) * whole w)))) := h9
        obtain ⟨va, vc, rfl⟩ := sl_shape h9'
        have t9 : (convert 22 9 (.slice va 3 vc)).run Try.prog w9 = .ok (.string ⟨#[97, 98, 99]⟩) w9 := run_text _ _ [97, 98, 99] (hD_bs _ _ _ _ h9')
        have m0 : w9.cell? ⟨nb, 0, none⟩ = some (.int .i64 2) := by rw [← X1.out]; exact h9'.front4.cell 0
        have m1 : w9.cell? ⟨nb, 1, none⟩ = some (.int .i64 z) := by rw [← X2.out]; exact h9'.front4.cell 1
        have m2 : w9.cell? ⟨nb, 2, none⟩ = some (.int .i64 8) := by rw [← X3.out]; exact h9'.front4.cell 2
        have H9 := SL.hid h9'
        have D9 := SL.hid (D2.out.trans d9)
        clear h9 h9' Hrd d9 n0 n1 n2 cA7 cB7 D2
        go_wp2_with fail
        refine HQ.out _ _ ⟨rfl, H9.out.right.right.right.right, D9.out⟩
end Go.Proofs.Ytaoohjeaaccnfaa.Fs

/- JournalOwn: the walk. -/
import Derived.Test.YtlfooilcngjeiaaHe
import Derived.Test.YtlfooilcngjeiaaGd
import Derived.Deep.DeepCutAuto
import Derived.BigQuiet
import Derived.Deep.QuietTactic
import Derived.Deep.CutBlock
import Derived.Deep.CutRange
namespace Go.Proofs.Ytlfooilcngjeiaa
set_option linter.unusedVariables false
set_option linter.unusedSimpArgs false
open Go.RowKit Go.SL
/-- A row of cells at work: its length alone is kept. -/
def RowRel (m cap g : Nat) (X : Assn) (w : World) (u : Value) (wr : World) : Prop :=
  ∃ (k : Nat) (cur : Array Value), k ≤ m ∧ u = .int .i64 (k : Int) ∧ cur.size = cap ∧ Sat wr (pt g (.cells cur 3 (0, 0)) * X) ∧ Side w wr
def BytRel (m cap g : Nat) (X : Assn) (w : World) (u : Value) (wr : World) : Prop :=
  ∃ (k : Nat) (cur : Array Value), k ≤ m ∧ u = .int .i64 (k : Int) ∧ cur.size = cap ∧ Sat wr (pt g (.cells cur 5 (0, 0)) * X) ∧ Side w wr
def BlkRel (g : Nat) (X : Assn) (w : World) (u : Value) (wr : World) : Prop :=
  ∃ (k : Nat) (l : List UInt8), k ≤ 480 ∧ u = .int .i64 (k : Int) ∧ l.length = 480 ∧ Sat wr (pt g (.cells (u8s l) 5 (0, 0)) * X) ∧ Side w wr
def fillN (m k : Nat) : List Int := List.replicate k (-1) ++ List.replicate (m - k) 0
theorem fillN_len {m k : Nat} (h : k ≤ m) : (fillN m k).length = m := by simp [fillN]; omega
theorem fillN_set {m k : Nat} (h : k < m) : (fillN m k).set k (-1) = fillN m (k + 1) := by
  unfold fillN
  rw [List.set_append_right _ _ (by simp), List.length_replicate, Nat.sub_self, show m - k = (m - (k + 1)) + 1 by omega, List.replicate_succ, List.replicate_succ', List.append_assoc]
  rfl
def FillRel (m hb : Nat) (X : Assn) (w : World) (u : Value) (wr : World) : Prop :=
  ∃ k : Nat, k ≤ m ∧ u = .int .i64 (k : Int) ∧ Sat wr (pt hb (.cells (ints (fillN m k)) 3 (0, 0)) * X) ∧ Side w wr
theorem hasOf_none (m : Nat) : HasOf m (fun _ => none) (List.replicate m (-1)) := by
  intro k hk
  left
  exact ⟨by simp [List.getD, List.getElem?_replicate, hk], rfl⟩
def O3Rel (j d hb : Nat) (w : World) (u : Value) (wr : World) : Prop :=
  ∃ (i : Nat) (S : Hp) (J : Jr) (D : Dev) (has : Has) (hs : List Int), i ≤ 40 ∧ u = .int .i64 (i : Int) ∧ hs.length = 10 ∧ HasOf 10 has hs ∧ JW 10 200 i J D has ∧ Sat wr (jrA j d J * (devA S d D * (pool S * (pt hb (.cells (ints hs) 3 (0, 0)) * whole w)))) ∧ Side w wr
def O3Out (j d hb : Nat) (w wr : World) : Prop :=
  ∃ (S : Hp) (J : Jr) (D : Dev) (has : Has) (hs : List Int), hs.length = 10 ∧ HasOf 10 has hs ∧ JW 10 200 40 J D has ∧ Sat wr (jrA j d J * (devA S d D * (pool S * (pt hb (.cells (ints hs) 3 (0, 0)) * whole w)))) ∧ Side w wr
/-- What the numbers become. -/
def Mo (zs : List Int) (data : Int) (n : Nat) : List (Int × Int) := (List.range n).map fun k : Nat => (zs.getD k 0, (data + (k : Int)) % 256)
theorem Mo_succ (zs : List Int) (data : Int) (n : Nat) : Mo zs data (n + 1) = Mo zs data n ++ [(zs.getD n 0, (data + (n : Int)) % 256)] := by simp [Mo, List.range_succ]
theorem Mo_bl (zs : List Int) (data : Int) (n : Nat) : mBl (Mo zs data n) = stepW zs data n := by
  unfold mBl Mo stepW
  rw [List.map_map]
  refine List.map_congr_left fun k _ => ?_
  show (zs.getD k 0, bj ((data + (k : Int)) % 256)) = _
  rw [bj_congr (a := (data + (k : Int)) % 256) (b := data + (k : Int)) (by omega)]
def O4Rel (m hb : Nat) (hs zs : List Int) (data : Int) (X : Assn) (w : World) (u : Value) (wr : World) : Prop :=
  ∃ n : Nat, n ≤ m ∧ u = .int .i64 (n : Int) ∧ Sat wr (pt hb (.cells (ints (updH hs (Mo zs data n))) 3 (0, 0)) * X) ∧ Side w wr
def O7Rel (j d hb B : Nat) (J : Jr) (has : Has) (hs : List Int) (w : World) (u : Value) (wr : World) : Prop :=
  ∃ (i B' : Nat) (S : Hp) (D : Dev), i ≤ 10 ∧ u = .int .i64 (i : Int) ∧ B' = B + 2 * i ∧ JW 10 200 B' J D has ∧ Sat wr (jrA j d J * (devA S d D * (pool S * (pt hb (.cells (ints hs) 3 (0, 0)) * whole w)))) ∧ Side w wr
def O8Rel (j d hb B : Nat) (J : Jr) (has : Has) (hs : List Int) (w : World) (u : Value) (wr : World) : Prop :=
  ∃ (t B' : Nat) (S : Hp) (D : Dev), t ≤ 2 ∧ u = .int .i64 (t : Int) ∧ B' = B + t ∧ JW 10 200 B' J D has ∧ Sat wr (jrA j d J * (devA S d D * (pool S * (pt hb (.cells (ints hs) 3 (0, 0)) * whole w)))) ∧ Side w wr
set_option maxRecDepth 100000 in
set_option maxHeartbeats 40000000 in
theorem own_any (a0 : Option Addr) (len0 cap0 : Nat) (X : Nat → StepV) (w : World) (hX : IsSteps w a0 len0 cap0 X) :
    Calls Try.prog 4 #[.slice a0 len0 cap0] w (ShownQ w) := by
  have hlen0 := hX.len_le
  have HX := SL.hid hX; clear hX
  go_enter Try.func4, Try.ntmps4
  go_wp2_with fail
  refine (shown_any w).mono ?_
  rintro e w1 ⟨rfl, h1, d1⟩
  go_wp2_with fail
  refine (new_any 201 (by decide) (by decide) w1).mono ?_
  rintro e w2 ⟨d, rfl, h2, d2⟩
  have H2 := (h2 NoB).under h1
  clear h2 h1
  go_wp2_with fail
  refine (fresh_any 10 (by decide) w2).mono ?_
  rintro e w3 ⟨a, rfl, h3, d3⟩
  have H3 := h3.under H2
  have e10 : (freshS 10).v a = .agg #[.int .u32 1, .int .u64 1, .int .u64 0, .int .i64 0, .int .i64 0, a] := rfl
  rw [e10]
  rcases H3.slCases with ⟨_, h0, _⟩ | ⟨ag, cap, cur, rfl, q3, q4, q5, q6, hF⟩
  · omega
  have H4 := H3.alloc (.cells #[.int .u32 1, .int .u64 1, .int .u64 0, .int .i64 0, .int .i64 0, .slice (some ⟨ag, 0, none⟩) 10 cap] 26 (0, 0))
  have H4' := hF.alloc (.cells #[.int .u32 1, .int .u64 1, .int .u64 0, .int .i64 0, .int .i64 0, .slice (some ⟨ag, 0, none⟩) 10 cap] 26 (0, 0))
  have D4 := ((((d1.trans d2).trans d3)).alloc (.cells #[.int .u32 1, .int .u64 1, .int .u64 0, .int .i64 0, .int .i64 0, .slice (some ⟨ag, 0, none⟩) 10 cap] 26 (0, 0)))
  have hcap10 : (10 : Int) ≤ (cap : Int) := by omega
  have hcapm : (cap : Int) ≤ 9223372036854775807 := by unfold maxLen at q4; omega
  clear h3 H2 H3 hF e10 d1 d2 d3 q6
  go_wp2_with fail
  generalize w3.alloc (.cells #[.int .u32 1, .int .u64 1, .int .u64 0, .int .i64 0, .int .i64 0, .slice (some ⟨ag, 0, none⟩) 10 cap] 26 (0, 0)) = w4 at H4 H4' D4 ⊢
  generalize w3.heap.size = sb at H4 H4' ⊢
  have hnew : Calls Try.prog 14 #[ptV d, .int .i64 200, .agg #[.int .u32 1, .int .u64 1, .int .u64 0, .int .i64 0, .int .i64 0, .slice (some ⟨ag, 0, none⟩) 10 cap]] w4 (JNewQ d (J0 200 10) w4) := jfresh_any w4 NoB d (Dev.fresh 201) _ 10 200 _ H4.front3 (rdI_sl (by rw [List.length_replicate]; exact H4.front2)) (by decide) (by decide) (by decide) (by decide) (by rw [devLen]; decide) (by rw [devLen]; decide)
  (with_reducible refine hnew.mono ?_)
  rintro e w5 ⟨j, rfl, h5, d5⟩
  obtain ⟨OS, hOS⟩ : ∃ o, o = Obj.cells #[.int .u32 1, .int .u64 1, .int .u64 0, .int .i64 0, .int .i64 0, .slice (some ⟨ag, 0, none⟩) 10 cap] 26 (0, 0) := ⟨_, rfl⟩
  rw [← hOS] at H4'
  obtain ⟨Z, hZ⟩ : ∃ X, X = pt sb OS * (jrA j d (J0 200 10) * (devA NoB d (Dev.fresh 201) * (pool NoB * whole w))) := ⟨_, rfl⟩
  have H5 : Sat w5 (pt ag (.cells cur 3 (0, 0)) * Z) := (h5.under H4'.poolEmp).to (by rw [hZ]; ac_rfl)
  have D5 := D4.trans d5
  have HOS := SL.hid hOS; have HZ := SL.hid hZ
  clear h5 d5 H4 H4' D4 hnew hOS hZ
  go_upto_block 0 with (fail)
  go_cut [] from 49 to 56 (fun wx => ∃ cur, Sat wx (pt ag (.cells cur 3 (0, 0)) * Z) ∧ Side w wx)
  case first =>
    go_wp2_with fail
    go_loopw [9] (fun u wr => RowRel 10 cap ag Z w u wr) (fun u _ => 10 - (intOf u).toNat)
    case atStart => exact ⟨0, cur, Nat.zero_le _, rfl, by omega, H5, D5⟩
    case round =>
      clear H5 D5 q5 q4 q3
      obtain ⟨k, cu, hk, rfl, hsz, hsat, hside⟩ := hrel
      by_cases hlt : k < 10
      · have hlt' : (k : Int) < 10 := by omega
        have hz : Sat wr (pt sb OS * (pt ag (.cells cu 3 (0, 0)) * (jrA j d (J0 200 10) * (devA NoB d (Dev.fresh 201) * (pool NoB * whole w))))) := hsat.to (by rw [HZ.out]; ac_rfl)
        have c5 : wr.cell? ⟨sb, 5, none⟩ = some (.slice (some ⟨ag, 0, none⟩) 10 cap) := by have := hz; rw [HOS.out] at this; exact this.cell 5
        obtain ⟨uo, huo⟩ : ∃ u, cu[k]? = some u := ⟨_, Array.getElem?_eq_getElem (by omega)⟩
        have ck : wr.cell? ⟨ag, k, none⟩ = some uo := (hsat.cell k).trans huo
        have fk := hsat.frozen k
        have hset := SL.hid (hsat.setCell k (.int .i64 5))
        have Hside := SL.hid hside; have Hsz := SL.hid hsz
        clear hsat hz huo hside hsz
        go_wp2
        go_roundw
        case rel => exact ⟨k + 1, _, by omega, by go_num, by rw [Array.size_setIfInBounds]; exact Hsz.out, hset.out, Hside.out.setCell _ _⟩
        case measure => simp [intOf]; omega
      · obtain rfl : k = 10 := by omega
        have Hs := SL.hid hsat; have Hd := SL.hid hside
        clear hsat hside
        go_wp2_with fail
        go_meet
        exact ⟨cu, Hs.out, Hd.out⟩
  case rest =>
    clear H5 D5 q5 q4 q3
    obtain ⟨cu, hsat, hside⟩ := hcut
    have h6 : Sat wc (jrA j d (J0 200 10) * (devA NoB d (Dev.fresh 201) * (pool NoB * whole w))) := by
      rw [HZ.out] at hsat; exact hsat.right.right
    have hmk : ∀ w, (Instr.makeSlice 24 (.int .i64 10) (.int .i64 10)).run Try.prog w = .ok (.slice (some ⟨w.heap.size, 0, none⟩) 10 10) (w.alloc (.cells (ints (fillN 10 0)) 3 (0, 0))) := make_ints 10 (by decide)
    obtain ⟨F0, hF0⟩ : ∃ l, l = fillN 10 0 := ⟨_, rfl⟩
    rw [← hF0] at hmk
    have HF0 := SL.hid hF0
    clear hF0
    have H6 := h6.alloc (.cells (ints F0) 3 (0, 0))
    have D6 := hside.alloc (.cells (ints F0) 3 (0, 0))
    clear hsat hside h6 HZ HOS
    go_upto_block 2 with (fail)
    generalize wc.alloc (.cells (ints F0) 3 (0, 0)) = w6 at H6 D6 ⊢
    generalize wc.heap.size = hb at H6 ⊢
    obtain ⟨Z2, hZ2⟩ : ∃ X, X = jrA j d (J0 200 10) * (devA NoB d (Dev.fresh 201) * (pool NoB * whole w)) := ⟨_, rfl⟩
    rw [← hZ2] at H6
    have HZ2 := SL.hid hZ2
    clear hZ2 hmk
    go_cut [] from 58 to 64 (fun wx => Sat wx (pt hb (.cells (ints (List.replicate 10 (-1))) 3 (0, 0)) * Z2) ∧ Side w wx)
    case first =>
      go_wp2_with fail
      go_loopw [11] (fun u wr => FillRel 10 hb Z2 w u wr) (fun u _ => 10 - (intOf u).toNat)
      case atStart => exact ⟨0, Nat.zero_le _, rfl, by rw [← HF0.out]; exact H6, D6⟩
      case round =>
        clear H6 D6
        obtain ⟨k, hk, rfl, hsat, hside⟩ := hrel
        by_cases hlt : k < 10
        · have hlt' : (k : Int) < 10 := by omega
          have ck : wr.cell? ⟨hb, k, none⟩ = some (.int .i64 ((fillN 10 k).getD k 0)) := (hsat.cell k).trans (get_ints_lt (by rw [fillN_len hk]; exact hlt))
          have fk := hsat.frozen k
          have h2 := hsat.setCell k (.int .i64 (-1))
          rw [set_ints, fillN_set hlt] at h2
          have hset := SL.hid h2
          have Hside := SL.hid hside
          generalize (fillN 10 k).getD k 0 = uo at ck
          clear hsat hside h2
          go_wp2
          go_roundw
          case rel => exact ⟨k + 1, by omega, by go_num, hset.out, Hside.out.setCell _ _⟩
          case measure => simp [intOf]; omega
        · obtain rfl : k = 10 := by omega
          have Hs := SL.hid hsat; have Hd := SL.hid hside
          clear hsat hside
          go_wp2_with fail
          go_meet
          exact ⟨Hs.out, Hd.out⟩
    case rest =>
      clear H6 D6
      obtain ⟨hsat, hside⟩ := hcut
      go_upto_block 4 with (fail)
      go_cut [] from 65 to 146 (fun wx => O3Out j d hb w wx)
      case first =>
        go_wp2_with fail
        go_loopw [12] (fun u wr => O3Rel j d hb w u wr) (fun u _ => 40 - (intOf u).toNat)
        case atStart => exact ⟨0, NoB, J0 200 10, Dev.fresh 201, fun _ => none, List.replicate 10 (-1), Nat.zero_le _, rfl, rfl, hasOf_none 10, jw_fresh (by decide) (by decide) (by decide) (by decide), hsat.to (by rw [HZ2.out]; ac_rfl), hside⟩
        case round =>
          clear hsat hside HZ2
          obtain ⟨i, S, J, D, has, hs, hi, rfl, hhl, hH, hW, hsat, hside⟩ := hrel
          have hi' : (i : Int) ≤ 40 := by omega
          by_cases hlt : i < len0 ∧ i < 40
          · obtain ⟨hlt, h40⟩ := hlt
            have hlt' : (i : Int) < (len0 : Int) := by omega
            have h40' : (i : Int) < 40 := by omega
            obtain ⟨b, off, rfl, c0, c1, c2, c3, hlc, hcapX⟩ := HX.out.cell hlt
            have hs1 : Sat wr ((jrA j d J * (devA S d D * (pool S * pt hb (.cells (ints hs) 3 (0, 0))))) * whole w) := hsat.to (by ac_rfl)
            have c0' := hs1.cellOld c0
            have c1' := hs1.cellOld c1
            have c2' := hs1.cellOld c2
            have c3' := c3.keep fun _ _ => hs1.cellOld
            obtain ⟨m, hm⟩ : ∃ m, m = if (X i).len < 30 then (X i).len else 30 := ⟨_, rfl⟩
            have hwr := writes_any wr (X i) c3' m hm
            unfold StepV.v at hwr
            have HW := SL.hid hW; have HS := SL.hid hsat; have HH := SL.hid hH; have Hhl := SL.hid hhl
            clear hW hsat hH hs1 c3' hhl
            generalize X i = x at *
            obtain ⟨xa, xl, xc, xz, xd, xn⟩ := x
            dsimp only at c0 c1 c2 c3 c0' c1' c2' hwr hm
            have hml : m ≤ xl := by split at hm <;> omega
            have hm30 : m ≤ 30 := by split at hm <;> omega
            have Hc0 := SL.hid c0; have Hc1 := SL.hid c1; have Hc3 := SL.hid c3
            clear hm c0 c1 c2 c3
            go_wp2_with fail
            (with_reducible refine hwr.mono ?_)
            rintro e w5 ⟨v, L, rfl, hL, h5, d5⟩
            have H5 := h5.under HS.out
            have h480 := stepW_480 _ _ _ hL
            have hLm := Wo.len hL
            have hs5 : Sat w5 ((wrsA v L * (jrA j d J * (devA S d D * (pool S * pt hb (.cells (ints hs) 3 (0, 0)))))) * whole w) := H5.to (by ac_rfl)
            have e0 : w5.cell? ⟨b, off + i * 3, none⟩ = some (.slice xa xl xc) := hs5.cellOld Hc0.out
            have e3 := Hc3.out.keep fun _ _ => hs5.cellOld
            obtain ⟨va, vc, rfl⟩ : ∃ a c, v = .slice a L.length c := sl_shape (H5.to (by unfold wrsA; exact star_assoc _ _ _))
            have hle := e3.le
            have hmc : (m : Int) ≤ (xc : Int) := by omega
            have hxl : (xl : Int) ≤ (xc : Int) := by omega
            have hxc : (xc : Int) ≤ 9223372036854775807 := by omega
            have hm30' : (m : Int) ≤ 30 := by omega
            have htk : (xz.take m).length = m := by rw [List.length_take]; omega
            have hmayB : ∀ B : Bool, (B = true ↔ MayI 10 (xz.take m)) → Calls Try.prog 20 #[.slice xa m xc, .int .i64 10] w5 (MayQ B w5) := fun B hB => by
              have := may_any w5 xa xc (xz.take m) 10 (fun h => e3.rdI hml (by omega)) (by omega) B hB
              rw [htk] at this
              exact this
            have hbm : Batch ((10 : Nat) : Int) L.bl ↔ MayI 10 (xz.take m) := by rw [hL]; exact stepW_may (by omega)
            have D5 := hside.trans d5
            have HL := SL.hid hL; have HLm := SL.hid hLm; have Hs5 := SL.hid H5; have H480 := SL.hid h480; have HD5 := SL.hid D5
            rw [hLm]
            clear hwr h5 d5 hL hLm H5 h480 hs5 hle htk c0' c1' c2' e3 D5 hside HS hml hm30
            by_cases hb : Batch ((10 : Nat) : Int) L.bl
            · have hmay := hmayB true ⟨fun _ => hbm.1 hb, fun _ => rfl⟩
              have Hb := SL.hid hb
              clear hmayB hbm hb
              go_wp2_with fail
              (with_reducible refine hmay.mono ?_)
              rintro e w6 ⟨rfl, t6, hw6⟩
              have H6 : Sat w6 (wrsA (.slice va m vc) L * (jrA j d J * (devA S d D * (pool S * (pt hb (.cells (ints hs) 3 (0, 0)) * whole w))))) := by
                rw [hw6, ← HLm.out]; exact sat_drewN Hs5.out t6
              have D6 : Side w w6 := by rw [hw6]; exact side_drewN HD5.out t6
              have hcm := cyes_any w6 S j d J D (pt hb (.cells (ints hs) 3 (0, 0)) * whole w) (.slice va m vc) L has (H6.to (by ac_rfl)) HW.out (by decide) (by omega) H480.out Hb.out
              clear hmay hw6 e0 Hs5 HD5 H6
              go_wp2_with fail
              (with_reducible refine hcm.mono ?_)
              rintro e w7 ⟨S7, J7, D7, E7, rfl, h7, d7, hW7, _, _, _, _, _, hsq7⟩
              have HW7 := SL.hid hW7
              have D7' := D6.trans d7
              have hl1 := Hb.out.n0
              rw [bl_len, HLm.out] at hl1
              have hidk : ∀ k, (hk : k < m) → L[k]'(by rw [HLm.out]; exact hk) = (L[k]'(by rw [HLm.out]; exact hk)) ∧ (L[k]'(by rw [HLm.out]; exact hk)).2.1 = xz.getD k 0 := fun k hk => ⟨rfl, by
                have e := congrArg (fun z => (z.map Prod.fst)[k]?) HL.out
                simp only [Wo.bl, stepW, List.map_map, List.getElem?_map, List.getElem?_range hk] at e
                rw [List.getElem?_eq_getElem (by rw [HLm.out]; exact hk)] at e
                simpa using e⟩
              have H7 : Sat w7 (wrsA (.slice va m vc) L * (pt hb (.cells (ints hs) 3 (0, 0)) * (jrA j d J7 * (devA S7 d D7 * (pool S7 * whole w))))) := h7.to (by ac_rfl)
              obtain ⟨wb, wcp, hv, hw1, hw2⟩ := wrsA_cells H7 (by rw [HLm.out]; omega)
              injection hv with hv1 _ hv3
              subst hv1; subst hv3
              obtain ⟨gs, hgs⟩ : ∃ gs, gs = L.map fun x => x.1 := ⟨_, rfl⟩
              have hgl : gs.length = m := by rw [hgs, List.length_map, HLm.out]
              obtain ⟨Z3, hZ3⟩ : ∃ X, X = wrsS (.slice (some ⟨wb, 0, none⟩) L.length vc) L * (blksE 5 gs * (jrA j d J7 * (devA S7 d D7 * (pool S7 * whole w)))) := ⟨_, rfl⟩
              have H8 : Sat w7 (pt hb (.cells (ints hs) 3 (0, 0)) * Z3) := by
                have h1 : Sat w7 (blksA (L.map fun x => (x.1, x.2.2)) * (wrsS (.slice (some ⟨wb, 0, none⟩) L.length vc) L * (pt hb (.cells (ints hs) 3 (0, 0)) * (jrA j d J7 * (devA S7 d D7 * (pool S7 * whole w)))))) := H7.to (by unfold wrsA wrsS; rw [HLm.out]; ac_rfl)
                have h2 := blksA_E (fun x hx => by
                  obtain ⟨y, hy, rfl⟩ := List.mem_map.1 hx
                  exact H480.out y hy) h1
                rw [List.map_map] at h2
                exact h2.to (by rw [hZ3, hgs]; show blksE _ _ * _ = _; ac_rfl)
              have hcz : ∀ w', Sat w' Z3 → w'.cell? ⟨b, off + i * 3 + 1, none⟩ = some (.int .i64 xd) := fun w' h =>
                (h.to (by rw [hZ3]; ac_rfl : _ = (wrsS (.slice (some ⟨wb, 0, none⟩) L.length vc) L * (blksE 5 gs * (jrA j d J7 * (devA S7 d D7 * pool S7)))) * whole w)).cellOld Hc1.out
              have hgw : ∀ k F w', k < m → Sat w' (wrsS (.slice (some ⟨wb, 0, none⟩) L.length vc) L * F) → w'.cell? ⟨wb, k * 2, none⟩ = some (.int .i64 (xz.getD k 0)) ∧ w'.cell? ⟨wb, k * 2 + 1, none⟩ = some (.slice (some ⟨gs.getD k 0, 0, none⟩) 480 480) := fun k F w' hk h => by
                have hkL : k < L.length := by rw [HLm.out]; exact hk
                obtain ⟨a1, a2⟩ := wrsS_cell h hkL
                rw [(hidk k hk).2] at a1
                have : gs.getD k 0 = L[k].1 := by rw [hgs, List.getD, List.getElem?_map, List.getElem?_eq_getElem hkL]; rfl
                rw [this]
                exact ⟨a1, a2⟩
              have hids : ∀ k, k < m → 0 ≤ xz.getD k 0 ∧ xz.getD k 0 < 10 := fun k hk => by
                have hkL : k < L.length := by rw [HLm.out]; exact hk
                have := Hb.out.id (L[k].2.1, L[k].2.2) (List.mem_map.2 ⟨L[k], List.getElem_mem hkL, rfl⟩)
                rw [← (hidk k hk).2]; exact this
              have hvm : (vc : Int) ≤ 9223372036854775807 := by unfold maxLen at hw2; omega
              have hvl : (m : Int) ≤ (vc : Int) := by rw [HLm.out] at hw1; omega
              have HZ3 := SL.hid hZ3; have Hgl := SL.hid hgl; have Hcz := SL.hid hcz; have Hgw := SL.hid hgw; have Hids := SL.hid hids
              have H8h := SL.hid H8; have HD7 := SL.hid D7'
              clear hcm h7 d7 hW7 hsq7 H7 hw1 hw2 hgs hgl hZ3 hcz hgw hids H8 D7' hidk D6
              go_wp2_with fail
              go_loopw [16] (fun u wr => O4Rel m hb hs xz xd Z3 w u wr) (fun u _ => m - (intOf u).toNat)
              case atStart => exact ⟨0, Nat.zero_le _, rfl, H8h.out, HD7.out⟩
              case round =>
                clear H8h HD7
                obtain ⟨n, hn, rfl, hsat, hside⟩ := hrel
                by_cases hnl : n < m
                · have hnl' : (n : Int) < (m : Int) := by omega
                  obtain ⟨i0, i1⟩ := Hids.out n hnl
                  obtain ⟨id, hid⟩ := Int.eq_ofNat_of_zero_le i0
                  have hid10 : (id : Int) < 10 := by rw [← hid]; exact i1
                  have hidn : id < 10 := by omega
                  have hlen : (updH hs (Mo xz xd n)).length = 10 := by rw [updH_len]; exact Hhl.out
                  have q3 : wr.cell? ⟨hb, id, none⟩ = some (.int .i64 ((updH hs (Mo xz xd n)).getD id 0)) := (hsat.cell id).trans (get_ints_lt (by rw [hlen]; exact hidn))
                  have q4 : wr.frozen? ⟨hb, id, none⟩ = false := hsat.frozen id
                  generalize (updH hs (Mo xz xd n)).getD id 0 = uo at q3
                  have hset := hsat.setCell id (.int .i64 ((xd + (n : Int)) % 256))
                  have e1 : (updH hs (Mo xz xd n)).set id ((xd + (n : Int)) % 256) = updH hs (Mo xz xd (n + 1)) := by
                    rw [Mo_succ, updH_snoc, hid]; rfl
                  rw [set_ints, e1] at hset
                  have hand : bits .and .i64 (IntKind.i64.wrap (xd + (n : Int))) 255 = (xd + (n : Int)) % 256 := by
                    rw [and8, IntKind.wrap_i64]; omega
                  have S8 : Sat wr Z3 := hsat.right
                  have S9 := hset.right
                  have S8d := S8.drew
                  have S9d := S9.drew
                  have gb1 : ∀ w', Sat w' Z3 → w'.cell? ⟨wb, n * 2, none⟩ = some (.int .i64 (id : Int)) := fun w' h => by
                    rw [HZ3.out] at h
                    rw [← hid]; exact (Hgw.out n _ w' hnl h).1
                  have gb2 := Hcz.out
                  have Hset := SL.hid hset; have Hside := SL.hid hside
                  clear hsat hset hside e1 hlen hid i0 i1
                  go_wp2_with fail
                  go_region_held3 (fun w' => Sat w' Z3) (first | (with_reducible exact S8) | (with_reducible exact S9) | (with_reducible exact S9d) | (with_reducible exact S8d)) (fail)
                  have H9 := Hset.out.drew
                  have D9 := (Hside.out.setCell ⟨hb, id, none⟩ (.int .i64 ((xd + (n : Int)) % 256))).drew
                  generalize (wr.setCell ⟨hb, id, none⟩ (.int .i64 ((xd + (n : Int)) % 256))).drew = w9 at H9 D9 ⊢
                  clear S8 S9 S8d S9d gb1 gb2 Hset Hside q3 q4 hand
                  have hng : n < gs.length := by rw [Hgl.out]; exact hnl
                  obtain ⟨W5, hW5⟩ : ∃ X, X = blksE 5 (gs.eraseIdx n) * (pt hb (.cells (ints (updH hs (Mo xz xd (n + 1)))) 3 (0, 0)) * (wrsS (.slice (some ⟨wb, 0, none⟩) L.length vc) L * (jrA j d J7 * (devA S7 d D7 * (pool S7 * whole w))))) := ⟨_, rfl⟩
                  obtain ⟨g, hg⟩ : ∃ g, g = gs[n] := ⟨_, rfl⟩
                  have H10 : Sat w9 (blkA 5 g * W5) := H9.to (by rw [HZ3.out, hW5, blksE_get 5 hng, hg]; ac_rfl)
                  obtain ⟨l0, hl0, H11⟩ := H10.blkOpen
                  have hcw : ∀ w' o, Sat w' (pt g o * W5) → w'.cell? ⟨wb, n * 2 + 1, none⟩ = some (.slice (some ⟨g, 0, none⟩) 480 480) := fun w' o h => by
                    have h' : Sat w' (wrsS (.slice (some ⟨wb, 0, none⟩) L.length vc) L * (pt g o * (blksE 5 (gs.eraseIdx n) * (pt hb (.cells (ints (updH hs (Mo xz xd (n + 1)))) 3 (0, 0)) * (jrA j d J7 * (devA S7 d D7 * (pool S7 * whole w))))))) := h.to (by rw [hW5]; ac_rfl)
                    have := (Hgw.out n _ w' hnl h').2
                    rwa [List.getD, List.getElem?_eq_getElem hng, Option.getD_some, ← hg] at this
                  have HW5 := SL.hid hW5; have Hg := SL.hid hg; have Hcw := SL.hid hcw; have H11h := SL.hid H11; have Hl0 := SL.hid hl0; have HD9 := SL.hid D9
                  clear H9 H10 H11 hW5 hg hcw hl0 D9
                  go_wp2_with fail
                  go_loopw [17] (fun u wr => BlkRel g W5 w u wr) (fun u _ => 480 - (intOf u).toNat)
                  case atStart => exact ⟨0, l0, Nat.zero_le _, rfl, Hl0.out, H11h.out, HD9.out⟩
                  case round =>
                    clear H11h Hl0 HD9
                    obtain ⟨t, l, ht, rfl, hll, hsat, hside⟩ := hrel
                    have cw : wr.cell? ⟨wb, n * 2 + 1, none⟩ = some (.slice (some ⟨g, 0, none⟩) 480 480) := Hcw.out wr _ hsat
                    by_cases htl : t < 480
                    · have htl' : (t : Int) < 480 := by omega
                      have ct : wr.cell? ⟨g, t, none⟩ = some (SL.u8 (l.getD t 0)) := by
                        rw [hsat.cell, get_u8s, List.getD, List.getElem?_eq_getElem (by omega)]; rfl
                      have ft := hsat.frozen t
                      generalize SL.u8 (l.getD t 0) = uo at ct
                      have hset := hsat.setCell t (SL.u8 99)
                      rw [set_u8s] at hset
                      have e99 : SL.u8 99 = .int .u8 99 := rfl
                      rw [e99] at hset
                      have Hset := SL.hid hset; have Hside := SL.hid hside; have Hll := SL.hid hll
                      clear hsat hset hside hll e99
                      go_wp2
                      go_roundw
                      case rel => exact ⟨t + 1, l.set t 99, by omega, by go_num, by rw [List.length_set]; exact Hll.out, Hset.out, Hside.out.setCell _ _⟩
                      case measure => simp [intOf]; omega
                    · obtain rfl : t = 480 := by omega
                      have hb1 := hsat.blkShut hll
                      have hb2 : Sat wr (pt hb (.cells (ints (updH hs (Mo xz xd (n + 1)))) 3 (0, 0)) * Z3) := hb1.to (by rw [HZ3.out, HW5.out, blksE_get 5 hng, Hg.out]; ac_rfl)
                      have Hb2 := SL.hid hb2; have Hside := SL.hid hside
                      clear hsat hb1 hb2 hside hll
                      go_wp2
                      go_roundw
                      case rel => exact ⟨n + 1, by omega, by go_num, Hb2.out, Hside.out⟩
                      case measure => simp [intOf]; omega
                · obtain rfl : n = m := by omega
                  have hH2 : HasOf 10 (updB has L.bl) (updH hs (Mo xz xd n)) := by
                    have hnd : ((Mo xz xd n).map Prod.fst).Nodup := by
                      have := Hb.out.nd
                      rw [HL.out, ← Mo_bl, List.map_map] at this
                      exact this
                    have := hasOf_upd (Mo xz xd n) has hs Hhl.out HH.out (fun p hp => by
                      obtain ⟨k, hk, rfl⟩ := List.mem_map.1 hp
                      have := Hids.out k (List.mem_range.1 hk)
                      exact ⟨this.1, this.2, Int.emod_nonneg _ (by decide)⟩) hnd
                    rw [Mo_bl, ← HL.out] at this
                    exact this
                  have hs10 : Sat wr (jrA j d J7 * (devA S7 d D7 * (pool S7 * (pt hb (.cells (ints (updH hs (Mo xz xd n))) 3 (0, 0)) * whole w)))) :=
                    ((hsat.to (by rw [HZ3.out]; ac_rfl : _ = wrsS (.slice (some ⟨wb, 0, none⟩) L.length vc) L * (blksE 5 gs * (jrA j d J7 * (devA S7 d D7 * (pool S7 * (pt hb (.cells (ints (updH hs (Mo xz xd n))) 3 (0, 0)) * whole w))))))).right).right
                  have hlen : (updH hs (Mo xz xd n)).length = 10 := by rw [updH_len]; exact Hhl.out
                  generalize updH hs (Mo xz xd n) = hs2 at hH2 hs10 hlen
                  have hst := state_any wr j d J7 _ hs10 HW7.out.inv.ok
                  have hn10 : J7.T.ps.length = 10 := by have := HW7.out.inv.ok.ps; rw [HW7.out.jn] at this; omega
                  have hats : (Jr.ats J7).length = 10 := by unfold Jr.ats; rw [List.length_map, List.length_range, hn10]
                  have e11 : ∀ ag, (Jr.js J7).v (.slice (some ⟨ag, 0, none⟩) J7.T.ps.length J7.T.ps.length) = .agg #[.int .u32 J7.ep, .int .u64 J7.st, .int .u64 J7.sq, .int .i64 J7.hd, .int .i64 J7.us, .slice (some ⟨ag, 0, none⟩) 10 10] := fun ag => by rw [hn10]; rfl
                  have HE11 := SL.hid e11; have HH2 := SL.hid hH2; have Hlen := SL.hid hlen; have Hside := SL.hid hside; have Hats := SL.hid hats
                  clear e11 hH2 hlen hside hs10 hn10 hats hsat
                  go_wp2_with fail
                  (with_reducible refine hst.mono ?_)
                  rintro e w8 ⟨ag2, rfl, h8, d8⟩
                  rw [HE11.out]
                  have H9 := h8.alloc (.cells #[.int .u32 J7.ep, .int .u64 J7.st, .int .u64 J7.sq, .int .i64 J7.hd, .int .i64 J7.us, .slice (some ⟨ag2, 0, none⟩) 10 10] 26 (0, 0))
                  have D9 := (Hside.out.trans d8).alloc (.cells #[.int .u32 J7.ep, .int .u64 J7.st, .int .u64 J7.sq, .int .i64 J7.hd, .int .i64 J7.us, .slice (some ⟨ag2, 0, none⟩) 10 10] 26 (0, 0))
                  clear hst h8 d8 Hside
                  go_wp2_with fail
                  generalize w8.alloc (.cells #[.int .u32 J7.ep, .int .u64 J7.st, .int .u64 J7.sq, .int .i64 J7.hd, .int .i64 J7.us, .slice (some ⟨ag2, 0, none⟩) 10 10] 26 (0, 0)) = w9 at H9 D9 ⊢
                  generalize w8.heap.size = sb2 at H9 ⊢
                  obtain ⟨O2, hO2⟩ : ∃ o, o = Obj.cells #[.int .u32 J7.ep, .int .u64 J7.st, .int .u64 J7.sq, .int .i64 J7.hd, .int .i64 J7.us, .slice (some ⟨ag2, 0, none⟩) 10 10] 26 (0, 0) := ⟨_, rfl⟩
                  rw [← hO2] at H9
                  have HO2 := SL.hid hO2
                  clear hO2
                  obtain ⟨Zc, hZc⟩ : ∃ X, X = pt sb2 O2 * (jrA j d J7 * (devA S7 d D7 * (pool S7 * (pt hb (.cells (ints hs2) 3 (0, 0)) * whole w)))) := ⟨_, rfl⟩
                  have H10 := SL.hid (H9.to (by rw [hZc]; ac_rfl : _ = pt ag2 (.cells (ints (Jr.ats J7)) 3 (0, 0)) * Zc))
                  have HZc := SL.hid hZc; have HD9 := SL.hid D9
                  clear H9 hZc D9
                  go_loopw [19] (fun u wr => RowRel 10 10 ag2 Zc w u wr) (fun u _ => 10 - (intOf u).toNat)
                  case atStart => exact ⟨0, _, Nat.zero_le _, rfl, by have := Hats.out; simp [ints, this], H10.out, HD9.out⟩
                  case round =>
                    clear H10 HD9
                    obtain ⟨k, cu, hk, rfl, hsz, hsat, hside⟩ := hrel
                    have hz : Sat wr (pt sb2 O2 * (pt ag2 (.cells cu 3 (0, 0)) * (jrA j d J7 * (devA S7 d D7 * (pool S7 * (pt hb (.cells (ints hs2) 3 (0, 0)) * whole w)))))) := hsat.to (by rw [HZc.out]; ac_rfl)
                    have c5 : wr.cell? ⟨sb2, 5, none⟩ = some (.slice (some ⟨ag2, 0, none⟩) 10 10) := by have := hz; rw [HO2.out] at this; exact this.cell 5
                    by_cases hkl : k < 10
                    · have hkl' : (k : Int) < 10 := by omega
                      obtain ⟨uo, huo⟩ : ∃ u, cu[k]? = some u := ⟨_, Array.getElem?_eq_getElem (by omega)⟩
                      have ck : wr.cell? ⟨ag2, k, none⟩ = some uo := (hsat.cell k).trans huo
                      have fk := hsat.frozen k
                      have hset := SL.hid (hsat.setCell k (.int .i64 3))
                      have Hside := SL.hid hside; have Hsz := SL.hid hsz
                      clear hsat hz huo hside hsz
                      go_wp2
                      go_roundw
                      case rel => exact ⟨k + 1, _, by omega, by go_num, by rw [Array.size_setIfInBounds]; exact Hsz.out, hset.out, Hside.out.setCell _ _⟩
                      case measure => simp [intOf]; omega
                    · obtain rfl : k = 10 := by omega
                      have Hz := SL.hid hz.right.right; have Hside := SL.hid hside
                      clear hsat hz hside hsz
                      go_wp2
                      go_roundw
                      case rel => exact ⟨i + 1, S7, J7, D7, updB has L.bl, hs2, by omega, by go_num, Hlen.out, HH2.out, HW7.out, Hz.out, Hside.out⟩
                      case measure => simp [intOf]; omega
            · have hmay := hmayB false ⟨fun h => (by cases h), fun h => absurd (hbm.2 h) hb⟩
              clear hmayB hbm hb
              go_wp2_with fail
              (with_reducible refine hmay.mono ?_)
              rintro e w6 ⟨rfl, t6, hw6⟩
              have H6 : Sat w6 (wrsA (.slice va m vc) L * (jrA j d J * (devA S d D * (pool S * (pt hb (.cells (ints hs) 3 (0, 0)) * whole w))))) := by
                rw [hw6, ← HLm.out]; exact sat_drewN Hs5.out t6
              have D6 : Side w w6 := by rw [hw6]; exact side_drewN HD5.out t6
              have HH6 := SL.hid H6.right; have HD6 := SL.hid D6
              clear hmay hw6 e0 Hs5 HD5 H6 D6
              go_wp2
              go_roundw
              case rel => exact ⟨i + 1, S, J, D, has, hs, by omega, by go_num, Hhl.out, HH.out, jw_more HW.out (by omega), HH6.out, HD6.out⟩
              case measure => simp [intOf]; omega
          · have hd : (decide ((i : Int) < (len0 : Int)) && decide ((i : Int) < 40)) = false := by
              rw [Bool.and_eq_false_iff]
              by_cases h : i < len0
              · exact .inr (by simp; omega)
              · exact .inl (by simp; omega)
            have fin : O3Out j d hb w wr := ⟨S, J, D, has, hs, hhl, hH, jw_more hW (by omega), hsat, hside⟩
            have Hfin := SL.hid fin
            clear fin hsat hside hW hH
            by_cases hl : i < len0
            · have hl' : (i : Int) < (len0 : Int) := by omega
              obtain rfl : i = 40 := by omega
              go_wp2_with fail
              go_meet
              exact Hfin.out
            · have hl' : ¬ (i : Int) < (len0 : Int) := by omega
              go_wp2_with fail
              go_meet
              exact Hfin.out
      case rest =>
        clear hsat hside HZ2
        obtain ⟨S, J, D, has, hs, hhl, hH, hW, hsat, hside⟩ := hcut
        go_upto_block 12 with (fail)
        go_wp2_with fail
        go_loopw [20] (fun u wr => O7Rel j d hb 40 J has hs w u wr) (fun u _ => 10 - (intOf u).toNat)
        case atStart => exact ⟨0, 40, S, D, Nat.zero_le _, rfl, rfl, hW, hsat, hside⟩
        case round =>
          clear hsat hside hW
          obtain ⟨i, B1, S, D, hi, rfl, hB1, hW, hsat, hside⟩ := hrel
          by_cases hlt : i < 10
          · have hlt' : (i : Int) < 10 := by omega
            have hHi := hH i hlt
            have HW1 := SL.hid hW; have HS1 := SL.hid hsat; have HD1 := SL.hid hside
            clear hW hsat hside
            go_wp2_with fail
            go_loopw [21] (fun u wr => O8Rel j d hb B1 J has hs w u wr) (fun u _ => 2 - (intOf u).toNat)
            case atStart => exact ⟨0, B1, S, D, Nat.zero_le _, rfl, rfl, HW1.out, HS1.out, HD1.out⟩
            case round =>
              clear HS1 HD1 HW1
              obtain ⟨t, B2, S, D, ht, rfl, hB2, hW, hsat, hside⟩ := hrel
              by_cases htl : t < 2
              · have htl' : (t : Int) < 2 := by omega
                have hrd := jreadC_any wr S j d J D (pt hb (.cells (ints hs) 3 (0, 0)) * whole w) has hsat hW (by omega) (id := (i : Int)) (by omega) (by omega)
                have HW := SL.hid hW; have Hside := SL.hid hside
                clear hsat hW hside
                go_wp2_with fail
                (with_reducible refine hrd.mono ?_)
                rintro e w10 ⟨dv, r, rfl, h10, d10, r1, r2⟩
                obtain ⟨l, hl⟩ : ∃ l, l = (has (i : Int)).getD (zs 480) := ⟨_, rfl⟩
                rw [← hl] at h10
                obtain ⟨x, hx⟩ : ∃ x, x = hs.getD i 0 := ⟨_, rfl⟩
                have hx2 : (x = -1 ∧ l = zs 480) ∨ (0 ≤ x ∧ l = bj x) := by
                  rcases hHi with ⟨a, b⟩ | ⟨a, b⟩
                  · rw [b] at hl; exact .inl ⟨by rw [hx]; exact a, hl⟩
                  · rw [b] at hl; exact .inr ⟨by rw [hx]; exact a, by rw [hl, hx]; rfl⟩
                have hl480 : l.length = 480 := by
                  rcases hx2 with ⟨_, e⟩ | ⟨_, e⟩ <;> rw [e]
                  · exact length_zs 480
                  · exact bj_len x
                rcases h10.slCases with ⟨_, h0, _⟩ | ⟨g, cap2, cur2, rfl, q3, q4, q7, q8, q9⟩
                · omega
                clear q7 q8 q9
                rw [hl480] at h10 q3 ⊢
                have hcap480 : (480 : Int) ≤ (cap2 : Int) := by omega
                have hcap2m : (cap2 : Int) ≤ 9223372036854775807 := by unfold maxLen at q4; omega
                obtain ⟨BIG, hBIG⟩ : ∃ X, X = bs 5 (.slice (some ⟨g, 0, none⟩) 480 cap2) l * (jrA j d J * (devA S d { D with cr := r } * (pool S * (pt hb (.cells (ints hs) 3 (0, 0)) * whole w)))) := ⟨_, rfl⟩
                have H10 : Sat w10 BIG := hBIG ▸ h10
                have HB := SL.hid hBIG
                have cx : ∀ w', Sat w' BIG → (convert 51 9 (.slice (some ⟨g, 0, none⟩) 480 cap2)).run Try.prog w' = .ok (.string (str l)) w' := fun w' h => run_text w' _ _ (HB.out ▸ h).bsRd
                have cc : ∀ w', Sat w' BIG → w'.cell? ⟨hb, i, none⟩ = some (.int .i64 x) := fun w' h => by
                  have h' : Sat w' (pt hb (.cells (ints hs) 3 (0, 0)) * (bs 5 (.slice (some ⟨g, 0, none⟩) 480 cap2) l * (jrA j d J * (devA S d { D with cr := r } * (pool S * whole w))))) := h.to (by rw [HB.out]; ac_rfl)
                  rw [hx]; exact (h'.cell i).trans (get_ints_lt (by omega))
                have HW2 := SL.hid (jw_cr HW.out r1 r2)
                have D10 := SL.hid (Hside.out.trans d10)
                clear hrd h10 d10 r1 r2 hBIG hl Hside HW hx q3 q4
                go_wp2_with fail
                go_cut [199] from 161 to 199 (fun u199 wx => u199 = .bool false ∧ Sat wx BIG ∧ Side w wx)
                case first =>
                  rcases hx2 with ⟨rfl, hle⟩ | ⟨hx0, hle⟩
                  · rw [hle] at cx
                    have hmk : ∀ w, (Instr.makeSlice 51 (.int .i64 480) (.int .i64 480)).run Try.prog w =
                      .ok (.slice (some ⟨w.heap.size, 0, none⟩) 480 480) (w.alloc (.cells (u8s (zs 480)) 5 (0, 0))) := make_bytes 480 (by omega)
                    have kz : (convert 51 9 (.slice (some ⟨w10.heap.size, 0, none⟩) 480 480)).run Try.prog (w10.alloc (.cells (u8s (zs 480)) 5 (0, 0))).drew = .ok (.string (str (zs 480))) (w10.alloc (.cells (u8s (zs 480)) 5 (0, 0))).drew := by
                      have := rd_row (c := 480) (H10.alloc (.cells (u8s (zs 480)) 5 (0, 0))).heap
                      rw [length_zs] at this
                      exact run_text _ _ _ (show Rd (w10.alloc (.cells (u8s (zs 480)) 5 (0, 0))).drew _ _ from this)
                    have HAl : Sat (w10.drew.alloc (.cells (u8s (zs 480)) 5 (0, 0))) BIG := (H10.drew.alloc _).right
                    have DAl : Side w (w10.alloc (.cells (u8s (zs 480)) 5 (0, 0))).drew := (D10.out.alloc _).drew
                    go_wp2_with fail
                    refine wp_region_held_drew (S := (fun w' => Sat w' BIG)) (by kernel_rfl) ?_ (fun hHeld => ?_)
                    · first | exact H10.drew | exact HAl | assumption
                    refine wpAnyH_take (i := 0) (v := ?_) rfl (by kernel_rfl) (by kernel_rfl) (by kernel_rfl) (fun _ _ _ h => h) (Or.inl ⟨by kernel_rfl, ?_⟩) (by assumption) ?_
                    rotate_left
                    · intro w hSw; (try dsimp only at hSw); go_simp; try with_reducible rfl
                    try simp only [List.getElem_toArray, List.getElem_cons_succ, List.getElem_cons_zero, Act.put, List.setIfInBounds_toArray, List.set_cons_zero, List.set_cons_succ]
                    refine wpAnyH_take (i := 1) (v := ?_) rfl (by kernel_rfl) (by kernel_rfl) (by kernel_rfl) (fun _ _ _ h => h) (Or.inl ⟨by kernel_rfl, ?_⟩) (by assumption) ?_
                    rotate_left
                    · intro w hSw; (try dsimp only at hSw); go_simp; try with_reducible rfl
                    try simp only [List.getElem_toArray, List.getElem_cons_succ, List.getElem_cons_zero, Act.put, List.setIfInBounds_toArray, List.set_cons_zero, List.set_cons_succ]
                    refine wpAnyH_take (i := 2) (v := ?_) rfl (by kernel_rfl) (by kernel_rfl) (by kernel_rfl) (fun _ _ _ h => h) (Or.inl ⟨by kernel_rfl, ?_⟩) (by assumption) ?_
                    rotate_left
                    · intro w hSw; (try dsimp only at hSw); go_simp; try with_reducible rfl
                    try simp only [List.getElem_toArray, List.getElem_cons_succ, List.getElem_cons_zero, Act.put, List.setIfInBounds_toArray, List.set_cons_zero, List.set_cons_succ]
                    refine wpAnyH_take (i := 3) (v := ?_) rfl (by kernel_rfl) (by kernel_rfl) (by kernel_rfl) (fun _ _ _ h => h) (Or.inl ⟨by kernel_rfl, ?_⟩) (by assumption) ?_
                    rotate_left
                    · intro w hSw; (try dsimp only at hSw); go_simp; try with_reducible rfl
                    try simp only [List.getElem_toArray, List.getElem_cons_succ, List.getElem_cons_zero, Act.put, List.setIfInBounds_toArray, List.set_cons_zero, List.set_cons_succ]
                    refine wpAnyH_take (i := 4) (v := ?_) rfl (by kernel_rfl) (by kernel_rfl) (by kernel_rfl) (fun _ _ _ h => h) (Or.inl ⟨by kernel_rfl, ?_⟩) (by assumption) ?_
                    rotate_left
                    · intro w hSw; (try dsimp only at hSw); go_simp; try with_reducible rfl
                    try simp only [List.getElem_toArray, List.getElem_cons_succ, List.getElem_cons_zero, Act.put, List.setIfInBounds_toArray, List.set_cons_zero, List.set_cons_succ]
                    refine wpAnyH_take (i := 5) (v := ?_) rfl (by kernel_rfl) (by kernel_rfl) (by kernel_rfl) (fun _ _ _ h => h) (Or.inl ⟨by kernel_rfl, ?_⟩) (by assumption) ?_
                    rotate_left
                    · intro w hSw; (try dsimp only at hSw); go_simp; try with_reducible rfl
                    try simp only [List.getElem_toArray, List.getElem_cons_succ, List.getElem_cons_zero, Act.put, List.setIfInBounds_toArray, List.set_cons_zero, List.set_cons_succ]
                    refine wpAnyH_take (i := 6) (v := ?_) rfl (by kernel_rfl) (by kernel_rfl) (by kernel_rfl) (fun _ _ _ h => h) (Or.inl ⟨by kernel_rfl, ?_⟩) (by assumption) ?_
                    rotate_left
                    · intro w hSw; (try dsimp only at hSw); go_simp; try with_reducible rfl
                    try simp only [List.getElem_toArray, List.getElem_cons_succ, List.getElem_cons_zero, Act.put, List.setIfInBounds_toArray, List.set_cons_zero, List.set_cons_succ]
                    refine wpAnyH_take (i := 7) (v := ?_) rfl (by kernel_rfl) (by kernel_rfl) (by kernel_rfl) (fun _ _ _ h => h) (Or.inl ⟨by kernel_rfl, ?_⟩) (by assumption) ?_
                    rotate_left
                    · intro w hSw; (try dsimp only at hSw); go_simp; try with_reducible rfl
                    try simp only [List.getElem_toArray, List.getElem_cons_succ, List.getElem_cons_zero, Act.put, List.setIfInBounds_toArray, List.set_cons_zero, List.set_cons_succ]
                    refine wpAnyH_take (i := 8) (v := ?_) rfl (by kernel_rfl) (by kernel_rfl) (by kernel_rfl) (fun _ _ _ h => h) (Or.inl ⟨by kernel_rfl, ?_⟩) (by assumption) ?_
                    rotate_left
                    · intro w hSw; (try dsimp only at hSw); go_simp; try with_reducible rfl
                    try simp only [List.getElem_toArray, List.getElem_cons_succ, List.getElem_cons_zero, Act.put, List.setIfInBounds_toArray, List.set_cons_zero, List.set_cons_succ]
                    refine wpAnyH_take (i := 9) (v := ?_) rfl (by kernel_rfl) (by kernel_rfl) (by kernel_rfl) (fun _ _ _ h => h) (Or.inl ⟨by kernel_rfl, ?_⟩) (by assumption) ?_
                    rotate_left
                    · intro w hSw; (try dsimp only at hSw); go_simp; try with_reducible rfl
                    try simp only [List.getElem_toArray, List.getElem_cons_succ, List.getElem_cons_zero, Act.put, List.setIfInBounds_toArray, List.set_cons_zero, List.set_cons_succ]
                    refine wpAnyH_take (i := 10) (v := ?_) rfl (by kernel_rfl) (by kernel_rfl) (by kernel_rfl) (fun _ _ _ h => h) (Or.inl ⟨by kernel_rfl, ?_⟩) (by assumption) ?_
                    rotate_left
                    · intro w hSw; (try dsimp only at hSw); go_simp; try with_reducible rfl
                    try simp only [List.getElem_toArray, List.getElem_cons_succ, List.getElem_cons_zero, Act.put, List.setIfInBounds_toArray, List.set_cons_zero, List.set_cons_succ]
                    refine wpAnyH_take (i := 11) (v := ?_) rfl (by kernel_rfl) (by kernel_rfl) (by kernel_rfl) (fun _ _ _ h => h) (Or.inl ⟨by kernel_rfl, ?_⟩) (by assumption) ?_
                    rotate_left
                    · intro w hSw; (try dsimp only at hSw); go_simp; try with_reducible rfl
                    try simp only [List.getElem_toArray, List.getElem_cons_succ, List.getElem_cons_zero, Act.put, List.setIfInBounds_toArray, List.set_cons_zero, List.set_cons_succ]
                    refine wpAnyH_take (i := 12) (v := ?_) rfl (by kernel_rfl) (by kernel_rfl) (by kernel_rfl) (fun _ _ _ h => h) (Or.inl ⟨by kernel_rfl, ?_⟩) (by assumption) ?_
                    rotate_left
                    · intro w hSw; (try dsimp only at hSw); go_simp; try with_reducible rfl
                    try simp only [List.getElem_toArray, List.getElem_cons_succ, List.getElem_cons_zero, Act.put, List.setIfInBounds_toArray, List.set_cons_zero, List.set_cons_succ]
                    refine wpAnyH_take (i := 13) (v := ?_) rfl (by kernel_rfl) (by kernel_rfl) (by kernel_rfl) (fun _ _ _ h => h) (Or.inl ⟨by kernel_rfl, ?_⟩) (by assumption) ?_
                    rotate_left
                    · intro w hSw; (try dsimp only at hSw); go_simp; try with_reducible rfl
                    try simp only [List.getElem_toArray, List.getElem_cons_succ, List.getElem_cons_zero, Act.put, List.setIfInBounds_toArray, List.set_cons_zero, List.set_cons_succ]
                    refine wpAnyH_take (i := 14) (v := undef) rfl (by kernel_rfl) (by kernel_rfl) (by kernel_rfl) (fun _ _ _ h => h) (Or.inr ⟨by kernel_rfl, rfl⟩) (by assumption) ?_
                    simp only [List.getElem_toArray, List.getElem_cons_succ, List.getElem_cons_zero, Act.put, List.setIfInBounds_toArray, List.set_cons_zero, List.set_cons_succ]
                    refine wpAnyH_take (i := 15) (v := undef) rfl (by kernel_rfl) (by kernel_rfl) (by kernel_rfl) (fun _ _ _ h => h) (Or.inr ⟨by kernel_rfl, rfl⟩) (by assumption) ?_
                    simp only [List.getElem_toArray, List.getElem_cons_succ, List.getElem_cons_zero, Act.put, List.setIfInBounds_toArray, List.set_cons_zero, List.set_cons_succ]
                    refine wpAnyH_take (i := 16) (v := undef) rfl (by kernel_rfl) (by kernel_rfl) (by kernel_rfl) (fun _ _ _ h => h) (Or.inr ⟨by kernel_rfl, rfl⟩) (by assumption) ?_
                    simp only [List.getElem_toArray, List.getElem_cons_succ, List.getElem_cons_zero, Act.put, List.setIfInBounds_toArray, List.set_cons_zero, List.set_cons_succ]
                    refine wpAnyH_take (i := 17) (v := undef) rfl (by kernel_rfl) (by kernel_rfl) (by kernel_rfl) (fun _ _ _ h => h) (Or.inr ⟨by kernel_rfl, rfl⟩) (by assumption) ?_
                    simp only [List.getElem_toArray, List.getElem_cons_succ, List.getElem_cons_zero, Act.put, List.setIfInBounds_toArray, List.set_cons_zero, List.set_cons_succ]
                    refine wpAnyH_take (i := 18) (v := undef) rfl (by kernel_rfl) (by kernel_rfl) (by kernel_rfl) (fun _ _ _ h => h) (Or.inr ⟨by kernel_rfl, rfl⟩) (by assumption) ?_
                    simp only [List.getElem_toArray, List.getElem_cons_succ, List.getElem_cons_zero, Act.put, List.setIfInBounds_toArray, List.set_cons_zero, List.set_cons_succ]
                    refine wpAnyH_take (i := 19) (v := undef) rfl (by kernel_rfl) (by kernel_rfl) (by kernel_rfl) (fun _ _ _ h => h) (Or.inr ⟨by kernel_rfl, rfl⟩) (by assumption) ?_
                    simp only [List.getElem_toArray, List.getElem_cons_succ, List.getElem_cons_zero, Act.put, List.setIfInBounds_toArray, List.set_cons_zero, List.set_cons_succ]
                    refine wpAnyH_take (i := 20) (v := undef) rfl (by kernel_rfl) (by kernel_rfl) (by kernel_rfl) (fun _ _ _ h => h) (Or.inr ⟨by kernel_rfl, rfl⟩) (by assumption) ?_
                    simp only [List.getElem_toArray, List.getElem_cons_succ, List.getElem_cons_zero, Act.put, List.setIfInBounds_toArray, List.set_cons_zero, List.set_cons_succ]
                    refine wpAnyH_take (i := 21) (v := undef) rfl (by kernel_rfl) (by kernel_rfl) (by kernel_rfl) (fun _ _ _ h => h) (Or.inr ⟨by kernel_rfl, rfl⟩) (by assumption) ?_
                    simp only [List.getElem_toArray, List.getElem_cons_succ, List.getElem_cons_zero, Act.put, List.setIfInBounds_toArray, List.set_cons_zero, List.set_cons_succ]
                    refine wpAnyH_take (i := 22) (v := undef) rfl (by kernel_rfl) (by kernel_rfl) (by kernel_rfl) (fun _ _ _ h => h) (Or.inr ⟨by kernel_rfl, rfl⟩) (by assumption) ?_
                    simp only [List.getElem_toArray, List.getElem_cons_succ, List.getElem_cons_zero, Act.put, List.setIfInBounds_toArray, List.set_cons_zero, List.set_cons_succ]
                    refine wpAnyH_take (i := 23) (v := ?_) rfl (by kernel_rfl) (by kernel_rfl) (by kernel_rfl) (fun _ _ _ h => h) (Or.inl ⟨by kernel_rfl, ?_⟩) (by assumption) ?_
                    rotate_left
                    · intro w hSw; (try dsimp only at hSw); go_simp; try with_reducible rfl
                    try simp only [List.getElem_toArray, List.getElem_cons_succ, List.getElem_cons_zero, Act.put, List.setIfInBounds_toArray, List.set_cons_zero, List.set_cons_succ]
                    refine wpAnyH_take (i := 24) (v := ?_) rfl (by kernel_rfl) (by kernel_rfl) (by kernel_rfl) (fun _ _ _ h => h) (Or.inl ⟨by kernel_rfl, ?_⟩) (by assumption) ?_
                    rotate_left
                    · intro w hSw; (try dsimp only at hSw); go_simp; try with_reducible rfl
                    try simp only [List.getElem_toArray, List.getElem_cons_succ, List.getElem_cons_zero, Act.put, List.setIfInBounds_toArray, List.set_cons_zero, List.set_cons_succ]
                    refine wpAnyH_take (i := 25) (v := ?_) rfl (by kernel_rfl) (by kernel_rfl) (by kernel_rfl) (fun _ _ _ h => h) (Or.inl ⟨by kernel_rfl, ?_⟩) (by assumption) ?_
                    rotate_left
                    · intro w hSw; (try dsimp only at hSw); go_simp; try with_reducible rfl
                    try simp only [List.getElem_toArray, List.getElem_cons_succ, List.getElem_cons_zero, Act.put, List.setIfInBounds_toArray, List.set_cons_zero, List.set_cons_succ]
                    refine wpAnyH_take (i := 26) (v := ?_) rfl (by kernel_rfl) (by kernel_rfl) (by kernel_rfl) (fun _ _ _ h => h) (Or.inl ⟨by kernel_rfl, ?_⟩) (by assumption) ?_
                    rotate_left
                    · intro w hSw; (try dsimp only at hSw); go_simp; try with_reducible rfl
                    try simp only [List.getElem_toArray, List.getElem_cons_succ, List.getElem_cons_zero, Act.put, List.setIfInBounds_toArray, List.set_cons_zero, List.set_cons_succ]
                    refine wpAnyH_take (i := 27) (v := ?_) rfl (by kernel_rfl) (by kernel_rfl) (by kernel_rfl) (fun _ _ _ h => h) (Or.inl ⟨by kernel_rfl, ?_⟩) (by assumption) ?_
                    rotate_left
                    · intro w hSw; (try dsimp only at hSw); go_simp; try with_reducible rfl
                    try simp only [List.getElem_toArray, List.getElem_cons_succ, List.getElem_cons_zero, Act.put, List.setIfInBounds_toArray, List.set_cons_zero, List.set_cons_succ]
                    refine wpAnyH_take (i := 28) (v := ?_) rfl (by kernel_rfl) (by kernel_rfl) (by kernel_rfl) (fun _ _ _ h => h) (Or.inl ⟨by kernel_rfl, ?_⟩) (by assumption) ?_
                    rotate_left
                    · intro w hSw; (try dsimp only at hSw); go_simp; try with_reducible rfl
                    try simp only [List.getElem_toArray, List.getElem_cons_succ, List.getElem_cons_zero, Act.put, List.setIfInBounds_toArray, List.set_cons_zero, List.set_cons_succ]
                    refine wpAnyH_take (i := 29) (v := ?_) rfl (by kernel_rfl) (by kernel_rfl) (by kernel_rfl) (fun _ _ _ h => h) (Or.inl ⟨by kernel_rfl, ?_⟩) (by assumption) ?_
                    rotate_left
                    · intro w hSw; (try dsimp only at hSw); go_simp; try with_reducible rfl
                    try simp only [List.getElem_toArray, List.getElem_cons_succ, List.getElem_cons_zero, Act.put, List.setIfInBounds_toArray, List.set_cons_zero, List.set_cons_succ]
                    refine wpAnyH_take (i := 30) (v := ?_) rfl (by kernel_rfl) (by kernel_rfl) (by kernel_rfl) (fun _ _ _ h => h) (Or.inl ⟨by kernel_rfl, ?_⟩) (by assumption) ?_
                    rotate_left
                    · intro w hSw; (try dsimp only at hSw); go_simp; try with_reducible rfl
                    try simp only [List.getElem_toArray, List.getElem_cons_succ, List.getElem_cons_zero, Act.put, List.setIfInBounds_toArray, List.set_cons_zero, List.set_cons_succ]
                    refine wpAnyH_take (i := 31) (v := ?_) rfl (by kernel_rfl) (by kernel_rfl) (by kernel_rfl) (fun _ _ _ h => h) (Or.inl ⟨by kernel_rfl, ?_⟩) (by assumption) ?_
                    rotate_left
                    · intro w hSw; (try dsimp only at hSw); go_simp; try with_reducible rfl
                    try simp only [List.getElem_toArray, List.getElem_cons_succ, List.getElem_cons_zero, Act.put, List.setIfInBounds_toArray, List.set_cons_zero, List.set_cons_succ]
                    refine wpAnyH_take (i := 32) (v := ?_) rfl (by kernel_rfl) (by kernel_rfl) (by kernel_rfl) (fun _ _ _ h => h) (Or.inl ⟨by kernel_rfl, ?_⟩) (by assumption) ?_
                    rotate_left
                    · intro w hSw; (try dsimp only at hSw); go_simp; try with_reducible rfl
                    try simp only [List.getElem_toArray, List.getElem_cons_succ, List.getElem_cons_zero, Act.put, List.setIfInBounds_toArray, List.set_cons_zero, List.set_cons_succ]
                    refine wpAnyH_take (i := 33) (v := ?_) rfl (by kernel_rfl) (by kernel_rfl) (by kernel_rfl) (fun _ _ _ h => h) (Or.inl ⟨by kernel_rfl, ?_⟩) (by assumption) ?_
                    rotate_left
                    · intro w hSw; (try dsimp only at hSw); go_simp; try with_reducible rfl
                    try simp only [List.getElem_toArray, List.getElem_cons_succ, List.getElem_cons_zero, Act.put, List.setIfInBounds_toArray, List.set_cons_zero, List.set_cons_succ]
                    refine wpAnyH_ready (rs := [34]) (by kernel_rfl) (by simp) ?_
                    refine AllReadyH.cons rfl (fun K hK => ?_) AllReadyH.nil
                    go_simp
                    refine hK.out _ _ ?_ (fun hHeld => ?_)
                    · first | exact H10.drew | exact HAl | assumption
                    clear hK K
                    refine wpAnyH_ready (rs := [35]) (by kernel_rfl) (by simp) ?_
                    refine AllReadyH.cons rfl (fun K hK => ?_) AllReadyH.nil
                    go_simp
                    refine hK.out _ _ ?_ (fun hHeld => ?_)
                    · first | exact H10.drew | exact HAl | assumption
                    clear hK K
                    refine wpAnyH_take (i := 36) (v := ?_) rfl (by kernel_rfl) (by kernel_rfl) (by kernel_rfl) (fun _ _ _ h => h) (Or.inl ⟨by kernel_rfl, ?_⟩) (by assumption) ?_
                    rotate_left
                    · intro w hSw; (try dsimp only at hSw); go_simp; try with_reducible rfl
                    try simp only [List.getElem_toArray, List.getElem_cons_succ, List.getElem_cons_zero, Act.put, List.setIfInBounds_toArray, List.set_cons_zero, List.set_cons_succ]
                    refine wpAnyH_take (i := 37) (v := ?_) rfl (by kernel_rfl) (by kernel_rfl) (by kernel_rfl) (fun _ _ _ h => h) (Or.inl ⟨by kernel_rfl, ?_⟩) (by assumption) ?_
                    rotate_left
                    · intro w hSw; (try dsimp only at hSw); go_simp; try with_reducible rfl
                    try simp only [List.getElem_toArray, List.getElem_cons_succ, List.getElem_cons_zero, Act.put, List.setIfInBounds_toArray, List.set_cons_zero, List.set_cons_succ]
                    refine wpAnyH_take (i := 38) (v := ?_) rfl (by kernel_rfl) (by kernel_rfl) (by kernel_rfl) (fun _ _ _ h => h) (Or.inl ⟨by kernel_rfl, ?_⟩) (by assumption) ?_
                    rotate_left
                    · intro w hSw; (try dsimp only at hSw); go_simp; try with_reducible rfl
                    try simp only [List.getElem_toArray, List.getElem_cons_succ, List.getElem_cons_zero, Act.put, List.setIfInBounds_toArray, List.set_cons_zero, List.set_cons_succ]
                    refine wpAnyH_done (by kernel_rfl) ?_ _
                    go_wp2_with fail
                    go_meet
                    exact ⟨rfl, HAl, DAl⟩
                  · obtain ⟨xk, rfl⟩ := Int.eq_ofNat_of_zero_le hx0
                    rw [hle] at cx
                    clear hx0
                    go_wp2_with fail
                    refine wp_region_held_drew (S := (fun w' => Sat w' BIG)) (by kernel_rfl) ?_ (fun hHeld => ?_)
                    · first | exact H10.drew | exact HBA | assumption
                    refine wpAnyH_take (i := 0) (v := ?_) rfl (by kernel_rfl) (by kernel_rfl) (by kernel_rfl) (fun _ _ _ h => h) (Or.inl ⟨by kernel_rfl, ?_⟩) (by assumption) ?_
                    rotate_left
                    · intro w hSw; (try dsimp only at hSw); go_simp; try with_reducible rfl
                    try simp only [List.getElem_toArray, List.getElem_cons_succ, List.getElem_cons_zero, Act.put, List.setIfInBounds_toArray, List.set_cons_zero, List.set_cons_succ]
                    refine wpAnyH_take (i := 1) (v := ?_) rfl (by kernel_rfl) (by kernel_rfl) (by kernel_rfl) (fun _ _ _ h => h) (Or.inl ⟨by kernel_rfl, ?_⟩) (by assumption) ?_
                    rotate_left
                    · intro w hSw; (try dsimp only at hSw); go_simp; try with_reducible rfl
                    try simp only [List.getElem_toArray, List.getElem_cons_succ, List.getElem_cons_zero, Act.put, List.setIfInBounds_toArray, List.set_cons_zero, List.set_cons_succ]
                    refine wpAnyH_take (i := 2) (v := ?_) rfl (by kernel_rfl) (by kernel_rfl) (by kernel_rfl) (fun _ _ _ h => h) (Or.inl ⟨by kernel_rfl, ?_⟩) (by assumption) ?_
                    rotate_left
                    · intro w hSw; (try dsimp only at hSw); go_simp; try with_reducible rfl
                    try simp only [List.getElem_toArray, List.getElem_cons_succ, List.getElem_cons_zero, Act.put, List.setIfInBounds_toArray, List.set_cons_zero, List.set_cons_succ]
                    refine wpAnyH_take (i := 3) (v := ?_) rfl (by kernel_rfl) (by kernel_rfl) (by kernel_rfl) (fun _ _ _ h => h) (Or.inl ⟨by kernel_rfl, ?_⟩) (by assumption) ?_
                    rotate_left
                    · intro w hSw; (try dsimp only at hSw); go_simp; try with_reducible rfl
                    try simp only [List.getElem_toArray, List.getElem_cons_succ, List.getElem_cons_zero, Act.put, List.setIfInBounds_toArray, List.set_cons_zero, List.set_cons_succ]
                    refine wpAnyH_take (i := 4) (v := ?_) rfl (by kernel_rfl) (by kernel_rfl) (by kernel_rfl) (fun _ _ _ h => h) (Or.inl ⟨by kernel_rfl, ?_⟩) (by assumption) ?_
                    rotate_left
                    · intro w hSw; (try dsimp only at hSw); go_simp; try with_reducible rfl
                    try simp only [List.getElem_toArray, List.getElem_cons_succ, List.getElem_cons_zero, Act.put, List.setIfInBounds_toArray, List.set_cons_zero, List.set_cons_succ]
                    refine wpAnyH_take (i := 5) (v := ?_) rfl (by kernel_rfl) (by kernel_rfl) (by kernel_rfl) (fun _ _ _ h => h) (Or.inl ⟨by kernel_rfl, ?_⟩) (by assumption) ?_
                    rotate_left
                    · intro w hSw; (try dsimp only at hSw); go_simp; try with_reducible rfl
                    try simp only [List.getElem_toArray, List.getElem_cons_succ, List.getElem_cons_zero, Act.put, List.setIfInBounds_toArray, List.set_cons_zero, List.set_cons_succ]
                    refine wpAnyH_take (i := 6) (v := ?_) rfl (by kernel_rfl) (by kernel_rfl) (by kernel_rfl) (fun _ _ _ h => h) (Or.inl ⟨by kernel_rfl, ?_⟩) (by assumption) ?_
                    rotate_left
                    · intro w hSw; (try dsimp only at hSw); go_simp; try with_reducible rfl
                    try simp only [List.getElem_toArray, List.getElem_cons_succ, List.getElem_cons_zero, Act.put, List.setIfInBounds_toArray, List.set_cons_zero, List.set_cons_succ]
                    refine wpAnyH_take (i := 7) (v := ?_) rfl (by kernel_rfl) (by kernel_rfl) (by kernel_rfl) (fun _ _ _ h => h) (Or.inl ⟨by kernel_rfl, ?_⟩) (by assumption) ?_
                    rotate_left
                    · intro w hSw; (try dsimp only at hSw); go_simp; try with_reducible rfl
                    try simp only [List.getElem_toArray, List.getElem_cons_succ, List.getElem_cons_zero, Act.put, List.setIfInBounds_toArray, List.set_cons_zero, List.set_cons_succ]
                    refine wpAnyH_take (i := 8) (v := ?_) rfl (by kernel_rfl) (by kernel_rfl) (by kernel_rfl) (fun _ _ _ h => h) (Or.inl ⟨by kernel_rfl, ?_⟩) (by assumption) ?_
                    rotate_left
                    · intro w hSw; (try dsimp only at hSw); go_simp; try with_reducible rfl
                    try simp only [List.getElem_toArray, List.getElem_cons_succ, List.getElem_cons_zero, Act.put, List.setIfInBounds_toArray, List.set_cons_zero, List.set_cons_succ]
                    refine wpAnyH_take (i := 9) (v := ?_) rfl (by kernel_rfl) (by kernel_rfl) (by kernel_rfl) (fun _ _ _ h => h) (Or.inl ⟨by kernel_rfl, ?_⟩) (by assumption) ?_
                    rotate_left
                    · intro w hSw; (try dsimp only at hSw); go_simp; try with_reducible rfl
                    try simp only [List.getElem_toArray, List.getElem_cons_succ, List.getElem_cons_zero, Act.put, List.setIfInBounds_toArray, List.set_cons_zero, List.set_cons_succ]
                    refine wpAnyH_take (i := 10) (v := ?_) rfl (by kernel_rfl) (by kernel_rfl) (by kernel_rfl) (fun _ _ _ h => h) (Or.inl ⟨by kernel_rfl, ?_⟩) (by assumption) ?_
                    rotate_left
                    · intro w hSw; (try dsimp only at hSw); go_simp; try with_reducible rfl
                    try simp only [List.getElem_toArray, List.getElem_cons_succ, List.getElem_cons_zero, Act.put, List.setIfInBounds_toArray, List.set_cons_zero, List.set_cons_succ]
                    refine wpAnyH_take (i := 11) (v := ?_) rfl (by kernel_rfl) (by kernel_rfl) (by kernel_rfl) (fun _ _ _ h => h) (Or.inl ⟨by kernel_rfl, ?_⟩) (by assumption) ?_
                    rotate_left
                    · intro w hSw; (try dsimp only at hSw); go_simp; try with_reducible rfl
                    try simp only [List.getElem_toArray, List.getElem_cons_succ, List.getElem_cons_zero, Act.put, List.setIfInBounds_toArray, List.set_cons_zero, List.set_cons_succ]
                    refine wpAnyH_take (i := 12) (v := ?_) rfl (by kernel_rfl) (by kernel_rfl) (by kernel_rfl) (fun _ _ _ h => h) (Or.inl ⟨by kernel_rfl, ?_⟩) (by assumption) ?_
                    rotate_left
                    · intro w hSw; (try dsimp only at hSw); go_simp; try with_reducible rfl
                    try simp only [List.getElem_toArray, List.getElem_cons_succ, List.getElem_cons_zero, Act.put, List.setIfInBounds_toArray, List.set_cons_zero, List.set_cons_succ]
                    refine wpAnyH_take (i := 13) (v := ?_) rfl (by kernel_rfl) (by kernel_rfl) (by kernel_rfl) (fun _ _ _ h => h) (Or.inl ⟨by kernel_rfl, ?_⟩) (by assumption) ?_
                    rotate_left
                    · intro w hSw; (try dsimp only at hSw); go_simp; try with_reducible rfl
                    try simp only [List.getElem_toArray, List.getElem_cons_succ, List.getElem_cons_zero, Act.put, List.setIfInBounds_toArray, List.set_cons_zero, List.set_cons_succ]
                    refine wpAnyH_take (i := 14) (v := ?_) rfl (by kernel_rfl) (by kernel_rfl) (by kernel_rfl) (fun _ _ _ h => h) (Or.inl ⟨by kernel_rfl, ?_⟩) (by assumption) ?_
                    rotate_left
                    · intro w hSw; (try dsimp only at hSw); go_simp; try with_reducible rfl
                    try simp only [List.getElem_toArray, List.getElem_cons_succ, List.getElem_cons_zero, Act.put, List.setIfInBounds_toArray, List.set_cons_zero, List.set_cons_succ]
                    refine wpAnyH_take (i := 15) (v := ?_) rfl (by kernel_rfl) (by kernel_rfl) (by kernel_rfl) (fun _ _ _ h => h) (Or.inl ⟨by kernel_rfl, ?_⟩) (by assumption) ?_
                    rotate_left
                    · intro w hSw; (try dsimp only at hSw); go_simp; try with_reducible rfl
                    try simp only [List.getElem_toArray, List.getElem_cons_succ, List.getElem_cons_zero, Act.put, List.setIfInBounds_toArray, List.set_cons_zero, List.set_cons_succ]
                    refine wpAnyH_take (i := 16) (v := ?_) rfl (by kernel_rfl) (by kernel_rfl) (by kernel_rfl) (fun _ _ _ h => h) (Or.inl ⟨by kernel_rfl, ?_⟩) (by assumption) ?_
                    rotate_left
                    · intro w hSw; (try dsimp only at hSw); go_simp; try with_reducible rfl
                    try simp only [List.getElem_toArray, List.getElem_cons_succ, List.getElem_cons_zero, Act.put, List.setIfInBounds_toArray, List.set_cons_zero, List.set_cons_succ]
                    refine wpAnyH_take (i := 17) (v := ?_) rfl (by kernel_rfl) (by kernel_rfl) (by kernel_rfl) (fun _ _ _ h => h) (Or.inl ⟨by kernel_rfl, ?_⟩) (by assumption) ?_
                    rotate_left
                    · intro w hSw; (try dsimp only at hSw); go_simp; try with_reducible rfl
                    try simp only [List.getElem_toArray, List.getElem_cons_succ, List.getElem_cons_zero, Act.put, List.setIfInBounds_toArray, List.set_cons_zero, List.set_cons_succ]
                    refine wpAnyH_take (i := 18) (v := ?_) rfl (by kernel_rfl) (by kernel_rfl) (by kernel_rfl) (fun _ _ _ h => h) (Or.inl ⟨by kernel_rfl, ?_⟩) (by assumption) ?_
                    rotate_left
                    · intro w hSw; (try dsimp only at hSw); go_simp; try with_reducible rfl
                    try simp only [List.getElem_toArray, List.getElem_cons_succ, List.getElem_cons_zero, Act.put, List.setIfInBounds_toArray, List.set_cons_zero, List.set_cons_succ]
                    refine wpAnyH_take (i := 19) (v := ?_) rfl (by kernel_rfl) (by kernel_rfl) (by kernel_rfl) (fun _ _ _ h => h) (Or.inl ⟨by kernel_rfl, ?_⟩) (by assumption) ?_
                    rotate_left
                    · intro w hSw; (try dsimp only at hSw); go_simp; try with_reducible rfl
                    try simp only [List.getElem_toArray, List.getElem_cons_succ, List.getElem_cons_zero, Act.put, List.setIfInBounds_toArray, List.set_cons_zero, List.set_cons_succ]
                    refine wpAnyH_ready (rs := [20]) (by kernel_rfl) (by simp) ?_
                    refine AllReadyH.cons rfl (fun K hK => ?_) AllReadyH.nil
                    go_simp
                    go_wp2_with (first | (go_at_call 23; refine (block_any (xk : Int) _).mono ?_; rintro e wA ⟨gA, rfl, hA, dA⟩; have hA' := hA.under (Q := BIG) (by assumption); have kA := run_text wA _ _ (rd_bj hA'); have HBA := hA'.right))
                    refine hK.out _ _ ?_ (fun hHeld => ?_)
                    · first | exact H10.drew | exact HBA | assumption
                    clear hK K
                    refine wpAnyH_ready (rs := [21]) (by kernel_rfl) (by simp) ?_
                    refine AllReadyH.cons rfl (fun K hK => ?_) AllReadyH.nil
                    go_simp
                    refine hK.out _ _ ?_ (fun hHeld => ?_)
                    · first | exact H10.drew | exact HBA | assumption
                    clear hK K
                    refine wpAnyH_take (i := 22) (v := ?_) rfl (by kernel_rfl) (by kernel_rfl) (by kernel_rfl) (fun _ _ _ h => h) (Or.inl ⟨by kernel_rfl, ?_⟩) (by assumption) ?_
                    rotate_left
                    · intro w hSw; (try dsimp only at hSw); go_simp; try with_reducible rfl
                    try simp only [List.getElem_toArray, List.getElem_cons_succ, List.getElem_cons_zero, Act.put, List.setIfInBounds_toArray, List.set_cons_zero, List.set_cons_succ]
                    refine wpAnyH_take (i := 23) (v := ?_) rfl (by kernel_rfl) (by kernel_rfl) (by kernel_rfl) (fun _ _ _ h => h) (Or.inl ⟨by kernel_rfl, ?_⟩) (by assumption) ?_
                    rotate_left
                    · intro w hSw; (try dsimp only at hSw); go_simp; try with_reducible rfl
                    try simp only [List.getElem_toArray, List.getElem_cons_succ, List.getElem_cons_zero, Act.put, List.setIfInBounds_toArray, List.set_cons_zero, List.set_cons_succ]
                    refine wpAnyH_take (i := 24) (v := ?_) rfl (by kernel_rfl) (by kernel_rfl) (by kernel_rfl) (fun _ _ _ h => h) (Or.inl ⟨by kernel_rfl, ?_⟩) (by assumption) ?_
                    rotate_left
                    · intro w hSw; (try dsimp only at hSw); go_simp; try with_reducible rfl
                    try simp only [List.getElem_toArray, List.getElem_cons_succ, List.getElem_cons_zero, Act.put, List.setIfInBounds_toArray, List.set_cons_zero, List.set_cons_succ]
                    refine wpAnyH_take (i := 25) (v := ?_) rfl (by kernel_rfl) (by kernel_rfl) (by kernel_rfl) (fun _ _ _ h => h) (Or.inl ⟨by kernel_rfl, ?_⟩) (by assumption) ?_
                    rotate_left
                    · intro w hSw; (try dsimp only at hSw); go_simp; try with_reducible rfl
                    try simp only [List.getElem_toArray, List.getElem_cons_succ, List.getElem_cons_zero, Act.put, List.setIfInBounds_toArray, List.set_cons_zero, List.set_cons_succ]
                    refine wpAnyH_take (i := 26) (v := ?_) rfl (by kernel_rfl) (by kernel_rfl) (by kernel_rfl) (fun _ _ _ h => h) (Or.inl ⟨by kernel_rfl, ?_⟩) (by assumption) ?_
                    rotate_left
                    · intro w hSw; (try dsimp only at hSw); go_simp; try with_reducible rfl
                    try simp only [List.getElem_toArray, List.getElem_cons_succ, List.getElem_cons_zero, Act.put, List.setIfInBounds_toArray, List.set_cons_zero, List.set_cons_succ]
                    refine wpAnyH_take (i := 27) (v := ?_) rfl (by kernel_rfl) (by kernel_rfl) (by kernel_rfl) (fun _ _ _ h => h) (Or.inl ⟨by kernel_rfl, ?_⟩) (by assumption) ?_
                    rotate_left
                    · intro w hSw; (try dsimp only at hSw); go_simp; try with_reducible rfl
                    try simp only [List.getElem_toArray, List.getElem_cons_succ, List.getElem_cons_zero, Act.put, List.setIfInBounds_toArray, List.set_cons_zero, List.set_cons_succ]
                    refine wpAnyH_take (i := 28) (v := ?_) rfl (by kernel_rfl) (by kernel_rfl) (by kernel_rfl) (fun _ _ _ h => h) (Or.inl ⟨by kernel_rfl, ?_⟩) (by assumption) ?_
                    rotate_left
                    · intro w hSw; (try dsimp only at hSw); go_simp; try with_reducible rfl
                    try simp only [List.getElem_toArray, List.getElem_cons_succ, List.getElem_cons_zero, Act.put, List.setIfInBounds_toArray, List.set_cons_zero, List.set_cons_succ]
                    refine wpAnyH_take (i := 29) (v := ?_) rfl (by kernel_rfl) (by kernel_rfl) (by kernel_rfl) (fun _ _ _ h => h) (Or.inl ⟨by kernel_rfl, ?_⟩) (by assumption) ?_
                    rotate_left
                    · intro w hSw; (try dsimp only at hSw); go_simp; try with_reducible rfl
                    try simp only [List.getElem_toArray, List.getElem_cons_succ, List.getElem_cons_zero, Act.put, List.setIfInBounds_toArray, List.set_cons_zero, List.set_cons_succ]
                    refine wpAnyH_take (i := 30) (v := ?_) rfl (by kernel_rfl) (by kernel_rfl) (by kernel_rfl) (fun _ _ _ h => h) (Or.inl ⟨by kernel_rfl, ?_⟩) (by assumption) ?_
                    rotate_left
                    · intro w hSw; (try dsimp only at hSw); go_simp; try with_reducible rfl
                    try simp only [List.getElem_toArray, List.getElem_cons_succ, List.getElem_cons_zero, Act.put, List.setIfInBounds_toArray, List.set_cons_zero, List.set_cons_succ]
                    refine wpAnyH_take (i := 31) (v := ?_) rfl (by kernel_rfl) (by kernel_rfl) (by kernel_rfl) (fun _ _ _ h => h) (Or.inl ⟨by kernel_rfl, ?_⟩) (by assumption) ?_
                    rotate_left
                    · intro w hSw; (try dsimp only at hSw); go_simp; try with_reducible rfl
                    try simp only [List.getElem_toArray, List.getElem_cons_succ, List.getElem_cons_zero, Act.put, List.setIfInBounds_toArray, List.set_cons_zero, List.set_cons_succ]
                    refine wpAnyH_take (i := 32) (v := undef) rfl (by kernel_rfl) (by kernel_rfl) (by kernel_rfl) (fun _ _ _ h => h) (Or.inr ⟨by kernel_rfl, rfl⟩) (by assumption) ?_
                    simp only [List.getElem_toArray, List.getElem_cons_succ, List.getElem_cons_zero, Act.put, List.setIfInBounds_toArray, List.set_cons_zero, List.set_cons_succ]
                    refine wpAnyH_take (i := 33) (v := undef) rfl (by kernel_rfl) (by kernel_rfl) (by kernel_rfl) (fun _ _ _ h => h) (Or.inr ⟨by kernel_rfl, rfl⟩) (by assumption) ?_
                    simp only [List.getElem_toArray, List.getElem_cons_succ, List.getElem_cons_zero, Act.put, List.setIfInBounds_toArray, List.set_cons_zero, List.set_cons_succ]
                    refine wpAnyH_take (i := 34) (v := undef) rfl (by kernel_rfl) (by kernel_rfl) (by kernel_rfl) (fun _ _ _ h => h) (Or.inr ⟨by kernel_rfl, rfl⟩) (by assumption) ?_
                    simp only [List.getElem_toArray, List.getElem_cons_succ, List.getElem_cons_zero, Act.put, List.setIfInBounds_toArray, List.set_cons_zero, List.set_cons_succ]
                    refine wpAnyH_take (i := 35) (v := undef) rfl (by kernel_rfl) (by kernel_rfl) (by kernel_rfl) (fun _ _ _ h => h) (Or.inr ⟨by kernel_rfl, rfl⟩) (by assumption) ?_
                    simp only [List.getElem_toArray, List.getElem_cons_succ, List.getElem_cons_zero, Act.put, List.setIfInBounds_toArray, List.set_cons_zero, List.set_cons_succ]
                    refine wpAnyH_take (i := 36) (v := undef) rfl (by kernel_rfl) (by kernel_rfl) (by kernel_rfl) (fun _ _ _ h => h) (Or.inr ⟨by kernel_rfl, rfl⟩) (by assumption) ?_
                    simp only [List.getElem_toArray, List.getElem_cons_succ, List.getElem_cons_zero, Act.put, List.setIfInBounds_toArray, List.set_cons_zero, List.set_cons_succ]
                    refine wpAnyH_take (i := 37) (v := ?_) rfl (by kernel_rfl) (by kernel_rfl) (by kernel_rfl) (fun _ _ _ h => h) (Or.inl ⟨by kernel_rfl, ?_⟩) (by assumption) ?_
                    rotate_left
                    · intro w hSw; (try dsimp only at hSw); go_simp; try with_reducible rfl
                    try simp only [List.getElem_toArray, List.getElem_cons_succ, List.getElem_cons_zero, Act.put, List.setIfInBounds_toArray, List.set_cons_zero, List.set_cons_succ]
                    refine wpAnyH_take (i := 38) (v := ?_) rfl (by kernel_rfl) (by kernel_rfl) (by kernel_rfl) (fun _ _ _ h => h) (Or.inl ⟨by kernel_rfl, ?_⟩) (by assumption) ?_
                    rotate_left
                    · intro w hSw; (try dsimp only at hSw); go_simp; try with_reducible rfl
                    try simp only [List.getElem_toArray, List.getElem_cons_succ, List.getElem_cons_zero, Act.put, List.setIfInBounds_toArray, List.set_cons_zero, List.set_cons_succ]
                    refine wpAnyH_done (by kernel_rfl) ?_ _
                    go_wp2_with fail
                    go_meet
                    exact ⟨rfl, HBA, (D10.out.drew).trans dA⟩
                case rest =>
                  obtain ⟨rfl, HEND, DEND⟩ := hcut
                  rcases (HB.out ▸ HEND : Sat _ (bs 5 (.slice (some ⟨g, 0, none⟩) 480 cap2) l * (jrA j d J * (devA S d { D with cr := r } * (pool S * (pt hb (.cells (ints hs) 3 (0, 0)) * whole w)))))).slCases with ⟨hv, _⟩ | ⟨g', cap', cur', hv, hv7, hv8, hsz', hv9, hF'⟩
                  · cases hv
                  injection hv with hv1 hv2 hv3
                  injection hv1 with hv1
                  injection hv1 with hv1 hv5 hv6
                  clear hv2 hv5 hv6 hv7 hv8 hv9
                  subst hv1; subst hv3
                  obtain ⟨Y, hY⟩ : ∃ X, X = jrA j d J * (devA S d { D with cr := r } * (pool S * (pt hb (.cells (ints hs) 3 (0, 0)) * whole w))) := ⟨_, rfl⟩
                  rw [← hY] at hF'
                  have HY := SL.hid hY; have HF' := SL.hid hF'; have HS' := SL.hid (show cur'.size = cap2 by omega); have HDE := SL.hid DEND
                  clear hY hF' hsz' HEND DEND cx cc H10 hx2 hl480
                  go_wp2_with fail
                  go_loopw [24] (fun u wr => BytRel 480 cap2 g Y w u wr) (fun u _ => 480 - (intOf u).toNat)
                  case atStart => exact ⟨0, cur', Nat.zero_le _, rfl, HS'.out, HF'.out, HDE.out⟩
                  case round =>
                    clear HF' HS' HDE
                    obtain ⟨q, cu, hq, rfl, hsz, hsat, hside⟩ := hrel
                    by_cases hql : q < 480
                    · have hql' : (q : Int) < 480 := by omega
                      obtain ⟨uo, huo⟩ : ∃ u, cu[q]? = some u := ⟨_, Array.getElem?_eq_getElem (by omega)⟩
                      have ck : wr.cell? ⟨g, q, none⟩ = some uo := (hsat.cell q).trans huo
                      have fk := hsat.frozen q
                      have hset := SL.hid (hsat.setCell q (.int .u8 98))
                      have Hside := SL.hid hside; have Hsz := SL.hid hsz
                      clear hsat huo hside hsz
                      go_wp2
                      go_roundw
                      case rel => exact ⟨q + 1, _, by omega, by go_num, by rw [Array.size_setIfInBounds]; exact Hsz.out, hset.out, Hside.out.setCell _ _⟩
                      case measure => simp [intOf]; omega
                    · obtain rfl : q = 480 := by omega
                      have hz := hsat.right
                      rw [HY.out] at hz
                      have Hz := SL.hid hz; have Hside := SL.hid hside
                      clear hsat hz hside hsz
                      go_wp2
                      go_roundw
                      case rel => exact ⟨t + 1, B2 + 1, S, { D with cr := r }, by omega, by go_num, by omega, HW2.out, Hz.out, Hside.out⟩
                      case measure => simp [intOf]; omega
              · obtain rfl : t = 2 := by omega
                have Hs := SL.hid hsat; have Hd := SL.hid hside
                clear hsat hside
                go_wp2
                go_roundw
                case rel => exact ⟨i + 1, B2, S, D, by omega, by go_num, by omega, hW, Hs.out, Hd.out⟩
                case measure => simp [intOf]; omega
          · obtain rfl : i = 10 := by omega
            have Hs := SL.hid hsat.right.right.right.right; have Hd := SL.hid hside
            clear hsat hside hW
            go_wp2
            go_ret
            exact ⟨rfl, Hs.out, Hd.out⟩
end Go.Proofs.Ytlfooilcngjeiaa

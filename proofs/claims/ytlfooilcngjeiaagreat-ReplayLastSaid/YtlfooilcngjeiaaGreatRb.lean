/- ReplayAfter: the walk. -/
import Derived.Test.YtlfooilcngjeiaaGreatQx
import Derived.Test.YtlfooilcngjeiaaGreatRc
import Derived.Test.YtlfooilcngjeiaaGreatIs
import Derived.BigQuiet
import Derived.Deep.QuietTactic
import Derived.Deep.DeepCutAuto
import Derived.Deep.CutBlock
import Derived.Deep.CutRange
namespace Go.Proofs.YtlfooilcngjeiaaGreat
set_option linter.unusedVariables false
set_option linter.unusedSimpArgs false
open Go.RowKit Go.SL
theorem tellsT_fresh (P n : Nat) : tellsT P (Dev.fresh n) = fun _ => none := by
  funext p
  unfold tellsT
  rw [tells_fresh]
  split
  · rw [decodeF_zs]; rfl
  · rfl
theorem truth_fresh {n P : Nat} (hP : 1 ≤ P) (hn : n ≤ P) : Truth n P (fun _ => none) 0 0 (fun _ => none) :=
  ⟨by omega, hn, Int.le_refl _, fun _ => rfl, fun p t _ h => (by cases h), fun p t _ h => (by cases h), fun id p h => (by cases h), fun h => absurd h (by decide), fun e => ⟨1, 0, by decide, by decide, fun p t _ h => (by cases h)⟩⟩
theorem jt_fresh {n P : Nat} (hP : 1 ≤ P) (hP2 : P ≤ 19999) (h0 : 1 ≤ n) (h1 : n ≤ 3840) (hn : n ≤ P) : JT n (J0 P n) (Dev.fresh (P + 1)) fun _ => none := by
  refine ⟨fresh_inv hP hP2 h0 h1, J0_n P n, ?_⟩
  have e : atOf (J0 P n) = fun _ => none := by
    funext id
    unfold atOf
    rw [J0_T, (Tb.fresh_told n P id).1]; rfl
  show Run n P (tellsT P (Dev.fresh (P + 1))) 0 0 (atOf (J0 P n)) 1 1
  rw [tellsT_fresh, e]
  exact (truth_fresh hP hn).run fun p t _ h => by cases h
/-- Writes that were gathered, of n blocks, all different. -/
structure WIn (n : Nat) (v : Value) (L : Wo) : Prop where
  sh : ∃ a c, v = .slice a L.length c
  ids : ∀ x ∈ L, 0 ≤ x.2.1 ∧ x.2.1 < (n : Int)
  nd : (L.map fun x => x.2.1).Nodup
  b480 : ∀ x ∈ L, x.2.2.length = 480
theorem WIn.len {n : Nat} {v : Value} {L : Wo} (h : WIn n v L) : L.length ≤ n := by
  have := nodup_below (n := n) h.nd (fun x hx => by
    obtain ⟨y, hy, rfl⟩ := List.mem_map.1 hx
    exact h.ids y hy)
  rwa [List.length_map] at this
theorem WIn.batch {n : Nat} {v : Value} {L : Wo} (h : WIn n v L) (h0 : 1 ≤ L.length) (hn : n ≤ 24) : Batch (n : Int) L.bl := by
  have hl := h.len
  refine ⟨by rw [bl_len]; exact h0, by rw [bl_len]; omega, ?_, ?_, ?_⟩
  · intro x hx
    obtain ⟨y, hy, rfl⟩ := List.mem_map.1 hx
    exact h.ids y hy
  · intro x hx
    obtain ⟨y, hy, rfl⟩ := List.mem_map.1 hx
    exact h.b480 y hy
  · have e : L.bl.map Prod.fst = L.map fun x => x.2.1 := by unfold Wo.bl; rw [List.map_map]; rfl
    rw [e]; exact h.nd
theorem WIn.snoc {n m : Nat} {a : Option Addr} {c : Nat} {v : Value} {L : Wo} (h : WIn n v L) {g : Nat} {id : Int} {l : List UInt8} (h0 : 0 ≤ id) (h1 : id < (n : Int)) (hn : id ∉ L.map fun x => x.2.1) (hl : l.length = 480) (hm : m = L.length + 1) : WIn n (.slice a m c) (L ++ [(g, id, l)]) := by
  refine ⟨⟨a, c, by rw [List.length_append]; simp [hm]⟩, ?_, ?_, ?_⟩
  · intro x hx
    rcases List.mem_append.1 hx with hx | hx
    · exact h.ids x hx
    · obtain rfl : x = (g, id, l) := by simpa using hx
      exact ⟨h0, h1⟩
  · rw [List.map_append, List.nodup_append]
    refine ⟨h.nd, by simp, ?_⟩
    intro a ha b hb e
    have : b = id := by simpa using hb
    rw [e, this] at ha
    exact hn ha
  · intro x hx
    rcases List.mem_append.1 hx with hx | hx
    · exact h.b480 x hx
    · obtain rfl : x = (g, id, l) := by simpa using hx
      exact hl
/-- Which blocks were seen. -/
def SeenW (n : Nat) (bs : List Bool) (L : Wo) : Prop := SeenOf n bs (L.map fun x => (x.2.1, 0))
def A1Rel (j d : Nat) (w : World) (u : Value) (wr : World) : Prop :=
  ∃ (i B : Nat) (S : Hp) (J : Jr) (D : Dev) (has : Has), i ≤ 50 ∧ u = .int .i64 (i : Int) ∧ B ≤ 3 * i ∧ JW 12 160 B J D has ∧ JT 12 J D has ∧ Sat wr (jrA j d J * (devA S d D * (pool S * whole w))) ∧ Side w wr
def A2Rel (xl sn : Nat) (Y : Assn) (w : World) (u9 u11 : Value) (wr : World) : Prop :=
  ∃ (k : Nat) (L : Wo) (bs : List Bool), k ≤ xl ∧ u11 = .int .i64 (k : Int) ∧ WIn 12 u9 L ∧ SeenW 12 bs L ∧ Sat wr (wrsA u9 L * (pt sn (.cells (bls bs) 4 (0, 0)) * Y)) ∧ Side w wr
def A2Out (Y : Assn) (w : World) (u9 : Value) (wr : World) : Prop := ∃ L : Wo, WIn 12 u9 L ∧ Sat wr (wrsA u9 L * Y) ∧ Side w wr
def A3Rel (X : Assn) (w : World) (u : Value) (wr : World) : Prop := ∃ k : Nat, k ≤ 12 ∧ u = .int .i64 (k : Int) ∧ Sat wr X ∧ Side w wr
set_option maxRecDepth 100000 in
set_option maxHeartbeats 40000000 in
theorem after_any (a0 : Option Addr) (len0 cap0 : Nat) (X : Nat → RowV) (w : World) (hX : IsRows w a0 len0 cap0 X) :
    Calls Tryz.prog 3 #[.slice a0 len0 cap0] w (ShownQ w) := by
  have hlen0 := hX.len_le
  have HX := SL.hid hX
  clear hX
  go_enter Tryz.func3, Tryz.ntmps3
  go_wp2_with fail
  refine (shown9_any w).mono ?_
  rintro e w1 ⟨rfl, h1, d1⟩
  go_wp2_with fail
  refine (new_any (160 + 1) (by omega) (by omega) w1).mono ?_
  rintro e w2 ⟨d, rfl, h2, d2⟩
  have H2 := (h2 NoB).under h1
  clear h2 h1
  go_wp2_with fail
  refine (fresh_any 12 (by omega) w2).mono ?_
  rintro e w3 ⟨a, rfl, h3, d3⟩
  have H3 := h3.under H2
  clear h3 H2
  have hnew : Calls Tryz.prog 7 #[ptV d, .int .i64 160, (freshS 12).v a] w3 (JNewQ d (J0 160 12) w3) := jfresh_any w3 NoB d (Dev.fresh (160 + 1)) _ 12 160 a H3.front2 (rdI_sl (by rw [List.length_replicate]; exact H3)) (by omega) (by omega) (by omega) (by omega) (by rw [devLen]; omega) (by rw [devLen]; omega)
  go_wp2_with fail
  (with_reducible refine hnew.mono ?_)
  rintro e w4 ⟨j, rfl, h4, d4⟩
  have H4 : Sat w4 (jrA j d (J0 160 12) * (devA NoB d (Dev.fresh (160 + 1)) * (pool NoB * whole w))) := (h4.under H3.right.poolEmp).to (by ac_rfl)
  have D4 := ((d1.trans d2).trans d3).trans d4
  clear h4 H3 hnew d1 d2 d3 d4
  go_wp2_with fail
  go_loopw [8] (fun u wr => A1Rel j d w u wr) (fun u _ => 50 - (intOf u).toNat)
  case atStart => exact ⟨0, 0, NoB, J0 160 12, Dev.fresh (160 + 1), fun _ => none, Nat.zero_le _, rfl, Nat.le_refl _, jw_fresh (by omega) (by omega) (by omega) (by omega), jt_fresh (by omega) (by omega) (by omega) (by omega) (by omega), H4, D4⟩
  case round =>
    clear H4 D4
    obtain ⟨i, B, S, J, D, has, hi, rfl, hB, hW, hT, hsat, hside⟩ := hrel
    have hi' : (i : Int) ≤ 50 := by omega
    by_cases hlt : i < len0 ∧ i < 50
    · obtain ⟨hlt, h50⟩ := hlt
      have hlt' : (i : Int) < (len0 : Int) := by omega
      have h50' : (i : Int) < 50 := by omega
      obtain ⟨b, off, rfl, c0, hI, hlc, hcapX⟩ := HX.out.cell hlt
      generalize X i = x at *
      obtain ⟨xa, xl, xc, xz⟩ := x
      dsimp only at c0 hI
      have hxl := hI.len_le
      have hmk : ∀ w, (Instr.makeSlice 38 (.int .i64 12) (.int .i64 12)).run Tryz.prog w = .ok (.slice (some ⟨w.heap.size, 0, none⟩) 12 12) (w.alloc (.cells (bls (List.replicate 12 false)) 4 (0, 0))) := make_bls 12 (by omega)
      obtain ⟨B0, hB0⟩ : ∃ l, l = List.replicate 12 false := ⟨_, rfl⟩
      rw [← hB0] at hmk
      have HB0 := SL.hid hB0
      have HW := SL.hid hW; have HT := SL.hid hT; have Hc0 := SL.hid c0; have HI := SL.hid hI; have HB := SL.hid hB
      have H5 := hsat.alloc (.cells (bls B0) 4 (0, 0))
      have D5 := hside.alloc (.cells (bls B0) 4 (0, 0))
      clear hB0 hW hT c0 hI hB hsat hside
      go_upto_block 2 with (fail)
      generalize wr.alloc (.cells (bls B0) 4 (0, 0)) = w5 at H5 D5 ⊢
      generalize wr.heap.size = sn at H5 ⊢
      obtain ⟨Y, hY⟩ : ∃ X, X = jrA j d J * (devA S d D * (pool S * whole w)) := ⟨_, rfl⟩
      have H6 : Sat w5 (pt sn (.cells (bls B0) 4 (0, 0)) * Y) := H5.to (by rw [hY])
      have hold : ∀ (ad : Addr) (u : Value), w.cell? ad = some u → ∀ (Q : Assn) (w' : World), Sat w' (Q * Y) → w'.cell? ad = some u := fun ad u hc Q w' h =>
        (h.to (by rw [hY]; ac_rfl : _ = (Q * (jrA j d J * (devA S d D * pool S))) * whole w)).cellOld hc
      have HY := SL.hid hY; have H6h := SL.hid H6; have HD5 := SL.hid D5; have Hold := SL.hid hold
      clear H5 hmk hY H6 D5 hold
      go_cut [9] from 52 to 83 (fun u9 wx => A2Out Y w u9 wx)
      case first =>
        go_wp2_with fail
        go_loopw [9, 11] (fun u9 u11 wr => A2Rel xl sn Y w u9 u11 wr) (fun _ u _ => xl - (intOf u).toNat)
        case atStart =>
          refine ⟨0, [], B0, Nat.zero_le _, rfl, ⟨⟨none, 0, rfl⟩, fun x h => (by cases h), List.nodup_nil, fun x h => (by cases h)⟩, by rw [HB0.out]; exact seen0 12, ?_, HD5.out⟩
          exact (H6h.out.slNil 41 2).to (by unfold wrsA; show _ = (sl _ _ _ _ _ * emp) * _; rw [star_emp]; rfl)
        case round =>
          clear H6h HD5
          obtain ⟨k, L, bs, hk, rfl, h3, hseen, hsat, hside⟩ := hrel
          obtain ⟨va, vc, rfl⟩ := h3.sh
          have hl12 := h3.len
          have cS : wr.cell? ⟨b, off + i, none⟩ = some (.slice xa xl xc) := Hold.out _ _ Hc0.out _ wr (hsat.to (by ac_rfl : _ = (wrsA (.slice va L.length vc) L * pt sn (.cells (bls bs) 4 (0, 0))) * Y))
          obtain ⟨m, hm⟩ : ∃ m, m = L.length := ⟨_, rfl⟩
          have Hm := SL.hid hm; have H3 := SL.hid h3; have Hseen := SL.hid hseen; have Hside := SL.hid hside
          by_cases hg1 : k < xl
          · have hg1' : (k : Int) < (xl : Int) := by omega
            obtain ⟨b2, off2, rfl, cz, hl2, hc2⟩ := HI.out.cell hg1
            have cZ : wr.cell? ⟨b2, off2 + k, none⟩ = some (.int .i64 (xz.getD k 0)) := Hold.out _ _ cz _ wr (hsat.to (by ac_rfl : _ = (wrsA (.slice va L.length vc) L * pt sn (.cells (bls bs) 4 (0, 0))) * Y))
            obtain ⟨z, hz⟩ : ∃ z, z = xz.getD k 0 := ⟨_, rfl⟩
            rw [← hz] at cZ
            have hand := and16 z
            have hp1 : 0 ≤ z % 65536 % 12 := Int.emod_nonneg _ (by omega)
            have hp2 : z % 65536 % 12 < 12 := Int.emod_lt_of_pos _ (by omega)
            obtain ⟨id, hid⟩ := Int.eq_ofNat_of_zero_le hp1
            have htm : (z % 65536).tmod 12 = (id : Int) := by
              rw [Int.tmod_eq_emod_of_nonneg (by omega)]; exact hid
            have hidn : id < 12 := by omega
            have hidn' : (id : Int) < 12 := by omega
            have hbl := hseen.1
            have cB : wr.cell? ⟨sn, id, none⟩ = some (.bool (bs.getD id false)) := (hsat.front2.cell id).trans (get_bls (by omega))
            have fB : wr.frozen? ⟨sn, id, none⟩ = false := hsat.front2.frozen id
            have hsid := hseen.2 id hidn
            have hz0 : 0 ≤ z % 65536 := by omega
            have hz1 : z % 65536 < 65536 := by omega
            have Hs0 := SL.hid hsat
            rw [← hm]
            clear hz cz hseen h3 hside hp1 hp2 hbl hm hsat
            by_cases hbv : bs.getD id false = true
            · rw [hbv] at cB
              clear hsid hbv
              go_wp2
              go_roundw
              case rel => exact ⟨k + 1, L, bs, by omega, by go_num, by rw [Hm.out]; exact H3.out, Hseen.out, by rw [Hm.out]; exact Hs0.out, Hside.out⟩
              case measure => simp [intOf]; omega
            · have hbf : bs.getD id false = false := by simpa using hbv
              rw [hbf] at cB
              have hnew : (id : Int) ∉ L.map fun x => x.2.1 := fun h => hbv (hsid.2 (by rw [List.map_map]; exact h))
              have Hnew := SL.hid hnew
              have hset := Hs0.out.front2.setCell id (.bool true)
              rw [set_bls] at hset
              have D6 := Hside.out.setCell ⟨sn, id, none⟩ (.bool true)
              have Hset := SL.hid hset; have HD6 := SL.hid D6
              clear hsid hbv hbf hnew hset D6
              go_upto_region 19 with (fail)
              generalize wr.setCell ⟨sn, id, none⟩ (.bool true) = w6 at Hset HD6 ⊢
              have hmk2 : ∀ w, (Instr.makeSlice 39 (.int .i64 480) (.int .i64 480)).run Tryz.prog w = .ok (.slice (some ⟨w.heap.size, 0, none⟩) 480 480) (w.alloc (.cells (u8s (zs 480)) 5 (0, 0))) := make_bytes 480 (by omega)
              obtain ⟨Z0, hZ0⟩ : ∃ l, l = u8s (zs 480) := ⟨_, rfl⟩
              rw [← hZ0] at hmk2
              have H7 := Hset.out.alloc (.cells Z0 5 (0, 0))
              have D7 := HD6.out.alloc (.cells Z0 5 (0, 0))
              have H8 : Sat (w6.alloc (.cells Z0 5 (0, 0))) (sl 41 2 (.slice va L.length vc) L.length (SL.flatW L.wr) * (pt w6.heap.size (.cells (u8s (zs 480)) 5 (0, 0)) * (blksA (L.map fun x => (x.1, x.2.2)) * (pt sn (.cells (bls (bs.set id true)) 4 (0, 0)) * Y)))) := H7.to (by unfold wrsA; rw [hZ0]; ac_rfl)
              obtain ⟨a', c', w8, hrun, h9, d9⟩ := append_write (Z := L.wr) H8 (id : Int) w6.heap.size (zs 480) (by omega)
              rw [← Hm.out] at hrun h9
              rw [World.size_alloc] at hrun
              obtain ⟨gb, hgb⟩ : ∃ g, g = w6.heap.size := ⟨_, rfl⟩
              rw [← hgb] at h9
              have H9 := SL.hid h9; have HD9 := SL.hid (D7.trans d9); have Hrun := SL.hid hrun; have Hgb := SL.hid hgb
              clear H7 H8 D7 h9 d9 hrun hZ0 hgb
              go_wp2_with (at_builtin; refine wpList_append_run Hrun.out _ _ rfl rfl rfl rfl rfl ?_)
              go_roundw
              case rel =>
                have hlen : (L ++ [(gb, (id : Int), zs 480)]).length = m + 1 := by rw [List.length_append, ← Hm.out]; rfl
                have hsn := WIn.snoc (a := a') (c := c') H3.out (g := gb) (l := zs 480) (by omega) hidn' Hnew.out (by simp [zs]) (show m + 1 = L.length + 1 by rw [Hm.out])
                refine ⟨k + 1, L ++ [(gb, (id : Int), zs 480)], bs.set id true, by omega, by go_num, hsn, ?_, ?_, HD9.out⟩
                · have := seen_snoc Hseen.out hidn 0
                  unfold SeenW
                  rw [List.map_append]; exact this
                · have h := H9.out
                  unfold wrsA
                  have e2 : Wo.wr (L ++ [(gb, (id : Int), zs 480)]) = Wo.wr L ++ [((id : Int), .slice (some ⟨gb, 0, none⟩) 480 480, zs 480)] := by simp [Wo.wr]
                  have e3 : (L ++ [(gb, (id : Int), zs 480)]).map (fun x => (x.1, x.2.2)) = L.map (fun x => (x.1, x.2.2)) ++ [(gb, zs 480)] := by simp
                  rw [hlen, e2, e3, blksA_snoc]
                  exact h.to (by ac_rfl)
              case measure => simp [intOf]; omega
          · have fin : A2Out Y w (.slice va L.length vc) wr := ⟨L, h3, (hsat.to (by ac_rfl : _ = pt sn (.cells (bls bs) 4 (0, 0)) * (wrsA (.slice va L.length vc) L * Y))).right, hside⟩
            have Hfin := SL.hid fin
            have hg1' : ¬ (k : Int) < (xl : Int) := by omega
            rw [← hm]
            clear fin hsat hside h3 hseen hm hl12
            go_wp2_with fail
            go_meet
            rw [Hm.out]; exact Hfin.out
      case rest =>
        clear H6h HD5
        obtain ⟨L, h3, hsat, hside⟩ := hcut
        obtain ⟨va, vc, rfl⟩ := h3.sh
        obtain ⟨m, hm⟩ : ∃ m, m = L.length := ⟨_, rfl⟩
        have hl12 := h3.len
        have hm12 : (m : Int) ≤ 12 := by omega
        have H3 := SL.hid h3; have Hm := SL.hid hm; have Hside := SL.hid hside
        rw [← hm]
        by_cases h0 : m = 0
        · have hs0 : Sat wc (jrA j d J * (devA S d D * (pool S * whole w))) := by
            rw [← HY.out]; exact hsat.right
          have Hs0 := SL.hid hs0
          have h0' : (m : Int) = 0 := by omega
          clear hsat hside h3 hm hs0 hl12 h0
          go_wp2
          go_roundw
          case rel => exact ⟨i + 1, B, S, J, D, has, by omega, by go_num, by have := HB.out; omega, HW.out, HT.out, Hs0.out, Hside.out⟩
          case measure => simp [intOf]; omega
        · have h0' : ¬ (m : Int) = 0 := by omega
          have hb := h3.batch (by omega) (by omega)
          have hcm := ct_any wc S j d J D (whole w) (.slice va L.length vc) L has (n := 12) (P := 160) (B := B) (hsat.to (by rw [HY.out]; ac_rfl)) HW.out HT.out (by omega) (by have := HB.out; omega) h3.b480 hb
          rw [← hm] at hcm
          clear hsat hside h3 hm hl12 h0 hb
          go_wp2_with fail
          (with_reducible refine hcm.mono ?_)
          rintro e w6 ⟨S6, J6, D6, E6, rfl, hJ6, hD6, h6, d6, hW6, hT6, hE6⟩
          have D6' := Hside.out.trans d6
          have hsc : Calls Tryz.prog 10 #[ptV d, .int .i64 160, .int .i64 12] w6 (StQ S6 d 12 160 B J6 D6 (updB has L.bl) (jrA j d J6 * (wrsA (.slice va m vc) L * whole w)) w6) := st_any w6 S6 d D6 (n := 12) (P := 160) (B := B) (J := J6) (has := updB has L.bl) (jrA j d J6 * (wrsA (.slice va m vc) L * whole w)) (h6.to (by ac_rfl)) hT6.told hW6.jP (by have := hW6.sq; have := HB.out; omega) (by omega) (by rw [epo_one hW6 hT6 hE6]; decide)
          have hone := epo_one hW6 hT6 hE6
          have HW6 := SL.hid hW6; have HT6 := SL.hid hT6; have Hone := SL.hid hone; have HD6 := SL.hid D6'
          clear hcm h6 d6 D6' hW6 hT6 hE6 hone hJ6 hD6 E6
          go_wp2_with fail
          (with_reducible refine hsc.mono ?_)
          rintro e w7 ⟨g, r, ep, us, rfl, hep, hus, u0, u1, h7, d7, rfl⟩
          have hW7 := jw_scan HW6.out (by have := HB.out; omega) (by omega)
          have hT7 := jt_scan HT6.out (addN D6.cr 160)
          generalize ({ D6 with cr := addN D6.cr 160 } : Dev) = D7 at hW7 hT7 h7
          have HW7 := SL.hid hW7; have HT7 := SL.hid hT7
          rw [Hone.out] at hep
          have e11 : (Jr.js (J6.seen ep us)).v (.slice (some ⟨g, 0, none⟩) 12 12) = .agg #[.int .u32 2, .int .u64 (J6.sq + 1), .int .u64 J6.sq, .int .i64 J6.hd, .int .i64 us, .slice (some ⟨g, 0, none⟩) 12 12] := by rw [hep]; rfl
          rw [e11]
          have hn12 : J6.T.ps.length = 12 := by have := HW6.out.inv.ok.ps; rw [HW6.out.jn] at this; omega
          have hats : (Jr.ats J6).length = 12 := by rw [ats_length, hn12]
          have e12 : ∀ ag, (Jr.js J6).v (.slice (some ⟨ag, 0, none⟩) J6.T.ps.length J6.T.ps.length) = .agg #[.int .u32 J6.ep, .int .u64 J6.st, .int .u64 J6.sq, .int .i64 J6.hd, .int .i64 J6.us, .slice (some ⟨ag, 0, none⟩) 12 12] := fun ag => by rw [hn12]; rfl
          have hsq0 := HW6.out.inv.nums.sq0
          have hsq1 : J6.sq ≤ 1000 := by have := HW6.out.sq; have := HB.out; omega
          have D7x := HD6.out.trans d7
          have H8 := h7.alloc (.cells #[.int .u32 2, .int .u64 (J6.sq + 1), .int .u64 J6.sq, .int .i64 J6.hd, .int .i64 us, .slice (some ⟨g, 0, none⟩) 12 12] 35 (0, 0))
          have D8 := D7x.alloc (.cells #[.int .u32 2, .int .u64 (J6.sq + 1), .int .u64 J6.sq, .int .i64 J6.hd, .int .i64 us, .slice (some ⟨g, 0, none⟩) 12 12] 35 (0, 0))
          have Hats := SL.hid hats; have E12 := SL.hid e12; have HS8 := SL.hid H8; have HD8 := SL.hid D8
          clear hsc hep hus h7 d7 e11 hn12 hats e12 D7x H8 D8 HD6 HW6 HT6 hW7 hT7
          go_wp2_with fail
          generalize w7.alloc (.cells #[.int .u32 2, .int .u64 (J6.sq + 1), .int .u64 J6.sq, .int .i64 J6.hd, .int .i64 us, .slice (some ⟨g, 0, none⟩) 12 12] 35 (0, 0)) = w8 at HS8 HD8 ⊢
          generalize w7.heap.size = sb at HS8 ⊢
          have hst := state_any w8 j d J6 _ (HS8.out.front5) HW7.out.inv.ok
          clear HS8
          (with_reducible refine hst.mono ?_)
          rintro e w9 ⟨ag, rfl, h9, d9⟩
          rw [E12.out]
          have H10 := h9.alloc (.cells #[.int .u32 J6.ep, .int .u64 J6.st, .int .u64 J6.sq, .int .i64 J6.hd, .int .i64 J6.us, .slice (some ⟨ag, 0, none⟩) 12 12] 35 (0, 0))
          have D10 := (HD8.out.trans d9).alloc (.cells #[.int .u32 J6.ep, .int .u64 J6.st, .int .u64 J6.sq, .int .i64 J6.hd, .int .i64 J6.us, .slice (some ⟨ag, 0, none⟩) 12 12] 35 (0, 0))
          have HS10 := SL.hid H10; have HD10 := SL.hid D10
          clear hst h9 d9 H10 D10 HD8 E12
          go_upto_region 24 with (fail)
          generalize w9.alloc (.cells #[.int .u32 J6.ep, .int .u64 J6.st, .int .u64 J6.sq, .int .i64 J6.hd, .int .i64 J6.us, .slice (some ⟨ag, 0, none⟩) 12 12] 35 (0, 0)) = w10 at HS10 HD10 ⊢
          generalize w9.heap.size = tb at HS10 ⊢
          obtain ⟨BIG, hBIG⟩ : ∃ X, X = pt tb (.cells #[.int .u32 J6.ep, .int .u64 J6.st, .int .u64 J6.sq, .int .i64 J6.hd, .int .i64 J6.us, .slice (some ⟨ag, 0, none⟩) 12 12] 35 (0, 0)) * (pt ag (.cells (ints (Jr.ats J6)) 3 (0, 0)) * (pt sb (.cells #[.int .u32 2, .int .u64 (J6.sq + 1), .int .u64 J6.sq, .int .i64 J6.hd, .int .i64 us, .slice (some ⟨g, 0, none⟩) 12 12] 35 (0, 0)) * (pt g (.cells (ints (Jr.ats J6)) 3 (0, 0)) * (jrA j d J6 * (devA S6 d D7 * (pool S6 * whole w)))))) := ⟨_, rfl⟩
          have H11 : Sat w10 BIG := by
            rw [hBIG]
            exact (HS10.out.to (by ac_rfl : _ = wrsA (.slice va m vc) L * (pt tb (.cells #[.int .u32 J6.ep, .int .u64 J6.st, .int .u64 J6.sq, .int .i64 J6.hd, .int .i64 J6.us, .slice (some ⟨ag, 0, none⟩) 12 12] 35 (0, 0)) * (pt ag (.cells (ints (Jr.ats J6)) 3 (0, 0)) * (pt sb (.cells #[.int .u32 2, .int .u64 (J6.sq + 1), .int .u64 J6.sq, .int .i64 J6.hd, .int .i64 us, .slice (some ⟨g, 0, none⟩) 12 12] 35 (0, 0)) * (pt g (.cells (ints (Jr.ats J6)) 3 (0, 0)) * (jrA j d J6 * (devA S6 d D7 * (pool S6 * whole w))))))))).right
          have hb := H11
          rw [hBIG] at hb
          have t2 : w10.cell? ⟨tb, 2, none⟩ = some (.int .u64 J6.sq) := hb.cell 2
          have t3 : w10.cell? ⟨tb, 3, none⟩ = some (.int .i64 J6.hd) := hb.cell 3
          have t4 : w10.cell? ⟨tb, 4, none⟩ = some (.int .i64 J6.us) := hb.cell 4
          have s0 : w10.cell? ⟨sb, 0, none⟩ = some (.int .u32 2) := hb.front3.cell 0
          have s1 : w10.cell? ⟨sb, 1, none⟩ = some (.int .u64 (J6.sq + 1)) := hb.front3.cell 1
          have s2 : w10.cell? ⟨sb, 2, none⟩ = some (.int .u64 J6.sq) := hb.front3.cell 2
          have s3 : w10.cell? ⟨sb, 3, none⟩ = some (.int .i64 J6.hd) := hb.front3.cell 3
          have s4 : w10.cell? ⟨sb, 4, none⟩ = some (.int .i64 us) := hb.front3.cell 4
          have s5 : w10.cell? ⟨sb, 5, none⟩ = some (.slice (some ⟨g, 0, none⟩) 12 12) := hb.front3.cell 5
          have HBIG := SL.hid hBIG; have Hb := SL.hid H11
          clear HS10 hb hBIG H11
          go_wp2_with fail
          go_loopw [17] (fun u wr => A3Rel BIG w u wr) (fun u _ => 12 - (intOf u).toNat)
          case atStart => exact ⟨0, Nat.zero_le _, rfl, Hb.out, HD10.out⟩
          case round =>
            clear Hb HD10 t2 t3 t4 s0 s1 s2 s3 s4 s5
            obtain ⟨k, hk, rfl, hsat, hside⟩ := hrel
            have hk' : (k : Int) ≤ 12 := by omega
            have hb := hsat
            rw [HBIG.out] at hb
            have y5 : wr.cell? ⟨tb, 5, none⟩ = some (.slice (some ⟨ag, 0, none⟩) 12 12) := hb.cell 5
            have z5 : wr.cell? ⟨sb, 5, none⟩ = some (.slice (some ⟨g, 0, none⟩) 12 12) := hb.front3.cell 5
            have Hs := SL.hid hsat; have Hd := SL.hid hside
            by_cases hlt : k < 12
            · have hlt' : (k : Int) < 12 := by omega
              have y6 : wr.cell? ⟨ag, k, none⟩ = some (.int .i64 ((Jr.ats J6).getD k 0)) := (hb.front2.cell k).trans (get_ints_lt (by rw [Hats.out]; exact hlt))
              have z6 : wr.cell? ⟨g, k, none⟩ = some (.int .i64 ((Jr.ats J6).getD k 0)) := (hb.front4.cell k).trans (get_ints_lt (by rw [Hats.out]; exact hlt))
              generalize (Jr.ats J6).getD k 0 = v at y6 z6
              clear hb hsat hside
              go_wp2_with fail
              go_quiet (fail)
              go_wp2
              go_roundw
              case rel => exact ⟨k + 1, by omega, by go_num, Hs.out.drew, side_drewN Hd.out _⟩
              case measure => simp [intOf]; omega
            · obtain rfl : k = 12 := by omega
              have hend : Sat wr (jrA j d J6 * (devA S6 d D7 * (pool S6 * whole w))) := hb.right.right.right.right
              have Hend := SL.hid hend
              clear hb hsat hside hend
              go_wp2
              go_roundw
              case rel => exact ⟨i + 1, B + 3, S6, J6, D7, updB has L.bl, by omega, by go_num, by have := HB.out; omega, HW7.out, HT7.out, Hend.out, Hd.out⟩
              case measure => simp [intOf]; omega
    · have hfin : Sat wr (whole w) := hsat.right.right.right
      have Hfin := SL.hid hfin
      clear hsat hfin hW hT
      by_cases hl : i < len0
      · have hl' : (i : Int) < (len0 : Int) := by omega
        obtain rfl : i = 50 := by omega
        go_wp2_with fail
        go_ret
        exact ⟨rfl, Hfin.out, hside⟩
      · have hl' : ¬ (i : Int) < (len0 : Int) := by omega
        go_wp2_with fail
        go_ret
        exact ⟨rfl, Hfin.out, hside⟩
end Go.Proofs.YtlfooilcngjeiaaGreat

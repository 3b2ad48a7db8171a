/- ReplayLast: the walk. -/
import Derived.Test.YtlfooilcngjeiaaGreatRd
import Derived.Laws.Tables
import Derived.Laws.Rows
namespace Go.Proofs.YtlfooilcngjeiaaGreat
set_option linter.unusedVariables false
set_option linter.unusedSimpArgs false
open Go.RowKit Go.SL
set_option maxRecDepth 100000 in
set_option maxHeartbeats 40000000 in
theorem last_any (a0 : Option Addr) (len0 cap0 : Nat) (X : Nat → RowV) (a1 : Option Addr) (len1 cap1 : Nat) (keep : List Int) (w : World) (hX : IsRows w a0 len0 cap0 X) (hz : IsInts w a1 len1 cap1 keep) :
    Calls Tryz.prog 4 #[.slice a0 len0 cap0, .slice a1 len1 cap1] w (ShownQ w) := by
  have hlen0 := hX.len_le
  have hlen1 := hz.len_le
  have HX := SL.hid hX; have Hz := SL.hid hz
  clear hX hz
  go_enter Tryz.func4, Tryz.ntmps4
  go_wp2_with fail
  refine (shown9_any w).mono ?_
  rintro e w1 ⟨rfl, h1, d1⟩
  go_wp2_with fail
  refine (new_any (160 + 1) (by omega) (by omega) w1).mono ?_
  rintro e w2 ⟨d, rfl, h2, d2⟩
  have H2 := (h2 NoB).under h1
  clear h2 h1
  go_wp2_with fail
  refine (fresh_any 12 (by omega) w2).mono ?_
  rintro e w3 ⟨a, rfl, h3, d3⟩
  have H3 := h3.under H2
  clear h3 H2
  have hnew : Calls Tryz.prog 7 #[ptV d, .int .i64 160, (freshS 12).v a] w3 (JNewQ d (J0 160 12) w3) := jfresh_any w3 NoB d (Dev.fresh (160 + 1)) _ 12 160 a H3.front2 (rdI_sl (by rw [List.length_replicate]; exact H3)) (by omega) (by omega) (by omega) (by omega) (by rw [devLen]; omega) (by rw [devLen]; omega)
  go_wp2_with fail
  (with_reducible refine hnew.mono ?_)
  rintro e w4 ⟨j, rfl, h4, d4⟩
  have H4 : Sat w4 (jrA j d (J0 160 12) * (devA NoB d (Dev.fresh (160 + 1)) * (pool NoB * whole w))) := (h4.under H3.right.poolEmp).to (by ac_rfl)
  have D4 := ((d1.trans d2).trans d3).trans d4
  have hW0 : JW 12 160 0 (J0 160 12) (Dev.fresh 161) fun _ => none := jw_fresh (by omega) (by omega) (by omega) (by omega)
  have hT0 : JT 12 (J0 160 12) (Dev.fresh 161) fun _ => none := jt_fresh (by omega) (by omega) (by omega) (by omega) (by omega)
  have hH0 : LHist 0 (J0 160 12) (Dev.fresh 161) (fun _ => none) (J0 160 12) (Dev.fresh 161) (fun _ => none) := .inl ⟨rfl, rfl, rfl, rfl, rfl, rfl⟩
  clear h4 H3 hnew d1 d2 d3 d4
  have e0 : Dev.fresh (160 + 1) = Dev.fresh 161 := rfl
  rw [e0] at H4
  generalize J0 160 12 = J at H4 hW0 hT0 hH0
  generalize Dev.fresh 161 = D at H4 hW0 hT0 hH0
  have hst := state_any w4 j d J _ H4 hW0.inv.ok
  have e12 := stV hW0.inv hW0.jn
  have HW0 := SL.hid hW0; have HT0 := SL.hid hT0; have HH0 := SL.hid hH0; have E12 := SL.hid e12
  clear hW0 hT0 hH0 e12 H4 e0
  go_wp2_with fail
  (with_reducible refine hst.mono ?_)
  rintro e w5 ⟨og, rfl, h5, d5⟩
  rw [E12.out]
  have H6 := SL.hid (h5.alloc (StO J og))
  have D6 := SL.hid ((D4.trans d5).alloc (StO J og))
  clear hst h5 d5 D4 E12
  unfold StO at H6 D6
  go_upto_block 0 with (fail)
  generalize w5.alloc (.cells #[.int .u32 J.ep, .int .u64 J.st, .int .u64 J.sq, .int .i64 J.hd, .int .i64 J.us, .slice (some ⟨og, 0, none⟩) 12 12] 35 (0, 0)) = w6 at H6 D6 ⊢
  generalize w5.heap.size = ob at H6 ⊢
  obtain ⟨BX, hBX⟩ : ∃ X, X = lastA j d ob og NoB J D J w := ⟨_, rfl⟩
  have H7 : Sat w6 BX := H6.out.to (by rw [hBX]; unfold lastA StO; ac_rfl)
  have HBX := SL.hid hBX; have H7h := SL.hid H7
  clear H6 hBX H7
  go_cut [11, 12] from 62 to 73 (fun u11 u12 wx => L1Out BX w u11 u12 wx)
  case first =>
    go_wp2_with fail
    go_loopw [11, 12, 13] (fun u11 u12 u13 wr => L1Rel BX w u11 u12 u13 wr) (fun _ _ u _ => 12 - (intOf u).toNat)
    case atStart =>
      refine ⟨0, [], [], emp, Nat.zero_le _, rfl, ⟨rfl, fun k p h => by simp at h, Keeps.nil⟩, ⟨rfl, fun k p h => by simp at h, Keeps.nil⟩, ?_, D6.out⟩
      exact ((H7h.out.slNil 39 1).slNil 39 1).to (by unfold rowsL; rw [emp_star]; rfl)
    case round =>
      clear H7h D6
      obtain ⟨k, RW, RN, Bk, hk, rfl, hRW, hRN, hsat, hside⟩ := hrel
      have hk' : (k : Int) ≤ 12 := by omega
      by_cases hlt : k < 12
      · have hlt' : (k : Int) < 12 := by omega
        unfold rowsL at hsat
        obtain ⟨va, vc, rfl⟩ := sl_shape hsat
        obtain ⟨na, nc, rfl⟩ := sl_shape hsat.front2
        have hmk : ∀ w, (Instr.makeSlice 39 (.int .i64 480) (.int .i64 480)).run Tryz.prog w = .ok (.slice (some ⟨w.heap.size, 0, none⟩) 480 480) (w.alloc (.cells (u8s (zs 480)) 5 (0, 0))) := make_bytes 480 (by omega)
        obtain ⟨Z0, hZ0⟩ : ∃ l, l = u8s (zs 480) := ⟨_, rfl⟩
        rw [← hZ0] at hmk
        have hA := hsat.alloc (.cells Z0 5 (0, 0))
        have dA := hside.alloc (.cells Z0 5 (0, 0))
        obtain ⟨a1, c1, w7, hrun, h7, d7⟩ := append_row hA.front2 (.slice (some ⟨wr.heap.size, 0, none⟩) 480 480) rfl (by omega)
        rw [World.size_alloc] at hrun
        obtain ⟨g1, hg1⟩ : ∃ g, g = wr.heap.size := ⟨_, rfl⟩
        rw [← hg1] at h7
        have Hrun := SL.hid hrun; have Hsat := SL.hid h7; have Hd := SL.hid (dA.trans d7); have HRW := SL.hid hRW; have HRN := SL.hid hRN; have HZ0 := SL.hid hZ0; have Hg1 := SL.hid hg1
        clear hA dA hsat hside h7 d7 hrun hRW hRN hZ0 hg1
        go_upto_region 15 with (at_builtin; refine wpList_append_run Hrun.out _ _ rfl rfl rfl rfl rfl ?_)
        have hA := Hsat.out.alloc (.cells Z0 5 (0, 0))
        have dA := Hd.out.alloc (.cells Z0 5 (0, 0))
        obtain ⟨a2, c2, w8, hrun, h8, d8⟩ := append_row (hA.to (by ac_rfl : _ = sl 39 1 (.slice na k nc) k (RN.map Prod.fst) * (pt w7.heap.size (.cells Z0 5 (0, 0)) * (pt g1 (.cells Z0 5 (0, 0)) * (sl 39 1 (.slice a1 (k + 1) c1) (k + 1) (RW.map Prod.fst ++ [.slice (some ⟨g1, 0, none⟩) 480 480]) * (Bk * BX)))))) (.slice (some ⟨w7.heap.size, 0, none⟩) 480 480) rfl (by omega)
        rw [World.size_alloc] at hrun
        obtain ⟨g2, hg2⟩ : ∃ g, g = w7.heap.size := ⟨_, rfl⟩
        rw [← hg2, HZ0.out] at h8
        have b1 : Sat w8 (bs 5 (.slice (some ⟨g1, 0, none⟩) 480 480) (zs 480) * (pt g2 (.cells (u8s (zs 480)) 5 (0, 0)) * (sl 39 1 (.slice a2 (k + 1) c2) (k + 1) (RN.map Prod.fst ++ [.slice (some ⟨g2, 0, none⟩) 480 480]) * (sl 39 1 (.slice a1 (k + 1) c1) (k + 1) (RW.map Prod.fst ++ [.slice (some ⟨g1, 0, none⟩) 480 480]) * (Bk * BX))))) := bs_of_pt (by simp [zs]) (h8.to (by ac_rfl))
        have b2 : Sat w8 (bs 5 (.slice (some ⟨g2, 0, none⟩) 480 480) (zs 480) * (bs 5 (.slice (some ⟨g1, 0, none⟩) 480 480) (zs 480) * (sl 39 1 (.slice a2 (k + 1) c2) (k + 1) (RN.map Prod.fst ++ [.slice (some ⟨g2, 0, none⟩) 480 480]) * (sl 39 1 (.slice a1 (k + 1) c1) (k + 1) (RW.map Prod.fst ++ [.slice (some ⟨g1, 0, none⟩) 480 480]) * (Bk * BX))))) := bs_of_pt (by simp [zs]) (b1.to (by ac_rfl))
        have H9 : Sat w8 (rowsL (.slice a1 (k + 1) c1) (RW ++ [(.slice (some ⟨g1, 0, none⟩) 480 480, zs 480)]) (k + 1) * (rowsL (.slice a2 (k + 1) c2) (RN ++ [(.slice (some ⟨g2, 0, none⟩) 480 480, zs 480)]) (k + 1) * (((Bk * bs 5 (.slice (some ⟨g1, 0, none⟩) 480 480) (zs 480)) * bs 5 (.slice (some ⟨g2, 0, none⟩) 480 480) (zs 480)) * BX))) := b2.to (by unfold rowsL; rw [List.map_append, List.map_append]; ac_rfl)
        have hRW' := (HRW.out.zero (.slice (some ⟨g1, 0, none⟩) 480 480)).more (Y := bs 5 (.slice (some ⟨g2, 0, none⟩) 480 480) (zs 480))
        have hRN' := (HRN.out.more (Y := bs 5 (.slice (some ⟨g1, 0, none⟩) 480 480) (zs 480))).zero (.slice (some ⟨g2, 0, none⟩) 480 480)
        have Hrun2 := SL.hid hrun; have H9h := SL.hid H9; have Hd2 := SL.hid (dA.trans d8); have HRW2 := SL.hid hRW'; have HRN2 := SL.hid hRN'
        clear hA dA hrun h8 d8 b1 b2 H9 hRW' hRN' Hsat Hd hg2 HRW HRN
        go_wp2_with (at_builtin; refine wpList_append_run Hrun2.out _ _ rfl rfl rfl rfl rfl ?_)
        go_roundw
        case rel => exact ⟨k + 1, _, _, _, by omega, by go_num, HRW2.out, HRN2.out, H9h.out, Hd2.out⟩
        case measure => simp [intOf]; omega
      · obtain rfl : k = 12 := by omega
        have Hs := SL.hid hsat; have Hd := SL.hid hside; have HRW := SL.hid hRW; have HRN := SL.hid hRN
        clear hsat hside hRW hRN
        go_wp2_with fail
        go_meet
        exact ⟨RW, RN, Bk, HRW.out, HRN.out, Hs.out, Hd.out⟩
  case rest =>
    clear H7h D6
    obtain ⟨RW, RN, Bk, hRW, hRN, hsat, hside⟩ := hcut
    rw [HBX.out] at hsat
    have hstart : L2Out j d ob 0 w u11 u12 (.int .i64 0) wc := ⟨NoB, J, D, (fun _ => none), J, D, (fun _ => none), og, 0, RW, RN, Bk, rfl, by omega, HW0.out, HT0.out, HH0.out, hRW, hRN, hsat, hside⟩
    have HS := SL.hid hstart
    clear hsat hside hRW hRN hstart HBX HW0 HT0 HH0
    go_upto_block 2 with (fail)
    go_cut [11, 14] from 74 to 159 (fun u11 u14 wx => L2Out j d ob 40 w u11 u12 u14 wx)
    case first =>
      go_wp2_with fail
      go_loopw [11, 14, 15] (fun u11 u14 u15 wr => L2Rel j d ob w u11 u12 u14 u15 wr) (fun _ _ u _ => 40 - (intOf u).toNat)
      case atStart => exact ⟨0, Nat.zero_le _, rfl, HS.out⟩
      case round =>
        clear HS
        obtain ⟨i, hi, rfl, S, J, D, has, Jo, Do, ho, og, z, RW, RN, Bk, rfl, hz, hW, hT, hH, hRW, hRN, hsat, hside⟩ := hrel
        have hi' : (i : Int) ≤ 40 := by omega
        by_cases hlt : i < len0 ∧ i < 40
        · obtain ⟨hlt, h40⟩ := hlt
          have hlt' : (i : Int) < (len0 : Int) := by omega
          have h40' : (i : Int) < 40 := by omega
          obtain ⟨b, off, rfl, c0, hI, hlc, hcapX⟩ := HX.out.cell hlt
          generalize X i = x at *
          obtain ⟨xa, xl, xc, xz⟩ := x
          dsimp only at c0 hI
          have hxl := hI.len_le
          have hmk : ∀ w, (Instr.makeSlice 38 (.int .i64 12) (.int .i64 12)).run Tryz.prog w = .ok (.slice (some ⟨w.heap.size, 0, none⟩) 12 12) (w.alloc (.cells (bls (List.replicate 12 false)) 4 (0, 0))) := make_bls 12 (by omega)
          obtain ⟨B0, hB0⟩ : ∃ l, l = List.replicate 12 false := ⟨_, rfl⟩
          rw [← hB0] at hmk
          have HB0 := SL.hid hB0
          have HW := SL.hid hW; have HT := SL.hid hT; have HH := SL.hid hH; have Hc0 := SL.hid c0; have HI := SL.hid hI; have HRW := SL.hid hRW; have HRN := SL.hid hRN
          have H5 := hsat.alloc (.cells (bls B0) 4 (0, 0))
          have D5 := hside.alloc (.cells (bls B0) 4 (0, 0))
          clear hB0 hW hT hH c0 hI hsat hside hRW hRN
          go_upto_block 4 with (fail)
          generalize wr.alloc (.cells (bls B0) 4 (0, 0)) = w5 at H5 D5 ⊢
          generalize wr.heap.size = sn at H5 ⊢
          obtain ⟨Y, hY⟩ : ∃ X, X = rowsL u11 RW 12 * (rowsL u12 RN 12 * (Bk * lastA j d ob og S J D Jo w)) := ⟨_, rfl⟩
          have H6 : Sat w5 (pt sn (.cells (bls B0) 4 (0, 0)) * Y) := H5.to (by rw [hY])
          have hold : ∀ (ad : Addr) (u : Value), w.cell? ad = some u → ∀ (Q : Assn) (w' : World), Sat w' (Q * Y) → w'.cell? ad = some u := fun ad u hc Q w' h =>
            (h.to (by rw [hY]; unfold lastA; ac_rfl : _ = (Q * (rowsL u11 RW 12 * (rowsL u12 RN 12 * (Bk * (jrA j d J * (devA S d D * (pool S * (pt ob (StO Jo og) * pt og (.cells (ints (Jr.ats Jo)) 3 (0, 0)))))))))) * whole w)).cellOld hc
          have HY := SL.hid hY; have H6h := SL.hid H6; have HD5 := SL.hid D5; have Hold := SL.hid hold
          clear H5 hmk hY H6 D5 hold
          go_cut [16] from 85 to 119 (fun u16 wx => A2Out Y w u16 wx)
          case first =>
            go_wp2_with fail
            go_loopw [16, 18] (fun u16 u18 wr => A2Rel xl sn Y w u16 u18 wr) (fun _ u _ => xl - (intOf u).toNat)
            case atStart =>
              refine ⟨0, [], B0, Nat.zero_le _, rfl, ⟨⟨none, 0, rfl⟩, fun x h => (by cases h), List.nodup_nil, fun x h => (by cases h)⟩, by rw [HB0.out]; exact seen0 12, ?_, HD5.out⟩
              exact (H6h.out.slNil 41 2).to (by unfold wrsA; show _ = (sl _ _ _ _ _ * emp) * _; rw [star_emp]; rfl)
            case round =>
              clear H6h HD5
              obtain ⟨k, L, bs, hk, rfl, h3, hseen, hsat, hside⟩ := hrel
              obtain ⟨va, vc, rfl⟩ := h3.sh
              have hl12 := h3.len
              have cS : wr.cell? ⟨b, off + i, none⟩ = some (.slice xa xl xc) := Hold.out _ _ Hc0.out _ wr (hsat.to (by ac_rfl : _ = (wrsA (.slice va L.length vc) L * pt sn (.cells (bls bs) 4 (0, 0))) * Y))
              obtain ⟨m, hm⟩ : ∃ m, m = L.length := ⟨_, rfl⟩
              have Hm := SL.hid hm; have H3 := SL.hid h3; have Hseen := SL.hid hseen; have Hside := SL.hid hside
              by_cases hg1 : k < xl
              · have hg1' : (k : Int) < (xl : Int) := by omega
                obtain ⟨b2, off2, rfl, cz, hl2, hc2⟩ := HI.out.cell hg1
                have cZ : wr.cell? ⟨b2, off2 + k, none⟩ = some (.int .i64 (xz.getD k 0)) := Hold.out _ _ cz _ wr (hsat.to (by ac_rfl : _ = (wrsA (.slice va L.length vc) L * pt sn (.cells (bls bs) 4 (0, 0))) * Y))
                obtain ⟨z1, hz1⟩ : ∃ z, z = xz.getD k 0 := ⟨_, rfl⟩
                rw [← hz1] at cZ
                have hand := and16 z1
                have hp1 : 0 ≤ z1 % 65536 % 12 := Int.emod_nonneg _ (by omega)
                have hp2 : z1 % 65536 % 12 < 12 := Int.emod_lt_of_pos _ (by omega)
                obtain ⟨id, hid⟩ := Int.eq_ofNat_of_zero_le hp1
                have htm : (z1 % 65536).tmod 12 = (id : Int) := by
                  rw [Int.tmod_eq_emod_of_nonneg (by omega)]; exact hid
                have hidn : id < 12 := by omega
                have hidn' : (id : Int) < 12 := by omega
                have hbl := hseen.1
                have cB : wr.cell? ⟨sn, id, none⟩ = some (.bool (bs.getD id false)) := (hsat.front2.cell id).trans (get_bls (by omega))
                have fB : wr.frozen? ⟨sn, id, none⟩ = false := hsat.front2.frozen id
                have hsid := hseen.2 id hidn
                have hz0 : 0 ≤ z1 % 65536 := by omega
                have hz2 : z1 % 65536 < 65536 := by omega
                have Hs0 := SL.hid hsat
                rw [← hm]
                clear hz1 cz hseen h3 hside hp1 hp2 hbl hm hsat
                by_cases hbv : bs.getD id false = true
                · rw [hbv] at cB
                  clear hsid hbv
                  go_wp2
                  go_roundw
                  case rel => exact ⟨k + 1, L, bs, by omega, by go_num, by rw [Hm.out]; exact H3.out, Hseen.out, by rw [Hm.out]; exact Hs0.out, Hside.out⟩
                  case measure => simp [intOf]; omega
                · have hbf : bs.getD id false = false := by simpa using hbv
                  rw [hbf] at cB
                  have hnew : (id : Int) ∉ L.map fun x => x.2.1 := fun h => hbv (hsid.2 (by rw [List.map_map]; exact h))
                  have Hnew := SL.hid hnew
                  have hset := Hs0.out.front2.setCell id (.bool true)
                  rw [set_bls] at hset
                  have D6 := Hside.out.setCell ⟨sn, id, none⟩ (.bool true)
                  have Hset := SL.hid hset; have HD6 := SL.hid D6
                  clear hsid hbv hbf hnew hset D6
                  go_upto_region 28 with (fail)
                  generalize wr.setCell ⟨sn, id, none⟩ (.bool true) = w6 at Hset HD6 ⊢
                  go_wp2_with fail
                  (with_reducible refine (block_any _ w6).mono ?_)
                  rintro e w7 ⟨gb, rfl, h7, d7⟩
                  have hlq2 := bj_len (wrap64 ((i : Int) + (k : Int)))
                  generalize bj (wrap64 ((i : Int) + (k : Int))) = lq at h7 hlq2
                  have H8 : Sat w7 (sl 41 2 (.slice va L.length vc) L.length (SL.flatW L.wr) * (pt gb (.cells (u8s lq) 5 (0, 0)) * (blksA (L.map fun x => (x.1, x.2.2)) * (pt sn (.cells (bls (bs.set id true)) 4 (0, 0)) * Y)))) := (h7.under Hset.out).to (by unfold wrsA; ac_rfl)
                  obtain ⟨a', c', w8, hrun, h9, d9⟩ := append_write (Z := L.wr) H8 (id : Int) gb lq (by omega)
                  rw [← Hm.out] at hrun h9
                  have H9 := SL.hid h9; have HD9 := SL.hid ((HD6.out.trans d7).trans d9); have Hrun := SL.hid hrun; have Hlq := SL.hid hlq2
                  clear H8 h7 d7 h9 d9 hrun hlq2
                  go_wp2_with (at_builtin; refine wpList_append_run Hrun.out _ _ rfl rfl rfl rfl rfl ?_)
                  go_roundw
                  case rel =>
                    have hlen : (L ++ [(gb, (id : Int), lq)]).length = m + 1 := by rw [List.length_append, ← Hm.out]; rfl
                    have hsn := WIn.snoc (a := a') (c := c') H3.out (g := gb) (l := lq) (by omega) hidn' Hnew.out Hlq.out (show m + 1 = L.length + 1 by rw [Hm.out])
                    refine ⟨k + 1, L ++ [(gb, (id : Int), lq)], bs.set id true, by omega, by go_num, hsn, ?_, ?_, HD9.out⟩
                    · have := seen_snoc Hseen.out hidn 0
                      unfold SeenW
                      rw [List.map_append]; exact this
                    · have h := H9.out
                      unfold wrsA
                      have e2 : Wo.wr (L ++ [(gb, (id : Int), lq)]) = Wo.wr L ++ [((id : Int), .slice (some ⟨gb, 0, none⟩) 480 480, lq)] := by simp [Wo.wr]
                      have e3 : (L ++ [(gb, (id : Int), lq)]).map (fun x => (x.1, x.2.2)) = L.map (fun x => (x.1, x.2.2)) ++ [(gb, lq)] := by simp
                      rw [hlen, e2, e3, blksA_snoc]
                      exact h.to (by ac_rfl)
                  case measure => simp [intOf]; omega
              · have fin : A2Out Y w (.slice va L.length vc) wr := ⟨L, h3, (hsat.to (by ac_rfl : _ = pt sn (.cells (bls bs) 4 (0, 0)) * (wrsA (.slice va L.length vc) L * Y))).right, hside⟩
                have Hfin := SL.hid fin
                have hg1' : ¬ (k : Int) < (xl : Int) := by omega
                rw [← hm]
                clear fin hsat hside h3 hseen hm hl12
                go_wp2_with fail
                go_meet
                rw [Hm.out]; exact Hfin.out
          case rest =>
            clear H6h HD5
            obtain ⟨L, h3, hsat, hside⟩ := hcut
            obtain ⟨va, vc, rfl⟩ := h3.sh
            obtain ⟨m, hm⟩ : ∃ m, m = L.length := ⟨_, rfl⟩
            have hl12 := h3.len
            have hm12 : (m : Int) ≤ 12 := by omega
            have H3 := SL.hid h3; have Hm := SL.hid hm; have Hside := SL.hid hside
            rw [← hm]
            by_cases h0 : m = 0
            · have hs0 : Sat wc (rowsL u11 RW 12 * (rowsL u12 RN 12 * (Bk * lastA j d ob og S J D Jo w))) := by
                rw [← HY.out]; exact hsat.right
              have Hs0 := SL.hid hs0
              have h0' : (m : Int) = 0 := by omega
              clear hsat hside h3 hm hs0 hl12 h0
              go_wp2
              go_roundw
              case rel => exact ⟨i + 1, by omega, by go_num, S, J, D, has, Jo, Do, ho, og, z, RW, RN, Bk, rfl, hz, jw_more HW.out (by omega), HT.out, HH.out, HRW.out, HRN.out, Hs0.out, Hside.out⟩
              case measure => simp [intOf]; omega
            · have h0' : ¬ (m : Int) = 0 := by omega
              have hb := h3.batch (by omega) (by omega)
              have hs1 : Sat wc (jrA j d J * (devA S d D * (pool S * (wrsA (.slice va L.length vc) L * (rowsL u12 RN 12 * (Bk * (pt ob (StO Jo og) * whole w))))))) := by
                rw [HY.out] at hsat
                exact (hsat.to (by unfold lastA; ac_rfl : _ = (rowsL u11 RW 12 * pt og (.cells (ints (Jr.ats Jo)) 3 (0, 0))) * (jrA j d J * (devA S d D * (pool S * (wrsA (.slice va L.length vc) L * (rowsL u12 RN 12 * (Bk * (pt ob (StO Jo og) * whole w)))))))) ).right
              rw [← hm] at hs1
              have hst := state_any wc j d J _ hs1 HW.out.inv.ok
              have e12 := stV HW.out.inv HW.out.jn
              have E12 := SL.hid e12; have HB := SL.hid hb
              clear hsat hside h3 hm hl12 h0 hb e12 hs1
              go_wp2_with fail
              (with_reducible refine hst.mono ?_)
              rintro e w6 ⟨ag, rfl, h6, d6⟩
              rw [E12.out]
              have D6 := Hside.out.trans d6
              have H6 : Sat w6 (pt ob (StO Jo og) * (pt ag (.cells (ints (Jr.ats J)) 3 (0, 0)) * (jrA j d J * (devA S d D * (pool S * (wrsA (.slice va m vc) L * (rowsL u12 RN 12 * (Bk * whole w)))))))) := h6.to (by ac_rfl)
              unfold StO at H6
              have k0 : w6.cell? ⟨ob, 0, none⟩ = some (.int .u32 Jo.ep) := H6.cell 0
              have k1 : w6.cell? ⟨ob, 1, none⟩ = some (.int .u64 Jo.st) := H6.cell 1
              have k2 : w6.cell? ⟨ob, 2, none⟩ = some (.int .u64 Jo.sq) := H6.cell 2
              have k3 : w6.cell? ⟨ob, 3, none⟩ = some (.int .i64 Jo.hd) := H6.cell 3
              have k4 : w6.cell? ⟨ob, 4, none⟩ = some (.int .i64 Jo.us) := H6.cell 4
              have k5 : w6.cell? ⟨ob, 5, none⟩ = some (.slice (some ⟨og, 0, none⟩) 12 12) := H6.cell 5
              have f0 := H6.frozen 0; have f1 := H6.frozen 1; have f2 := H6.frozen 2; have f3 := H6.frozen 3; have f4 := H6.frozen 4; have f5 := H6.frozen 5
              have K9 := ((((((H6.setCell 0 (.int .u32 J.ep)).setCell 1 (.int .u64 J.st)).setCell 2 (.int .u64 J.sq)).setCell 3 (.int .i64 J.hd)).setCell 4 (.int .i64 J.us)).setCell 5 (.slice (some ⟨ag, 0, none⟩) 12 12))
              have D9 := ((((((D6.setCell ⟨ob, 0, none⟩ (.int .u32 J.ep)).setCell ⟨ob, 1, none⟩ (.int .u64 J.st)).setCell ⟨ob, 2, none⟩ (.int .u64 J.sq)).setCell ⟨ob, 3, none⟩ (.int .i64 J.hd)).setCell ⟨ob, 4, none⟩ (.int .i64 J.us)).setCell ⟨ob, 5, none⟩ (.slice (some ⟨ag, 0, none⟩) 12 12))
              have HK9 := SL.hid K9; have HD9 := SL.hid D9
              clear hst h6 d6 H6 D6 K9 D9
              go_wp2_with fail
              clear k0 k1 k2 k3 k4 k5 f0 f1 f2 f3 f4 f5
              generalize (((((w6.setCell ⟨ob, 0, none⟩ (.int .u32 J.ep)).setCell ⟨ob, 1, none⟩ (.int .u64 J.st)).setCell ⟨ob, 2, none⟩ (.int .u64 J.sq)).setCell ⟨ob, 3, none⟩ (.int .i64 J.hd)).setCell ⟨ob, 4, none⟩ (.int .i64 J.us)).setCell ⟨ob, 5, none⟩ (.slice (some ⟨ag, 0, none⟩) 12 12) = w7 at HK9 HD9 ⊢
              have H7 : Sat w7 (pt ob (StO J ag) * (pt ag (.cells (ints (Jr.ats J)) 3 (0, 0)) * (jrA j d J * (devA S d D * (pool S * (wrsA (.slice va m vc) L * (rowsL u12 RN 12 * (Bk * whole w)))))))) := HK9.out
              have hcn := counts_any w7 S d D _ H7.front4
              clear HK9
              (with_reducible refine hcn.mono ?_)
              rintro e w8 ⟨rfl, h8, d8⟩
              have H8 := (h8.keepW H7).alloc (.cells #[.int .i64 D.cr, .int .i64 D.cw, .int .i64 D.cf] 50 (0, 0))
              have D8 := (HD9.out.trans d8).alloc (.cells #[.int .i64 D.cr, .int .i64 D.cw, .int .i64 D.cf] 50 (0, 0))
              have HH8 := SL.hid H8; have HD8 := SL.hid D8
              clear hcn h8 d8 H7 HD9 H8 D8
              go_wp2_with fail
              generalize w8.alloc (.cells #[.int .i64 D.cr, .int .i64 D.cw, .int .i64 D.cf] 50 (0, 0)) = w9 at HH8 HD8 ⊢
              generalize w8.heap.size = cb at HH8 ⊢
              have hcm := ct_any w9 S j d J D (pt ob (StO J ag) * (pt ag (.cells (ints (Jr.ats J)) 3 (0, 0)) * (pt cb (.cells #[.int .i64 D.cr, .int .i64 D.cw, .int .i64 D.cf] 50 (0, 0)) * (rowsL u12 RN 12 * (Bk * whole w))))) (.slice va L.length vc) L has (n := 12) (P := 160) (B := i) (by rw [← Hm.out]; exact HH8.out.to (by ac_rfl)) HW.out HT.out (by omega) (by omega) H3.out.b480 HB.out
              rw [← Hm.out] at hcm
              have hcw := devC_cw HW.out (by omega) (by omega) HB.out
              have Hcw := SL.hid hcw
              clear HH8 hcw
              (with_reducible refine hcm.mono ?_)
              rintro e w10 ⟨S2, J2, D2, E2, rfl, hJ2, hD2, h10, d10, hW2, hT2, hE2⟩
              have D10 := HD8.out.trans d10
              have hz2 : ∃ z2 : Nat, z2 = (L.bl ++ movB J has L.bl).length := ⟨_, rfl⟩
              obtain ⟨z2, hz2⟩ := hz2
              have hH2 : LHist z2 J2 D2 (updB has L.bl) J D has := .inr ⟨L.bl, i, by omega, HB.out, HW.out, HT.out, hJ2, hD2, rfl, hz2⟩
              have hcw2 : D2.cw = D.cw + (z2 : Int) ∧ (z2 : Int) ≤ 72 := by
                rw [hD2, hz2]; exact ⟨Hcw.out.1, by have := Hcw.out.2; omega⟩
              have hc0 := HW.out.cw0; have hc1 := HW.out.cw1
              have hcn := counts_any w10 S2 d D2 _ h10.front2
              have HW2 := SL.hid hW2; have HT2 := SL.hid hT2; have HH2 := SL.hid hH2
              clear hcm d10 HD8 hW2 hT2 hH2 hE2 hJ2 hD2 hz2 Hcw E2
              go_wp2_with fail
              (with_reducible refine hcn.mono ?_)
              rintro e w11 ⟨rfl, h11, d11⟩
              obtain ⟨hcw3, hz72⟩ := hcw2
              rw [hcw3]
              have H12 := (h11.keepW h10).alloc (.cells #[.int .i64 D2.cr, .int .i64 (D.cw + (z2 : Int)), .int .i64 D2.cf] 50 (0, 0))
              have D12 := (D10.trans d11).alloc (.cells #[.int .i64 D2.cr, .int .i64 (D.cw + (z2 : Int)), .int .i64 D2.cf] 50 (0, 0))
              have HH12 := SL.hid H12; have HD12 := SL.hid D12
              clear hcn h10 h11 d11 D10 H12 D12 hcw3
              go_upto_region 34 with (fail)
              generalize w11.alloc (.cells #[.int .i64 D2.cr, .int .i64 (D.cw + (z2 : Int)), .int .i64 D2.cf] 50 (0, 0)) = w12 at HH12 HD12 ⊢
              generalize w11.heap.size = cb2 at HH12 ⊢
              have y1 : w12.cell? ⟨cb2, 1, none⟩ = some (.int .i64 (D.cw + (z2 : Int))) := HH12.out.cell 1
              have x1 : w12.cell? ⟨cb, 1, none⟩ = some (.int .i64 D.cw) := (HH12.out.to (by ac_rfl : _ = pt cb (.cells #[.int .i64 D.cr, .int .i64 D.cw, .int .i64 D.cf] 50 (0, 0)) * (pt cb2 (.cells #[.int .i64 D2.cr, .int .i64 (D.cw + (z2 : Int)), .int .i64 D2.cf] 50 (0, 0)) * (jrA j d J2 * (devA S2 d D2 * (pool S2 * (wrsA (.slice va m vc) L * (pt ob (StO J ag) * (pt ag (.cells (ints (Jr.ats J)) 3 (0, 0)) * (rowsL u12 RN 12 * (Bk * whole w))))))))))).cell 1
              have hsub : (D.cw + (z2 : Int)) - D.cw = (z2 : Int) := by omega
              go_upto_region 37 with (fail)
              clear y1 x1 hsub hc0 hc1
              have H13 : Sat w12 (rowsL u12 RN 12 * (Bk * (wrsA (.slice va m vc) L * (lastA j d ob ag S2 J2 D2 J w)))) := (HH12.out.to (by unfold lastA; ac_rfl : _ = (pt cb (.cells #[.int .i64 D.cr, .int .i64 D.cw, .int .i64 D.cf] 50 (0, 0)) * pt cb2 (.cells #[.int .i64 D2.cr, .int .i64 (D.cw + (z2 : Int)), .int .i64 D2.cf] 50 (0, 0))) * (rowsL u12 RN 12 * (Bk * (wrsA (.slice va m vc) L * (lastA j d ob ag S2 J2 D2 J w)))))).right
              clear HH12
              have hone := Keeps.one HRN.out.keep H13.front2
              unfold rowsL at H13
              have H14 := H13.alloc (.cells #[] 39 (0, 0))
              have D14 := HD12.out.alloc (.cells #[] 39 (0, 0))
              have H15 : Sat (w12.alloc (.cells #[] 39 (0, 0))) (sl 39 1 (.slice (some ⟨w12.heap.size, 0, none⟩) 0 0) 0 [] * (sl 39 1 u12 12 (RN.map Prod.fst) * (Bk * (wrsA (.slice va m vc) L * (lastA j d ob ag S2 J2 D2 J w))))) := by
                have := Sat.slOf (sz := 1) (n := 0) (cap := 0) H14 (by omega) (by unfold maxLen; omega) (by simp)
                simpa using this
              obtain ⟨wa, wcp, w13, hrun, h16, d16⟩ := append_rows H15 H15.front2.rds hone (by omega)
              have Hrun := SL.hid hrun; have H16 := SL.hid h16; have D16 := SL.hid (D14.trans d16)
              clear H13 H14 H15 hone D14 h16 d16 hrun HD12
              go_wp2_with (at_builtin; refine wpList_append_run Hrun.out _ _ rfl rfl rfl rfl rfl ?_)
              have hl0 : 0 < L.length := by rw [← Hm.out]; omega
              have H17 : Sat w13 (sl 39 1 u12 12 (RN.map Prod.fst) * (wrsA (.slice va m vc) L * (sl 39 1 (.slice wa 12 wcp) 12 (RN.map Prod.fst) * (Bk * lastA j d ob ag S2 J2 D2 J w)))) := H16.out.to (by ac_rfl)
              obtain ⟨wb, wc2, hwv, hw1, hw2⟩ := wrsA_cells H17.front2 hl0
              rcases H17.slCases with ⟨_, h0, _⟩ | ⟨hg, cap, cur, rfl, h3', h4, h5, h6', hF⟩
              · omega
              injection hwv with hv1 hv2 hv3
              subst hv1; subst hv3
              have hcap12 : (12 : Int) ≤ (cap : Int) := by omega
              have hcapm : (cap : Int) ≤ 9223372036854775807 := by unfold maxLen at h4; omega
              have hwm : (vc : Int) ≤ 9223372036854775807 := by unfold maxLen at hw2; omega
              have hwl : (m : Int) ≤ (vc : Int) := by omega
              obtain ⟨Yy, hYy⟩ : ∃ X, X = wrsA (.slice (some ⟨wb, 0, none⟩) m vc) L * (sl 39 1 (.slice wa 12 wcp) 12 (RN.map Prod.fst) * (Bk * lastA j d ob ag S2 J2 D2 J w)) := ⟨_, rfl⟩
              have H5s := SL.hid h5; have H6s := SL.hid h6'; have HFh := SL.hid hF; have HYy := SL.hid hYy; have Hh4 := SL.hid h4; have Hh3 := SL.hid h3'
              clear H16 H17 hF h5 h6' hYy hw1 hw2 h3' h4 hl0 hv2 Hrun
              go_loopw [23] (fun u23 wr => L4Rel hg cap RN L Yy w u23 wr) (fun u _ => m - (intOf u).toNat)
              case atStart => exact ⟨0, cur, Nat.zero_le _, rfl, (by have := H5s.out; omega), (by rw [H6s.out]; simp [updR]), (by rw [HYy.out]; exact HFh.out), D16.out⟩
              case round =>
                clear H5s H6s HFh D16
                obtain ⟨n, cur', hn, rfl, hsz, htk, hs4, hd4⟩ := hrel
                rw [← Hm.out] at hn
                by_cases hnl : n < m
                · have hnl' : (n : Int) < (m : Int) := by omega
                  have hnL : n < L.length := by rw [← Hm.out]; exact hnl
                  have hid := HB.out.id (L[n].2.1, L[n].2.2) (List.mem_map.2 ⟨L[n], List.getElem_mem hnL, rfl⟩)
                  have hs4' : Sat wr (wrsA (.slice (some ⟨wb, 0, none⟩) L.length vc) L * (pt hg (.cells cur' 39 (0, 0)) * (sl 39 1 (.slice wa 12 wcp) 12 (RN.map Prod.fst) * (Bk * lastA j d ob ag S2 J2 D2 J w)))) := hs4.to (by rw [HYy.out, ← Hm.out]; ac_rfl)
                  obtain ⟨q1, q2⟩ := wrsA_cell hs4' hnL
                  obtain ⟨id, hid2⟩ : ∃ k : Nat, L[n].2.1 = (k : Int) := Int.eq_ofNat_of_zero_le hid.1
                  rw [hid2] at q1 hid
                  have hid12 : (id : Int) < 12 := hid.2
                  have hid12' : id < 12 := by omega
                  have hcellold : ∃ u, cur'[id]? = some u := by
                    have : id < cur'.size := by omega
                    exact ⟨_, Array.getElem?_eq_getElem this⟩
                  obtain ⟨uo, huo⟩ := hcellold
                  have q3 : wr.cell? ⟨hg, id, none⟩ = some uo := (hs4.cell id).trans huo
                  have q4 : wr.frozen? ⟨hg, id, none⟩ = false := hs4.frozen id
                  have hset := hs4.setCell id (.slice (some ⟨L[n].1, 0, none⟩) 480 480)
                  have htk2 : (cur'.setIfInBounds id (.slice (some ⟨L[n].1, 0, none⟩) 480 480)).toList.take 12 = (updR RN L (n + 1)).map Prod.fst := by
                    rw [updR_succ RN L hnL, List.map_set, ← htk, hid2]
                    simp [List.take_set]
                  have Hset := SL.hid hset; have Htk2 := SL.hid htk2; have Hsz := SL.hid hsz; have Hd4 := SL.hid hd4
                  obtain ⟨g, hg1⟩ : ∃ g, g = L[n].1 := ⟨_, rfl⟩
                  rw [← hg1] at q2 Hset Htk2
                  have S8 : Sat wr Yy := hs4.right
                  have S9 := Hset.out.right
                  have S8d := S8.drew
                  have S9d := S9.drew
                  have gb1 : ∀ w', Sat w' Yy → w'.cell? ⟨wb, n * 2, none⟩ = some (.int .i64 (id : Int)) := fun w' h => by
                    rw [HYy.out, Hm.out] at h
                    rw [← hid2]; exact (wrsA_cell h hnL).1
                  have gb2 : ∀ w', Sat w' Yy → w'.cell? ⟨wb, n * 2 + 1, none⟩ = some (.slice (some ⟨g, 0, none⟩) 480 480) := fun w' h => by
                    rw [HYy.out, Hm.out] at h
                    rw [hg1]; exact (wrsA_cell h hnL).2
                  clear hs4 hs4' hset htk2 hsz hd4 htk hid hid2 huo hg1 q1 q2
                  go_wp2_with fail
                  go_region_held3 (fun w' => Sat w' Yy) (first | (with_reducible exact S8) | (with_reducible exact S9) | (with_reducible exact S9d) | (with_reducible exact S8d)) (fail)
                  go_wp2
                  go_roundw
                  case rel => exact ⟨n + 1, cur'.setIfInBounds id (.slice (some ⟨g, 0, none⟩) 480 480), by rw [← Hm.out]; omega, by go_num, by rw [Array.size_setIfInBounds]; exact Hsz.out, Htk2.out, Hset.out.drew, (Hd4.out.setCell _ _).drew⟩
                  case measure => simp [intOf]; omega
                · obtain rfl : n = m := by omega
                  have hrows := updR_rows HRN.out.of HB.out L.length (Nat.le_refl _)
                  rw [← bl_len, List.take_length, bl_len] at hrows
                  have hlen := updR_len RN L L.length (Nat.le_refl _)
                  rw [Hm.out] at htk
                  have hsl := Sat.slOf (n := 12) (sz := 1) (cap := cap) hs4 (by omega) Hh4.out (by omega)
                  rw [Nat.mul_one, htk, HYy.out] at hsl
                  have hk1 := keeps_updW HRN.out.keep H3.out.b480 L.length (Nat.le_refl _)
                  have hRN2 : RowT (updB has L.bl) (Bk * blksA (L.map fun x => (x.1, x.2.2))) (updR RN L L.length) 12 := ⟨hlen.trans HRN.out.len, hrows, hk1⟩
                  have hRW2 : RowT has (Bk * blksA (L.map fun x => (x.1, x.2.2))) RN 12 := HRN.out.more
                  have hs5 : Sat wr (rowsL (.slice wa 12 wcp) RN 12 * (rowsL (.slice (some ⟨hg, 0, none⟩) 12 cap) (updR RN L L.length) 12 * ((Bk * blksA (L.map fun x => (x.1, x.2.2))) * lastA j d ob ag S2 J2 D2 J w))) := (hsl.to (by unfold wrsA rowsL; ac_rfl : _ = sl 41 2 (.slice (some ⟨wb, 0, none⟩) n vc) L.length (SL.flatW L.wr) * (rowsL (.slice wa 12 wcp) RN 12 * (rowsL (.slice (some ⟨hg, 0, none⟩) 12 cap) (updR RN L L.length) 12 * ((Bk * blksA (L.map fun x => (x.1, x.2.2))) * lastA j d ob ag S2 J2 D2 J w))))).right
                  have HS5 := SL.hid hs5; have HRN2 := SL.hid hRN2; have HRW2 := SL.hid hRW2; have Hd4 := SL.hid hd4
                  clear hs4 hs5 hsl hrows hlen htk hsz hd4 hk1 hRN2 hRW2
                  go_wp2
                  go_roundw
                  case rel => exact ⟨i + 1, by omega, by go_num, S2, J2, D2, updB has L.bl, J, D, has, ag, z2, RN, updR RN L L.length, _, rfl, by omega, HW2.out, HT2.out, HH2.out, HRW2.out, HRN2.out, HS5.out, Hd4.out⟩
                  case measure => simp [intOf]; omega
        · have fin : L2Out j d ob 40 w u11 u12 (.int .i64 (z : Int)) wr := ⟨S, J, D, has, Jo, Do, ho, og, z, RW, RN, Bk, rfl, hz, jw_more hW hi, hT, hH, hRW, hRN, hsat, hside⟩
          have Hfin := SL.hid fin
          clear fin hsat hside hW hT hH hRW hRN
          by_cases hl : i < len0
          · have hl' : (i : Int) < (len0 : Int) := by omega
            obtain rfl : i = 40 := by omega
            go_wp2_with fail
            go_meet
            exact Hfin.out
          · have hl' : ¬ (i : Int) < (len0 : Int) := by omega
            go_wp2_with fail
            go_meet
            exact Hfin.out
    case rest =>
      clear HS
      obtain ⟨S, J, D, has, Jo, Do, ho, og, z, RW, RN, Bk, rfl, hz, hW, hT, hH, hRW, hRN, hsat, hside⟩ := hcut
      obtain ⟨K, hK⟩ : ∃ K, K = keep.take len1 := ⟨_, rfl⟩
      obtain ⟨bv, Jn, hn, hbv, hF, hb1, hb2⟩ := last_found hH K
      have hK1 : K.length = len1 := by rw [hK]; exact Hz.out.take.1
      have hst := state_any wc j d J _ (hsat.to (by unfold lastA; ac_rfl : _ = jrA j d J * (devA S d D * (pool S * (rowsL u11 RW 12 * (rowsL u12 RN 12 * (Bk * (pt ob (StO Jo og) * (pt og (.cells (ints (Jr.ats Jo)) 3 (0, 0)) * whole w))))))))) hW.inv.ok
      have e12 := stV hW.inv hW.jn
      have hdok := hW.inv.dok
      have E12 := SL.hid e12; have HF := SL.hid hF; have Hbv := SL.hid hbv; have Hb1 := SL.hid hb1; have Hb2 := SL.hid hb2; have HK1 := SL.hid hK1; have HK := SL.hid hK; have HRW := SL.hid hRW; have HRN := SL.hid hRN; have Hdok := SL.hid hdok; have HZz := SL.hid hz
      clear hsat e12 hF hbv hb1 hb2 hK1 hK hRW hRN hW hT hH hdok
      go_wp2_with fail
      (with_reducible refine hst.mono ?_)
      rintro e w6 ⟨ng, rfl, h6, d6⟩
      rw [E12.out]
      have H7 := h6.alloc (StO J ng)
      have D7 := (hside.trans d6).alloc (StO J ng)
      unfold StO at H7 D7
      have H7h := SL.hid H7; have D7h := SL.hid D7
      clear hst h6 d6 H7 D7 hside
      go_upto_region 43 with (fail)
      generalize w6.alloc (.cells #[.int .u32 J.ep, .int .u64 J.st, .int .u64 J.sq, .int .i64 J.hd, .int .i64 J.us, .slice (some ⟨ng, 0, none⟩) 12 12] 35 (0, 0)) = w7 at H7h D7h ⊢
      generalize w6.heap.size = nb at H7h ⊢
      obtain ⟨FF, hFF⟩ : ∃ X, X = pool S * (pt nb (StO J ng) * (pt ng (.cells (ints (Jr.ats J)) 3 (0, 0)) * (rowsL u11 RW 12 * (rowsL u12 RN 12 * (Bk * (pt ob (StO Jo og) * pt og (.cells (ints (Jr.ats Jo)) 3 (0, 0)))))))) := ⟨_, rfl⟩
      have H8 : Sat w7 (devA S d D * (FF * whole w)) := (H7h.out.to (by rw [hFF]; unfold StO; ac_rfl : _ = jrA j d J * (devA S d D * (FF * whole w)))).right
      obtain ⟨x, hx⟩ := H8.devEx
      have hcr := crash_any w7 S d D x K (.slice a1 len1 cap1) (FF * whole w) hx Hdok.out (by rw [HK.out]; exact keepR_ints Hz.out x S d D FF)
      have HFF := SL.hid hFF
      clear H7h H8 hx hFF
      go_wp2_with fail
      (with_reducible refine hcr.mono ?_)
      rintro e w8 ⟨rfl, h8, d8⟩
      have D8 := D7h.out.trans d8
      have hstt := start_any w8 S d (D.crash K) _ h8
      have e1 : (Dev.start (D.crash K)).1 = 0 := rfl
      have e2 : (Dev.start (D.crash K)).2 = Dev.again D K := rfl
      rw [e1, e2] at hstt
      clear hcr h8 d8 D7h e1 e2
      go_wp2_with fail
      (with_reducible refine hstt.mono ?_)
      rintro e w9 ⟨rfl, h9, d9⟩
      have D9 := D8.trans d9
      have hep := HF.out.epo
      have hsc : Calls Tryz.prog 10 #[ptV d, .int .i64 160, .int .i64 12] w9 (StQ S d 12 160 0 Jn (Dev.again D K) hn (pt nb (StO J ng) * (pt ng (.cells (ints (Jr.ats J)) 3 (0, 0)) * (rowsL u11 RW 12 * (rowsL u12 RN 12 * (Bk * (pt ob (StO Jo og) * (pt og (.cells (ints (Jr.ats Jo)) 3 (0, 0)) * whole w))))))) w9) := st_any w9 S d (Dev.again D K) (n := 12) (P := 160) (B := 0) (J := Jn) (has := hn) _ (h9.to (by rw [HFF.out]; ac_rfl)) HF.out.told HF.out.jP (by have := HF.out.sq; omega) (by omega) (by omega)
      clear hstt h9 d9 D8
      go_wp2_with fail
      (with_reducible refine hsc.mono ?_)
      rintro e w10 ⟨g, r, ep, us, rfl, hep2, hus, u0, u1, h10, d10, hr⟩
      have hF2 := HF.out.cr r
      generalize ({ Dev.again D K with cr := r } : Dev) = Da at hF2 h10
      have hep3 : 1 ≤ ep ∧ ep ≤ 2 := by omega
      obtain ⟨Jm, hJm⟩ : ∃ Jm, Jm = Jn.seen ep us := ⟨_, rfl⟩
      have e11 : (Jr.js (Jn.seen ep us)).v (.slice (some ⟨g, 0, none⟩) 12 12) = .agg #[.int .u32 ep, .int .u64 (Jn.sq + 1), .int .u64 Jn.sq, .int .i64 Jn.hd, .int .i64 us, .slice (some ⟨g, 0, none⟩) 12 12] := rfl
      rw [e11]
      have H11 := h10.alloc (.cells #[.int .u32 ep, .int .u64 (Jn.sq + 1), .int .u64 Jn.sq, .int .i64 Jn.hd, .int .i64 us, .slice (some ⟨g, 0, none⟩) 12 12] 35 (0, 0))
      have D11 := (D9.trans d10).alloc (.cells #[.int .u32 ep, .int .u64 (Jn.sq + 1), .int .u64 Jn.sq, .int .i64 Jn.hd, .int .i64 us, .slice (some ⟨g, 0, none⟩) 12 12] 35 (0, 0))
      have H11h := SL.hid H11; have D11h := SL.hid D11; have HF2 := SL.hid hF2; have Hep := SL.hid hep3; have Hus := SL.hid hus
      clear hsc h10 d10 D9 H11 D11 hF2 hep hep2 hep3 hus u0 u1 hr e11 hJm HF HFF
      go_upto_region 46 with (fail)
      generalize w10.alloc (.cells #[.int .u32 ep, .int .u64 (Jn.sq + 1), .int .u64 Jn.sq, .int .i64 Jn.hd, .int .i64 us, .slice (some ⟨g, 0, none⟩) 12 12] 35 (0, 0)) = w11 at H11h D11h ⊢
      generalize w10.heap.size = sb at H11h ⊢
      go_upto_block 8 with (fail)
      go_cut [28] from 182 to 200 (fun u wx => u = .bool bv ∧ w11 = wx)
      case first =>
        have hold : ∀ (ad : Addr) (u : Value), w.cell? ad = some u → w11.cell? ad = some u := fun ad u hc =>
          (H11h.out.to (by ac_rfl : _ = (pt sb (.cells #[.int .u32 ep, .int .u64 (Jn.sq + 1), .int .u64 Jn.sq, .int .i64 Jn.hd, .int .i64 us, .slice (some ⟨g, 0, none⟩) 12 12] 35 (0, 0)) * (pt g (.cells (ints (Jr.ats Jn)) 3 (0, 0)) * (devA S d Da * (pool S * (pt nb (StO J ng) * (pt ng (.cells (ints (Jr.ats J)) 3 (0, 0)) * (rowsL u11 RW 12 * (rowsL u12 RN 12 * (Bk * (pt ob (StO Jo og) * pt og (.cells (ints (Jr.ats Jo)) 3 (0, 0)))))))))))) * whole w)).cellOld hc
        have Hold := SL.hid hold
        clear hold H11h D11h
        have e0 : decide (z ≤ len1) = allKN K len1 z 0 := by simp [allKN]
        have E0 := SL.hid e0
        clear e0
        go_wp2_with fail
        go_loopw [28, 29] (fun u28 u29 wr => L5Rel K len1 z w11 u28 u29 wr) (fun _ u _ => z - (intOf u).toNat)
        case atStart => exact ⟨0, Nat.zero_le _, Nat.zero_le _, rfl, congrArg Value.bool E0.out, rfl⟩
        case round =>
          obtain ⟨i, hiz, hil, rfl, rfl, rfl⟩ := hrel
          have hS := allKN_succ K len1 z i
          have hEnd := fun h => allKN_end (keep := K) (len := len1) (z := z) (i := i) HK1.out hiz h
          by_cases hlt : i < z ∧ i < len1
          · obtain ⟨hl1, hl2⟩ := hlt
            have hl1' : (i : Int) < (z : Int) := by omega
            have hl2' : (i : Int) < (len1 : Int) := by omega
            obtain ⟨b, off, rfl, hc, hlc, hcapX⟩ := Hz.out.cell hl2
            have hc2 := Hold.out _ _ hc
            have hv : K.getD i 0 = keep.getD i 0 := by rw [HK.out]; exact Hz.out.take.2 i hl2
            rw [← hv] at hc2
            generalize K.getD i 0 = kv at hc2 hS
            generalize allKN K len1 z i = bi at hS
            have HS := SL.hid hS
            clear hc hv hS hEnd E0
            cases bi with
            | false =>
              go_wp2_with fail
              go_roundw
              case rel => exact ⟨i + 1, by omega, by omega, by go_num, by rw [HS.out]; rfl, rfl⟩
              case measure => simp [intOf]; omega
            | true =>
              go_wp2_with fail
              go_roundw
              case rel => exact ⟨i + 1, by omega, by omega, by go_num, by rw [HS.out]; rfl, rfl⟩
              case measure => simp [intOf]; omega
          · have hfin : allKN K len1 z i = bv := by rw [hEnd (by omega), Hbv.out]
            rw [hfin]
            clear hS hEnd E0 hfin
            by_cases hl1 : i < z
            · have hl1' : (i : Int) < (z : Int) := by omega
              have hl2' : ¬ (i : Int) < (len1 : Int) := by omega
              go_wp2_with fail
              go_meet
              exact ⟨rfl, rfl⟩
            · have hl1' : ¬ (i : Int) < (z : Int) := by omega
              go_wp2_with fail
              go_meet
              exact ⟨rfl, rfl⟩
      case rest =>
        obtain ⟨rfl, rfl⟩ := hcut
        have h0 := H11h.out
        unfold StO at h0
        have ho' := (h0.to (by ac_rfl : _ = pt ob (.cells #[.int .u32 Jo.ep, .int .u64 Jo.st, .int .u64 Jo.sq, .int .i64 Jo.hd, .int .i64 Jo.us, .slice (some ⟨og, 0, none⟩) 12 12] 35 (0, 0)) * (pt sb (.cells #[.int .u32 ep, .int .u64 (Jn.sq + 1), .int .u64 Jn.sq, .int .i64 Jn.hd, .int .i64 us, .slice (some ⟨g, 0, none⟩) 12 12] 35 (0, 0)) * (pt g (.cells (ints (Jr.ats Jn)) 3 (0, 0)) * (devA S d Da * (pool S * (pt nb (.cells #[.int .u32 J.ep, .int .u64 J.st, .int .u64 J.sq, .int .i64 J.hd, .int .i64 J.us, .slice (some ⟨ng, 0, none⟩) 12 12] 35 (0, 0)) * (pt ng (.cells (ints (Jr.ats J)) 3 (0, 0)) * (rowsL u11 RW 12 * (rowsL u12 RN 12 * (Bk * (pt og (.cells (ints (Jr.ats Jo)) 3 (0, 0)) * whole w))))))))))))
        have o0 : w11.cell? ⟨ob, 0, none⟩ = some (.int .u32 Jo.ep) := ho'.cell 0
        have o1 : w11.cell? ⟨ob, 1, none⟩ = some (.int .u64 Jo.st) := ho'.cell 1
        have o2 : w11.cell? ⟨ob, 2, none⟩ = some (.int .u64 Jo.sq) := ho'.cell 2
        have o3 : w11.cell? ⟨ob, 3, none⟩ = some (.int .i64 Jo.hd) := ho'.cell 3
        have o4 : w11.cell? ⟨ob, 4, none⟩ = some (.int .i64 Jo.us) := ho'.cell 4
        have o5 : w11.cell? ⟨ob, 5, none⟩ = some (.slice (some ⟨og, 0, none⟩) 12 12) := ho'.cell 5
        have h1 := h0.alloc (.cells #[.int .u32 Jo.ep, .int .u64 Jo.st, .int .u64 Jo.sq, .int .i64 Jo.hd, .int .i64 Jo.us, .slice (some ⟨og, 0, none⟩) 12 12] 35 (0, 0))
        have d1 := D11h.out.alloc (.cells #[.int .u32 Jo.ep, .int .u64 Jo.st, .int .u64 Jo.sq, .int .i64 Jo.hd, .int .i64 Jo.us, .slice (some ⟨og, 0, none⟩) 12 12] 35 (0, 0))
        have Hh1 := SL.hid h1; have Hd1 := SL.hid d1
        clear h0 ho' h1 d1 H11h D11h
        go_upto_region 55 with (fail)
        clear o0 o1 o2 o3 o4 o5
        generalize w11.alloc (.cells #[.int .u32 Jo.ep, .int .u64 Jo.st, .int .u64 Jo.sq, .int .i64 Jo.hd, .int .i64 Jo.us, .slice (some ⟨og, 0, none⟩) 12 12] 35 (0, 0)) = w12 at Hh1 Hd1 ⊢
        generalize w11.heap.size = wb at Hh1 ⊢
        go_cut [207] from 203 to 207 (fun u wx => u = .bool bv ∧ w12 = wx)
        case first =>
          cases bv with
          | true =>
            go_wp2_with fail
            go_meet
            exact ⟨rfl, rfl⟩
          | false =>
            have hz0 : ((z : Int) == 0) = false := by have := (Hb2.out rfl).1; simp; omega
            have hz1 : ¬ (z : Int) = 0 := by have := (Hb2.out rfl).1; omega
            clear Hb1 Hb2 Hbv
            go_wp2_with fail
            go_meet
            exact ⟨rfl, rfl⟩
        case rest =>
        obtain ⟨rfl, rfl⟩ := hcut
        go_upto_if 207 with (fail)
        go_cut [31] from 208 to 209 (fun u31 wx => WantP S d sb g wb (.cells #[.int .u32 ep, .int .u64 (Jn.sq + 1), .int .u64 Jn.sq, .int .i64 Jn.hd, .int .i64 us, .slice (some ⟨g, 0, none⟩) 12 12] 35 (0, 0)) Jn Da hn Bk w u31 wx)
        case first =>
          have h0 := Hh1.out
          have hn' := h0.to (by ac_rfl : _ = pt nb (.cells #[.int .u32 J.ep, .int .u64 J.st, .int .u64 J.sq, .int .i64 J.hd, .int .i64 J.us, .slice (some ⟨ng, 0, none⟩) 12 12] 35 (0, 0)) * (pt wb (.cells #[.int .u32 Jo.ep, .int .u64 Jo.st, .int .u64 Jo.sq, .int .i64 Jo.hd, .int .i64 Jo.us, .slice (some ⟨og, 0, none⟩) 12 12] 35 (0, 0)) * (pt ob (.cells #[.int .u32 Jo.ep, .int .u64 Jo.st, .int .u64 Jo.sq, .int .i64 Jo.hd, .int .i64 Jo.us, .slice (some ⟨og, 0, none⟩) 12 12] 35 (0, 0)) * (pt sb (.cells #[.int .u32 ep, .int .u64 (Jn.sq + 1), .int .u64 Jn.sq, .int .i64 Jn.hd, .int .i64 us, .slice (some ⟨g, 0, none⟩) 12 12] 35 (0, 0)) * (pt g (.cells (ints (Jr.ats Jn)) 3 (0, 0)) * (devA S d Da * (pool S * (pt ng (.cells (ints (Jr.ats J)) 3 (0, 0)) * (rowsL u11 RW 12 * (rowsL u12 RN 12 * (Bk * (pt og (.cells (ints (Jr.ats Jo)) 3 (0, 0)) * whole w))))))))))))
          have n0 : w12.cell? ⟨nb, 0, none⟩ = some (.int .u32 J.ep) := hn'.cell 0
          have n1 : w12.cell? ⟨nb, 1, none⟩ = some (.int .u64 J.st) := hn'.cell 1
          have n2 : w12.cell? ⟨nb, 2, none⟩ = some (.int .u64 J.sq) := hn'.cell 2
          have n3 : w12.cell? ⟨nb, 3, none⟩ = some (.int .i64 J.hd) := hn'.cell 3
          have n4 : w12.cell? ⟨nb, 4, none⟩ = some (.int .i64 J.us) := hn'.cell 4
          have n5 : w12.cell? ⟨nb, 5, none⟩ = some (.slice (some ⟨ng, 0, none⟩) 12 12) := hn'.cell 5
          have k0 : w12.cell? ⟨wb, 0, none⟩ = some (.int .u32 Jo.ep) := h0.cell 0
          have k1 : w12.cell? ⟨wb, 1, none⟩ = some (.int .u64 Jo.st) := h0.cell 1
          have k2 : w12.cell? ⟨wb, 2, none⟩ = some (.int .u64 Jo.sq) := h0.cell 2
          have k3 : w12.cell? ⟨wb, 3, none⟩ = some (.int .i64 Jo.hd) := h0.cell 3
          have k4 : w12.cell? ⟨wb, 4, none⟩ = some (.int .i64 Jo.us) := h0.cell 4
          have k5 : w12.cell? ⟨wb, 5, none⟩ = some (.slice (some ⟨og, 0, none⟩) 12 12) := h0.cell 5
          have f0 := h0.frozen 0; have f1 := h0.frozen 1; have f2 := h0.frozen 2; have f3 := h0.frozen 3; have f4 := h0.frozen 4; have f5 := h0.frozen 5
          clear h0 hn'
          cases bv with
          | true =>
            obtain ⟨rfl, rfl⟩ := Hb1.out rfl
            have hN := ((((((Hh1.out.setCell 0 (.int .u32 Jn.ep)).setCell 1 (.int .u64 Jn.st)).setCell 2 (.int .u64 Jn.sq)).setCell 3 (.int .i64 Jn.hd)).setCell 4 (.int .i64 Jn.us)).setCell 5 (.slice (some ⟨ng, 0, none⟩) 12 12))
            have dN := ((((((Hd1.out.setCell ⟨wb, 0, none⟩ (.int .u32 Jn.ep)).setCell ⟨wb, 1, none⟩ (.int .u64 Jn.st)).setCell ⟨wb, 2, none⟩ (.int .u64 Jn.sq)).setCell ⟨wb, 3, none⟩ (.int .i64 Jn.hd)).setCell ⟨wb, 4, none⟩ (.int .i64 Jn.us)).setCell ⟨wb, 5, none⟩ (.slice (some ⟨ng, 0, none⟩) 12 12))
            have HN := SL.hid hN; have HdN := SL.hid dN
            clear hN dN Hh1 Hd1 Hb1 Hb2 Hbv
            go_wp2_with fail
            go_meet
            have HN2 : Sat _ (pt wb (.cells #[.int .u32 Jn.ep, .int .u64 Jn.st, .int .u64 Jn.sq, .int .i64 Jn.hd, .int .i64 Jn.us, .slice (some ⟨ng, 0, none⟩) 12 12] 35 (0, 0)) * (pt ob (.cells #[.int .u32 Jo.ep, .int .u64 Jo.st, .int .u64 Jo.sq, .int .i64 Jo.hd, .int .i64 Jo.us, .slice (some ⟨og, 0, none⟩) 12 12] 35 (0, 0)) * (pt sb (.cells #[.int .u32 ep, .int .u64 (Jn.sq + 1), .int .u64 Jn.sq, .int .i64 Jn.hd, .int .i64 us, .slice (some ⟨g, 0, none⟩) 12 12] 35 (0, 0)) * (pt g (.cells (ints (Jr.ats Jn)) 3 (0, 0)) * (devA S d Da * (pool S * (pt nb (.cells #[.int .u32 Jn.ep, .int .u64 Jn.st, .int .u64 Jn.sq, .int .i64 Jn.hd, .int .i64 Jn.us, .slice (some ⟨ng, 0, none⟩) 12 12] 35 (0, 0)) * (pt ng (.cells (ints (Jr.ats Jn)) 3 (0, 0)) * (rowsL u11 RW 12 * (rowsL u12 RN 12 * (Bk * (pt og (.cells (ints (Jr.ats Jo)) 3 (0, 0)) * whole w)))))))))))) := HN.out.to (by ac_rfl)
            exact ⟨ng, RN, HRN.out, (HN2.to (by unfold StO; ac_rfl : _ = (pt ob (.cells #[.int .u32 Jo.ep, .int .u64 Jo.st, .int .u64 Jo.sq, .int .i64 Jo.hd, .int .i64 Jo.us, .slice (some ⟨og, 0, none⟩) 12 12] 35 (0, 0)) * (pt nb (.cells #[.int .u32 Jn.ep, .int .u64 Jn.st, .int .u64 Jn.sq, .int .i64 Jn.hd, .int .i64 Jn.us, .slice (some ⟨ng, 0, none⟩) 12 12] 35 (0, 0)) * (pt og (.cells (ints (Jr.ats Jo)) 3 (0, 0)) * rowsL u11 RW 12))) * (pt wb (StO Jn ng) * (pt ng (.cells (ints (Jr.ats Jn)) 3 (0, 0)) * (rowsL u12 RN 12 * (Bk * (pt sb (.cells #[.int .u32 ep, .int .u64 (Jn.sq + 1), .int .u64 Jn.sq, .int .i64 Jn.hd, .int .i64 us, .slice (some ⟨g, 0, none⟩) 12 12] 35 (0, 0)) * (pt g (.cells (ints (Jr.ats Jn)) 3 (0, 0)) * (devA S d Da * (pool S * whole w)))))))))).right, HdN.out⟩
          | false =>
            obtain ⟨_, rfl, rfl⟩ := Hb2.out rfl
            have hz0 : ¬ (z : Int) = 0 := by have := (Hb2.out rfl).1; omega
            clear Hb1 Hb2 Hbv
            go_wp2_with fail
            go_meet
            exact ⟨og, RW, HRW.out, (Hh1.out.to (by unfold StO; ac_rfl : _ = (pt ob (.cells #[.int .u32 Jn.ep, .int .u64 Jn.st, .int .u64 Jn.sq, .int .i64 Jn.hd, .int .i64 Jn.us, .slice (some ⟨og, 0, none⟩) 12 12] 35 (0, 0)) * (pt nb (.cells #[.int .u32 J.ep, .int .u64 J.st, .int .u64 J.sq, .int .i64 J.hd, .int .i64 J.us, .slice (some ⟨ng, 0, none⟩) 12 12] 35 (0, 0)) * (pt ng (.cells (ints (Jr.ats J)) 3 (0, 0)) * rowsL u12 RN 12))) * (pt wb (StO Jn og) * (pt og (.cells (ints (Jr.ats Jn)) 3 (0, 0)) * (rowsL u11 RW 12 * (Bk * (pt sb (.cells #[.int .u32 ep, .int .u64 (Jn.sq + 1), .int .u64 Jn.sq, .int .i64 Jn.hd, .int .i64 us, .slice (some ⟨g, 0, none⟩) 12 12] 35 (0, 0)) * (pt g (.cells (ints (Jr.ats Jn)) 3 (0, 0)) * (devA S d Da * (pool S * whole w)))))))))).right, Hd1.out⟩
        case rest =>
          clear Hh1 Hd1
          obtain ⟨aw, Rn, hRn, hsat, hside⟩ := hcut
          unfold StO at hsat
          have k2 : wc.cell? ⟨wb, 2, none⟩ = some (.int .u64 Jn.sq) := hsat.cell 2
          have k5 : wc.cell? ⟨wb, 5, none⟩ = some (.slice (some ⟨aw, 0, none⟩) 12 12) := hsat.cell 5
          have s0 : wc.cell? ⟨sb, 0, none⟩ = some (.int .u32 ep) := hsat.front5.cell 0
          have s1 : wc.cell? ⟨sb, 1, none⟩ = some (.int .u64 (Jn.sq + 1)) := hsat.front5.cell 1
          have s2 : wc.cell? ⟨sb, 2, none⟩ = some (.int .u64 Jn.sq) := hsat.front5.cell 2
          have s3 : wc.cell? ⟨sb, 3, none⟩ = some (.int .i64 Jn.hd) := hsat.front5.cell 3
          have s4 : wc.cell? ⟨sb, 4, none⟩ = some (.int .i64 us) := hsat.front5.cell 4
          have s5 : wc.cell? ⟨sb, 5, none⟩ = some (.slice (some ⟨g, 0, none⟩) 12 12) := hsat.front5.cell 5
          have hats : (Jr.ats Jn).length = 12 := by rw [ats_length]; have h1 := HF2.out.told.inv.ok.ps; have h2 := HF2.out.told.jn; omega
          have hnew : Calls Tryz.prog 7 #[ptV d, .int .i64 160, .agg #[.int .u32 ep, .int .u64 (Jn.sq + 1), .int .u64 Jn.sq, .int .i64 Jn.hd, .int .i64 us, .slice (some ⟨g, 0, none⟩) 12 12]] wc (FouQ d Jn Da hn wc) := by
            have := fnew_any wc S d Jn Da hn _ hsat.front7 HF2.out ep (.slice (some ⟨g, 0, none⟩) 12 12) (.inr ⟨g, 0, 12, by rw [hats], by rw [hats]; exact Nat.le_refl _, by unfold maxLen; omega, fun k hk => by
              rw [Nat.zero_add]; exact (hsat.front6.cell k).trans (get_ints_lt hk)⟩) Hep.out.1 Hep.out.2
            rw [← Hus.out] at this
            exact this
          have Hs := SL.hid hsat; have Hats := SL.hid hats; have HRn := SL.hid hRn
          clear hsat hats hRn HRW HRN
          go_wp2_with fail
          clear k2 k5 s0 s1 s2 s3 s4 s5
          (with_reducible refine hnew.mono ?_)
          rintro e w13 ⟨k, K2, rfl, h13, d13, hK2, hKn⟩
          have H13 := h13.under Hs.out
          have D13 := hside.trans d13
          unfold rowsL at H13
          have H13b := H13.to (by ac_rfl : _ = sl 39 1 u31 12 (Rn.map Prod.fst) * (jrA k d K2 * (devA S d Da * (pool S * (pt wb (.cells #[.int .u32 Jn.ep, .int .u64 Jn.st, .int .u64 Jn.sq, .int .i64 Jn.hd, .int .i64 Jn.us, .slice (some ⟨aw, 0, none⟩) 12 12] 35 (0, 0)) * (pt aw (.cells (ints (Jr.ats Jn)) 3 (0, 0)) * (Bk * (pt sb (.cells #[.int .u32 ep, .int .u64 (Jn.sq + 1), .int .u64 Jn.sq, .int .i64 Jn.hd, .int .i64 us, .slice (some ⟨g, 0, none⟩) 12 12] 35 (0, 0)) * (pt g (.cells (ints (Jr.ats Jn)) 3 (0, 0)) * whole w)))))))))
          rcases H13b.slCases with ⟨_, h0, _⟩ | ⟨hg, cap, cur, rfl, h3, h4, h5, h6, hF⟩
          · omega
          obtain ⟨Y, hY⟩ : ∃ Y, Y = pt wb (.cells #[.int .u32 Jn.ep, .int .u64 Jn.st, .int .u64 Jn.sq, .int .i64 Jn.hd, .int .i64 Jn.us, .slice (some ⟨aw, 0, none⟩) 12 12] 35 (0, 0)) * (pt aw (.cells (ints (Jr.ats Jn)) 3 (0, 0)) * (pt hg (.cells cur 39 (0, 0)) * (Bk * (pt sb (.cells #[.int .u32 ep, .int .u64 (Jn.sq + 1), .int .u64 Jn.sq, .int .i64 Jn.hd, .int .i64 us, .slice (some ⟨g, 0, none⟩) 12 12] 35 (0, 0)) * (pt g (.cells (ints (Jr.ats Jn)) 3 (0, 0)) * whole w))))) := ⟨_, rfl⟩
          have H14 : Sat w13 (jrA k d K2 * (devA S d Da * (pool S * Y))) := hF.to (by rw [hY]; ac_rfl)
          have hcap12 : (12 : Int) ≤ (cap : Int) := by omega
          have hcapm : (cap : Int) ≤ 9223372036854775807 := by unfold maxLen at h4; omega
          have hcell : ∀ k, (hk : k < Rn.length) → cur[k]? = some Rn[k].1 := fun k hk => by
            have := congrArg (·[k]?) h6
            simp only [Nat.mul_one, List.getElem?_take, Array.getElem?_toList, List.getElem?_map] at this
            have hl := HRn.out.len
            rw [if_pos (by omega), List.getElem?_eq_getElem hk] at this
            exact this
          have hop : ∀ (w' : World) (A : Assn), Sat w' (A * Y) → w'.cell? ⟨wb, 5, none⟩ = some (.slice (some ⟨aw, 0, none⟩) 12 12) ∧ w'.cell? ⟨sb, 5, none⟩ = some (.slice (some ⟨g, 0, none⟩) 12 12) ∧ (∀ i, i < 12 → w'.cell? ⟨aw, i, none⟩ = some (.int .i64 ((Jr.ats Jn).getD i 0)) ∧ w'.cell? ⟨g, i, none⟩ = some (.int .i64 ((Jr.ats Jn).getD i 0))) ∧ (∀ i, w'.cell? ⟨hg, i, none⟩ = cur[i]?) ∧ ∃ B, Sat w' (Bk * B) := fun w' A h => by
            rw [hY] at h
            have h1 := h.right
            refine ⟨h1.cell 5, h1.front5.cell 5, fun i hi => ⟨(h1.front2.cell i).trans (get_ints_lt (by rw [Hats.out]; exact hi)), (h1.front6.cell i).trans (get_ints_lt (by rw [Hats.out]; exact hi))⟩, fun i => h1.front3.cell i, ⟨_, h1.front4⟩⟩
          have HY := SL.hid hY; have HK2 := SL.hid hK2; have HKn := SL.hid hKn; have HH14 := SL.hid H14; have HD13 := SL.hid D13; have Hcell := SL.hid hcell; have Hop := SL.hid hop
          clear hnew h13 d13 Hs H13 H13b hF hY hK2 hKn H14 D13 hside h3 h4 h5 h6 hcell hop
          go_wp2_with fail
          go_loopw [34] (fun u wr => L6Rel S k d K2 Da Y w u wr) (fun u _ => 12 - (intOf u).toNat)
          case atStart => exact ⟨0, Da.cr, Nat.zero_le _, rfl, HH14.out, HD13.out⟩
          case round =>
            clear HH14 HD13
            obtain ⟨i, r, hi, rfl, hsat, hside⟩ := hrel
            have hi' : (i : Int) ≤ 12 := by omega
            by_cases hlt : i < 12
            · have hlt' : (i : Int) < 12 := by omega
              have hrd := readI_any wr S k d K2 { Da with cr := r } Y hn hsat (HK2.out.cr r) (id := (i : Int)) (by omega) (by rw [HKn.out]; exact hlt')
              have Hside := SL.hid hside
              clear hsat hside
              go_wp2_with fail
              (with_reducible refine hrd.mono ?_)
              rintro e w10 ⟨dv, r2, rfl, h10, d10⟩
              have hiR : i < Rn.length := by rw [HRn.out.len]; exact hlt
              have hrow := HRn.out.of i Rn[i] (List.getElem?_eq_getElem hiR)
              obtain ⟨l, hl⟩ : ∃ l, l = (hn (i : Int)).getD (zs 480) := ⟨_, rfl⟩
              rw [← hl] at h10 hrow
              obtain ⟨BIG, hBIG⟩ : ∃ X, X = bs 5 dv l * (jrA k d K2 * (devA S d { Da with cr := r2 } * (pool S * Y))) := ⟨_, rfl⟩
              have H10 : Sat w10 BIG := hBIG ▸ h10
              have HB := SL.hid hBIG
              obtain ⟨xv, hxv⟩ : ∃ x, x = Rn[i].1 := ⟨_, rfl⟩
              have hopB : ∀ w', Sat w' BIG → Sat w' ((bs 5 dv l * (jrA k d K2 * (devA S d { Da with cr := r2 } * pool S))) * Y) := fun w' h => h.to (by rw [HB.out]; ac_rfl)
              have cx : ∀ w', Sat w' BIG → (convert 39 9 dv).run Tryz.prog w' = .ok (.string (str l)) w' := fun w' h => run_text w' dv _ (HB.out ▸ h).bsRd
              have cy : ∀ w', Sat w' BIG → (convert 39 9 xv).run Tryz.prog w' = .ok (.string (str l)) w' := fun w' h => by
                obtain ⟨B, hB⟩ := (Hop.out w' _ (hopB w' h)).2.2.2.2
                have := HRn.out.keep.get hB hiR
                rw [hrow, ← hxv] at this
                exact run_text w' xv _ this
              have cz : ∀ w', Sat w' BIG → w'.cell? ⟨hg, i, none⟩ = some xv := fun w' h => by
                rw [hxv]; exact ((Hop.out w' _ (hopB w' h)).2.2.2.1 i).trans (Hcell.out i hiR)
              have c5 : ∀ w', Sat w' BIG → w'.cell? ⟨wb, 5, none⟩ = some (.slice (some ⟨aw, 0, none⟩) 12 12) := fun w' h => (Hop.out w' _ (hopB w' h)).1
              have d5 : ∀ w', Sat w' BIG → w'.cell? ⟨sb, 5, none⟩ = some (.slice (some ⟨g, 0, none⟩) 12 12) := fun w' h => (Hop.out w' _ (hopB w' h)).2.1
              obtain ⟨v, hv⟩ : ∃ v, v = (Jr.ats Jn).getD i 0 := ⟨_, rfl⟩
              have c6 : ∀ w', Sat w' BIG → w'.cell? ⟨aw, i, none⟩ = some (.int .i64 v) := fun w' h => by rw [hv]; exact ((Hop.out w' _ (hopB w' h)).2.2.1 i hlt).1
              have d6 : ∀ w', Sat w' BIG → w'.cell? ⟨g, i, none⟩ = some (.int .i64 v) := fun w' h => by rw [hv]; exact ((Hop.out w' _ (hopB w' h)).2.2.1 i hlt).2
              have HD := SL.hid (Hside.out.trans d10)
              clear hrd h10 d10 hrow hl hBIG hxv hiR hopB hv
              go_wp2_with fail
              go_region_held (fun w' => Sat w' BIG) (first | assumption | exact H10.drew) (fail)
              all_goals
                go_wp2
                go_roundw
                case rel => exact ⟨i + 1, r2, by omega, by go_num, (HB.out ▸ H10.drew : Sat _ (bs 5 dv l * (jrA k d K2 * (devA S d { Da with cr := r2 } * (pool S * Y))))).right, HD.out.drew⟩
                case measure => simp [intOf]; omega
            · obtain rfl : i = 12 := by omega
              have hfin : Sat wr (whole w) := by
                have := hsat.right.right.right
                rw [HY.out] at this
                exact this.right.right.right.right.right.right
              have Hfin := SL.hid hfin
              clear hsat hfin
              go_wp2_with fail
              go_ret
              exact ⟨rfl, Hfin.out, hside⟩
end Go.Proofs.YtlfooilcngjeiaaGreat

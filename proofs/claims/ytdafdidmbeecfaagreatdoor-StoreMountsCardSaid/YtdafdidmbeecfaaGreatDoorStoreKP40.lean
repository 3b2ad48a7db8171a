/- Steps towards the statement StoreK. -/
import Derived.Test.YtdafdidmbeecfaaGreatDoorStoreKP39
section
namespace Go.Proofs.YtdafdidmbeecfaaGreatDoor.Su
set_option linter.unusedVariables false
set_option linter.unusedSimpArgs false
open Go.RowKit Go.SL Go.Proofs.YtdafdidmbeecfaaGreatDoor Go.Proofs.YtdafdidmbeecfaaGreatDoor.Ba Go.Proofs.YtdafdidmbeecfaaGreatDoor.Fs
theorem superD_zs : superD (zs 512) = none := by
 unfold superD
 rw [if_neg]
 rintro ⟨h, _⟩
 have h1 := (geoOk_iff.1 h).1
 have e : leV ((zs 512).drop 8) 4 = 0 := by
  have e1 : (zs 512).drop 8 = zs 504 := by unfold zs; rw [List.drop_replicate]
  have e2 : zs 504 = 0 :: 0 :: 0 :: 0 :: zs 500 := by unfold zs; rw [show 504 = 500 + 1 + 1 + 1 + 1 from rfl, List.replicate_succ, List.replicate_succ, List.replicate_succ, List.replicate_succ]
  rw [e1, e2]; rfl
 omega
theorem superD_blank {D : Dev} (h : Blank D) : NoSt D := by
 rcases h with h | h
 ·right; rw [h]; exact ⟨rfl, zs_len 512, .inl superD_zs⟩
 ·exact .inl h
theorem keepR_nilU (x : Dx) (S : Hp) (d : Nat) (D : Dev) (F : Assn) : KeepR x S d D F (.slice none 0 0) [] := ⟨none, 0, rfl, by decide, fun i hi => by simp at hi⟩
theorem crash_nilU (w : World) (S : Hp) (d : Nat) (D : Dev) (F : Assn) (h : Sat w (devA S d D * F)) (hD : D.Ok) :
  Calls Tryz.prog 28 #[ptV d, .slice none 0 0] w (DevQ S d (D.crash []) (.tuple #[]) F w) := by
 obtain ⟨x, hx⟩ := h.devEx
 exact crash_any w S d D x [] (.slice none 0 0) F hx hD (keepR_nilU x S d D F)
theorem one_batch {n id : Int} {l : List UInt8} (h0 : 0 ≤ id) (h1 : id < n) (hl : l.length = 480) : Batch n [(id, l)] := by
 refine ⟨by simp, by simp, fun x hx => ?_, fun x hx => ?_, by simp⟩
 ·obtain rfl : x = (id, l) := by simpa using hx
  exact ⟨h0, h1⟩
 ·obtain rfl : x = (id, l) := by simpa using hx
  exact hl
theorem bs_bj {w : World} {g : Nat} {n : Int} {F : Assn} (h : Sat w (pt g (.cells (u8s (bj n)) 5 (0, 0)) * F)) : Sat w (bs 5 (.slice (some ⟨g, 0, none⟩) 480 480) (bj n) * F) := by
 have h2 := Sat.slOf (n := 480) (cap := 480) (sz := 1) h (by omega) (by unfold maxLen; omega) (by rw [show (u8s (bj n)).size = (bj n).length by simp [u8s], bj_len])
 have e : (u8s (bj n)).toList.take (480 * 1) = (bj n).map SL.u8 := by
  have : (u8s (bj n)).toList = (bj n).map SL.u8 := by simp [u8s]
  rw [this, List.take_of_length_le (by rw [List.length_map, bj_len]; omega)]
 rw [e] at h2
 unfold bs
 rw [bj_len]; exact h2
def CommitBQ (S : Hp) (j d : Nat) (R : Int × Jr × Dev) (F : Assn) (w : World) (e : Ending) (w' : World) : Prop :=
 ∃ S', Ext S S' ∧ e = .returned (.int .i64 R.1) ∧ Sat w' (jrA j d R.2.1 * (devA S' d R.2.2 * (pool S' * F))) ∧ Side w w'
theorem commitB_any (w : World) (S : Hp) (j d : Nat) (J : Jr) (D : Dev) (F : Assn) (gb : Nat) (c id : Int) (h : Sat w (pt gb (.cells (u8s (bj c)) 5 (0, 0)) * (jrA j d J * (devA S d D * (pool S * F)))))
  (hJ : J.Ok) (hN : J.Nums) (hD : D.Ok) (h0 : 0 ≤ id) (h1 : id < J.n) :
  Calls Tryz.prog 19 #[ptV j, .slice (some ⟨w.heap.size, 0, none⟩) 1 1] (w.alloc (.cells #[.int .i64 id, .slice (some ⟨gb, 0, none⟩) 480 480] 57 (0, 0))) (CommitBQ S j d (jcommit J D true [(id, bj c)]) F w) := by
 have h2 := (bs_bj h).alloc (.cells #[.int .i64 id, .slice (some ⟨gb, 0, none⟩) 480 480] 57 (0, 0))
 refine (commit1_any _ S j d J D F w.heap.size id (some ⟨gb, 0, none⟩) 480 (bj c) h2 hJ hN hD (bj_len c) h0 h1).mono ?_
 rintro e w' ⟨S', hE, rfl, h3, d3⟩
 refine ⟨S', hE, rfl, (h3.to (by ac_rfl : _ = (pt w.heap.size (.cells #[.int .i64 id, .slice (some ⟨gb, 0, none⟩) 480 480] 57 (0, 0)) * bs 5 (.slice (some ⟨gb, 0, none⟩) 480 480) (bj c)) * (jrA j d (jcommit J D true [(id, bj c)]).2.1 * (devA S' d (jcommit J D true [(id, bj c)]).2.2 * (pool S' * F))))).right, ((Side.refl w).alloc _).trans d3⟩
set_option maxRecDepth 100000 in
set_option maxHeartbeats 8000000 in
theorem shown11_any (w : World) (hh : Half w) : Calls Tryz.prog 9 #[] w (ShownQ w) := by
 have hF : ∀ w' X, Sat w' (X * whole w) → Half w' := fun w' X h => hh.old h
 have HF := SL.hid hF
 clear hh hF
 have hg : geoOk 8 140 = true := by decide
 have hgn : geoOk 9 140 ≠ true := by decide
 go_enter Tryz.func9, Tryz.ntmps9
 go_wp2_with fail
 refine (new_any 141 (by omega) (by omega) w).mono ?_
 rintro e w1 ⟨d, rfl, h1, d1⟩
 have H1 : Sat w1 (devA NoB d (Dev.fresh 141) * (pool NoB * whole w)) := ((h1 NoB).poolEmp).to (by ac_rfl)
 have hm1 := mountNo_any w1 NoB d (Dev.fresh 141) (whole w) H1 (fresh_ok 141 (by omega)) ⟨rfl, rfl⟩ (by rw [devLen]; decide) (superD_blank (.inl (tells_fresh 141 0))) HF.out
 clear h1 H1
 go_wp2_with fail
 (with_reducible refine hm1.mono ?_)
 rintro e w2 ⟨rfl, h2, d2⟩
 have hfok : (Dev.fresh 141).Ok := fresh_ok 141 (by omega)
 have hfk := Dev.flush_keeps hfok
 rw [show (Dev.fresh 141).flush = (0, (Dev.fresh 141).flushed) from (Dev.Calm.flush ⟨rfl, rfl⟩)] at hfk
 have hok1 : ({ (Dev.fresh 141).flushed with cr := i64w ((Dev.fresh 141).cr + 1) } : Dev).Ok := cr_ok (hfk.ok hfok (by have := hfok.many; omega)) _
 have hc1 : ({ (Dev.fresh 141).flushed with cr := i64w ((Dev.fresh 141).cr + 1) } : Dev).Calm := cr_calm (flushed_calm ⟨rfl, rfl⟩) _
 have hw1 : ({ (Dev.fresh 141).flushed with cr := i64w ((Dev.fresh 141).cr + 1) } : Dev).wait = [] := rfl
 have hs1 : ({ (Dev.fresh 141).flushed with cr := i64w ((Dev.fresh 141).cr + 1) } : Dev).sec.length = 140 + 1 := by
  show (Dev.fresh 141).flushed.sec.length = _
  rw [(flushed_counts _).2.2.2, devLen]
 generalize ({ (Dev.fresh 141).flushed with cr := i64w ((Dev.fresh 141).cr + 1) } : Dev) = D1 at h2 hok1 hc1 hw1 hs1
 have hfm : Calls Tryz.prog 14 #[ptV d, .int .i64 8] w2 (FormatQ NoB d 8 140 D1 none (whole w) w2) := format_any w2 NoB d 8 140 D1 none (whole w) (by rw [wth_none]; exact h2) hok1 hc1 (by rw [hw1]; simp) hg hs1 arOk_none HF.out
 have D2 := SL.hid (d1.trans d2)
 clear hm1 h2 d1 d2 hfok hfk hok1 hc1 hw1
 go_wp2_with fail
 (with_reducible refine hfm.mono ?_)
 rintro e w3 hq
 rcases hq with ⟨E, hne, _⟩ | ⟨s, j, S3, D3, o3, hE3, rfl, h3, d3, hok3⟩
 ·exact absurd rfl hne
 have ho3 := hok3.ar.none rfl
 subst ho3
 rw [wth_none] at h3
 have c0 : w3.cell? ⟨s, 0, none⟩ = some (ptV j) := (h3.to (by unfold stoA; ac_rfl : _ = pt s (.cells #[ptV j, .int .i64 ((8 : Nat) : Int), .int .i64 ((140 : Nat) : Int)] 42 (0, 0)) * (jrA j d (J0 140 8) * (devA S3 d D3 * (pool S3 * whole w))))).cell 0
 have Hs1 := SL.hid hs1
 have H5 := SL.hid h3; have D5 := SL.hid (D2.out.trans d3); have Hok3 := SL.hid hok3
 have hJ := hok3.sj.jt.inv.ok; have hN := hok3.sj.jt.inv.nums; have hD3 := hok3.sj.jt.inv.dok
 have hcb : ∀ (w6 : World) (gb : Nat), Sat w6 (pt gb (.cells (u8s (bj 1)) 5 (0, 0)) * (stoA s j d 8 140 (J0 140 8) * (devA S3 d D3 * (pool S3 * whole w)))) →
   Calls Tryz.prog 19 #[ptV j, .slice (some ⟨w6.heap.size, 0, none⟩) 1 1] (w6.alloc (.cells #[.int .i64 5, .slice (some ⟨gb, 0, none⟩) 480 480] 57 (0, 0))) (CommitBQ S3 j d (jcommit (J0 140 8) D3 true [((5 : Int), bj 1)]) (pt s (.cells #[ptV j, .int .i64 ((8 : Nat) : Int), .int .i64 ((140 : Nat) : Int)] 42 (0, 0)) * whole w) w6) := fun w6 gb hb =>
  commitB_any w6 S3 j d (J0 140 8) D3 _ gb 1 5 (hb.to (by unfold stoA; ac_rfl)) hJ hN hD3 (by decide) (by rw [J0_n]; decide)
 clear hfm h3 d3 D2 hok3 hJ hN hD3 hs1
 go_upto_region 8 with (fail)
 refine wp_region_held_drew (S := (fun w' => w'.cell? ⟨s, 0, none⟩ = some (ptV j))) (by kernel_rfl) ?_ (fun hHeld => ?_)
 ·first | exact c0 | exact kb | exact cell_alloc _ _ _ _ kb | exact kc | assumption
 refine wpAnyH_take (i := 0) (v := ?_) rfl (by kernel_rfl) (by kernel_rfl) (by kernel_rfl) (fun _ _ _ h => h) (Or.inl ⟨by kernel_rfl, ?_⟩) (by assumption) ?_
 rotate_left
 ·intro w hSw; (try dsimp only at hSw); go_simp; try with_reducible rfl
 try simp only [List.getElem_toArray, List.getElem_cons_succ, List.getElem_cons_zero, Act.put, List.setIfInBounds_toArray, List.set_cons_zero, List.set_cons_succ]
 refine wpAnyH_take (i := 1) (v := ?_) rfl (by kernel_rfl) (by kernel_rfl) (by kernel_rfl) (fun _ _ _ h => h) (Or.inl ⟨by kernel_rfl, ?_⟩) (by assumption) ?_
 rotate_left
 ·intro w hSw; (try dsimp only at hSw); go_simp; try with_reducible rfl
 try simp only [List.getElem_toArray, List.getElem_cons_succ, List.getElem_cons_zero, Act.put, List.setIfInBounds_toArray, List.set_cons_zero, List.set_cons_succ]
 refine wpAnyH_take (i := 2) (v := ?_) rfl (by kernel_rfl) (by kernel_rfl) (by kernel_rfl) (fun _ _ _ h => h) (Or.inl ⟨by kernel_rfl, ?_⟩) (by assumption) ?_
 rotate_left
 ·intro w hSw; (try dsimp only at hSw); go_simp; try with_reducible rfl
 try simp only [List.getElem_toArray, List.getElem_cons_succ, List.getElem_cons_zero, Act.put, List.setIfInBounds_toArray, List.set_cons_zero, List.set_cons_succ]
 refine wpAnyH_take (i := 3) (v := ?_) rfl (by kernel_rfl) (by kernel_rfl) (by kernel_rfl) (fun _ _ _ h => h) (Or.inl ⟨by kernel_rfl, ?_⟩) (by assumption) ?_
 rotate_left
 ·intro w hSw; (try dsimp only at hSw); go_simp; try with_reducible rfl
 try simp only [List.getElem_toArray, List.getElem_cons_succ, List.getElem_cons_zero, Act.put, List.setIfInBounds_toArray, List.set_cons_zero, List.set_cons_succ]
 refine wpAnyH_ready (rs := [4]) (by kernel_rfl) (by simp) ?_
 refine AllReadyH.cons rfl (fun K hK => ?_) AllReadyH.nil
 go_simp
 go_wp2_with (go_at_call 31; (with_reducible refine (block11_any _ _).mono ?_); rintro e w6 ⟨gb, rfl, hb, db⟩; have HBA := hb.under H5.out.drew; have DB := D5.out.drew.trans db; have kb : w6.cell? ⟨s, 0, none⟩ = some (ptV j) := (HBA.front2.to (SL.star_assoc _ _ _)).cell 0)
 refine hK.out _ _ ?_ (fun hHeld => ?_)
 ·first | exact c0 | exact kb | exact cell_alloc _ _ _ _ kb | exact kc | assumption
 clear hK K
 refine wpAnyH_take (i := 5) (v := ?_) rfl (by kernel_rfl) (by kernel_rfl) (by kernel_rfl) (fun _ _ _ h => h) (Or.inl ⟨by kernel_rfl, ?_⟩) (by assumption) ?_
 rotate_left
 ·intro w hSw; (try dsimp only at hSw); go_simp; try with_reducible rfl
 try simp only [List.getElem_toArray, List.getElem_cons_succ, List.getElem_cons_zero, Act.put, List.setIfInBounds_toArray, List.set_cons_zero, List.set_cons_succ]
 refine wpAnyH_ready (rs := [6]) (by kernel_rfl) (by simp) ?_
 refine AllReadyH.cons rfl (fun K hK => ?_) AllReadyH.nil
 go_simp
 refine hK.out _ _ ?_ (fun hHeld => ?_)
 ·first | exact c0 | exact kb | exact cell_alloc _ _ _ _ kb | exact kc | assumption
 clear hK K
 refine wpAnyH_ready (rs := [7]) (by kernel_rfl) (by simp) ?_
 refine AllReadyH.cons rfl (fun K hK => ?_) AllReadyH.nil
 go_simp
 go_wp2_with (go_at_call 19; go_loud ((with_reducible refine (hcb w6 gb HBA).mono ?_); rintro e w7 ⟨S7, hE7, rfl, h7, d7⟩; have kc : w7.cell? ⟨s, 0, none⟩ = some (ptV j) := h7.front4.cell 0))
 refine hK.out _ _ ?_ (fun hHeld => ?_)
 ·first | exact c0 | exact kb | exact cell_alloc _ _ _ _ kb | exact kc | assumption
 clear hK K
 refine wpAnyH_take (i := 8) (v := ?_) rfl (by kernel_rfl) (by kernel_rfl) (by kernel_rfl) (fun _ _ _ h => h) (Or.inl ⟨by kernel_rfl, ?_⟩) (by assumption) ?_
 rotate_left
 ·intro w hSw; (try dsimp only at hSw); go_simp; try with_reducible rfl
 try simp only [List.getElem_toArray, List.getElem_cons_succ, List.getElem_cons_zero, Act.put, List.setIfInBounds_toArray, List.set_cons_zero, List.set_cons_succ]
 refine wpAnyH_done (by kernel_rfl) ?_ _
 have hP2 : 5 * 8 + 240 ≤ 2 * 140 := by decide
 have hbt : Batch ((8 : Nat) : Int) [((5 : Int), bj 1)] := one_batch (by decide) (by decide) (bj_len 1)
 obtain ⟨hcm, hsj4⟩ := Hok3.out.sj.commit hP2 (by decide) hbt
 have hsq4 : ((J0 140 8).done ([((5 : Int), bj 1)] ++ movB (J0 140 8) noH [((5 : Int), bj 1)]) ((J0 140 8).cleaned [((5 : Int), bj 1)].length)).sq = 1 := rfl
 have hs4 : (devC (J0 140 8) D3 noH [((5 : Int), bj 1)]).sec.length = 140 + 1 := by
  show D3.flushed.sec.length = _
  rw [(flushed_counts _).2.2.2, Hok3.out.sec]; exact Hs1.out
 rw [hcm] at h7
 rw [hcm]
 generalize (J0 140 8).done ([((5 : Int), bj 1)] ++ movB (J0 140 8) noH [((5 : Int), bj 1)]) ((J0 140 8).cleaned [((5 : Int), bj 1)].length) = J4 at h7 hsj4 hsq4
 generalize devC (J0 140 8) D3 noH [((5 : Int), bj 1)] = D4 at h7 hsj4 hs4
 have h8 : Sat w7 (stoA s j d 8 140 J4 * (devA S7 d D4 * (pool S7 * whole w))) := h7.to (by unfold stoA; ac_rfl)
 have hsy := sync_any w7 S7 s j d 8 140 J4 D4 _ h8 hsj4.jt.inv.dok
 have hfl : J4.flush D4 = (0, J4, D4.flushed) := by
  rcases flush_armed hsj4.jt.inv arOk_none with ⟨_, h⟩ | ⟨⟨K, hK⟩, _⟩
  ·exact h
  ·cases hK
 rw [hfl] at hsy
 have D7 := SL.hid (DB.trans d7)
 clear h7 h8 kc kb hcb hcm hHeld HBA hb db hfl H5 D5 c0
 go_wp2_with fail
 (with_reducible refine hsy.mono ?_)
 rintro e w8 ⟨rfl, h8, d8⟩
 have hsj5 : Sj 8 140 2 (superE 8 140) J4 D4.flushed (updB noH [((5 : Int), bj 1)]) := hsj4.flushed
 have hw5 : D4.flushed.wait = [] := rfl
 have hs5 : D4.flushed.sec.length = 140 + 1 := (flushed_counts _).2.2.2.trans hs4
 generalize D4.flushed = D5 at h8 hsj5 hw5 hs5
 have hcr := crash_nilU w8 S7 d D5 _ (h8.to (by ac_rfl : _ = devA S7 d D5 * (pool S7 * (stoA s j d 8 140 J4 * whole w)))) hsj5.jt.inv.dok
 have D8 := SL.hid (D7.out.trans d8)
 clear hsy h8 d8 hsj4 hs4 D7
 go_wp2_with fail
 (with_reducible refine hcr.mono ?_)
 rintro e w9 ⟨rfl, h9, d9⟩
 have hst := start_any w9 S7 d (D5.crash []) _ h9
 have hse : Dev.start (D5.crash []) = (0, Dev.again D5 []) := rfl
 rw [hse] at hst
 have D9 := SL.hid (D8.out.trans d9)
 clear hcr h9 d9 D8 hse
 go_wp2_with fail
 (with_reducible refine hst.mono ?_)
 rintro e w10 ⟨rfl, h10, d10⟩
 have hM6 : Mnt 8 140 2 (superE 8 140) J4 (Dev.again D5 []) (updB noH [((5 : Int), bj 1)]) := hsj5.mnt.dry hw5
 have hs6 : (Dev.again D5 []).sec.length = 140 + 1 := (again_okS hsj5.jt.inv.dok).2.trans hs5
 generalize Dev.again D5 [] = D6 at h10 hM6 hs6
 have hmt : Calls Tryz.prog 12 #[ptV d] w10 (MountQ S7 d 8 140 2 (superE 8 140) J4 D6 (updB noH [((5 : Int), bj 1)]) none (stoA s j d 8 140 J4 * whole w) w10) := mount_any w10 S7 d 8 140 2 J4 D6 _ none _ (by rw [wth_none]; exact h10) hM6 (by decide) hg hs6 arOk_none (fun w' X hx => HF.out w' (X * stoA s j d 8 140 J4) (hx.to (by ac_rfl)))
 have D10 := SL.hid (D9.out.trans d10)
 clear hst h10 d10 D9 hM6 hsj5 hw5 hs5
 go_wp2_with fail
 (with_reducible refine hmt.mono ?_)
 rintro e w11 hq
 rcases hq with ⟨E, hne, _⟩ | ⟨t, k, S11, J7, D7, has7, o7, hE11, rfl, h11, d11, hok7⟩
 ·exact absurd rfl hne
 have ho7 := hok7.ar.none rfl
 subst ho7
 rw [wth_none] at h11
 have hsq7 : J7.sq = 2 := by rw [hok7.sq, hsq4]; rfl
 have hrd7 : rdH has7 5 = bj 1 := by
  rw [hok7.same 5]
  show (kget [((5 : Int), bj 1)] 5).getD _ = _
  rfl
 have h11' : Sat w11 (jrA k d J7 * (devA S11 d D7 * (pool S11 * (pt t (.cells #[ptV k, .int .i64 ((8 : Nat) : Int), .int .i64 ((140 : Nat) : Int)] 42 (0, 0)) * (stoA s j d 8 140 J4 * whole w))))) := h11.to (by unfold stoA; ac_rfl)
 have c0 : w11.cell? ⟨t, 0, none⟩ = some (ptV k) := h11'.front4.cell 0
 have hI7 := hok7.sj.jt.inv
 have hrd : Calls Tryz.prog 21 #[ptV k, .int .i64 5] w11 (LoadQ S11 k d (J7.read D7 5) (pt t (.cells #[ptV k, .int .i64 ((8 : Nat) : Int), .int .i64 ((140 : Nat) : Int)] 42 (0, 0)) * (stoA s j d 8 140 J4 * whole w)) w11) := jread_any w11 S11 k d J7 D7 5 _ h11' hI7.ok hI7.dok
 obtain ⟨r, hR⟩ : ∃ r, J7.read D7 5 = ((0, bj 1), J7, ({ D7 with cr := r } : Dev)) := by
  rcases read_armed hI7 arOk_none (id := 5) (by decide) (by rw [hok7.sj.jt.jn]; decide) with ⟨o', r, hA, hr, hR⟩ | ⟨J', hh, _⟩
  ·rw [hA.none rfl, hrd7] at hR
   exact ⟨r, hR⟩
  ·obtain ⟨K, hK⟩ := hh; cases hK
 rw [hR] at hrd
 have hs8 : ({ D7 with cr := r } : Dev).sec.length = 140 + 1 := by show D7.sec.length = _; rw [hok7.sec, hs6]
 generalize ({ D7 with cr := r } : Dev) = D8 at hrd hs8
 have hJ7 := hI7.ok
 have D11 := SL.hid (D10.out.trans d11)
 clear h11 h11' d11 D10 hmt hR hI7 hok7 hrd7 hs6 hsq4
 go_wp2_with fail
 (with_reducible refine hrd.mono ?_)
 rintro e w12 ⟨dv, rfl, h12, d12⟩
 have hb12 := h12.ansYes
 obtain ⟨va, vc, rfl⟩ := hb12.bsRd.shape
 rw [bj_len] at hb12 ⊢
 have hfn : Calls Tryz.prog 14 #[ptV d, .int .i64 9] w12 (FmtNo w12) := formatNo_any w12 S11 d 140 D8 9 _ (h12.to (by ac_rfl : _ = devA S11 d D8 * (ansA 5 (0, bj 1) (.slice va 480 vc) * (jrA k d J7 * (pool S11 * (pt t (.cells #[ptV k, .int .i64 ((8 : Nat) : Int), .int .i64 ((140 : Nat) : Int)] 42 (0, 0)) * (stoA s j d 8 140 J4 * whole w))))))) hs8 (by decide) hgn
 have H12 := SL.hid hb12; have D12 := SL.hid (D11.out.trans d12)
 clear hrd h12 hb12 d12 D11
 go_wp2_with fail
 (with_reducible refine hfn.mono ?_)
 rintro e w13 ⟨rfl, h13, d13⟩
 obtain ⟨BIG, hBIG⟩ : ∃ X, X = bs 5 (.slice va 480 vc) (bj 1) * (stoA t k d 8 140 J7 * (devA S11 d D8 * (pool S11 * (stoA s j d 8 140 J4 * whole w)))) := ⟨_, rfl⟩
 have H13 : Sat w13 BIG := by rw [hBIG]; unfold stoA; exact (h13.keepW H12.out).to (by unfold stoA; ac_rfl)
 have HB := SL.hid hBIG
 have D13 := SL.hid (D12.out.trans d13)
 have cx : ∀ w', Sat w' BIG → (convert 22 9 (.slice va 480 vc)).run Tryz.prog w' = .ok (.string (str (bj 1))) w' := fun w' h => run_textU w' _ _ (HB.out ▸ h).bsRd
 have hge : ∀ w', Sat w' BIG → Calls Tryz.prog 15 #[ptV t] w' (GeomQ 8 140 w') := fun w' h => geom_any w' t k d 8 140 J7 _ (h.to (by rw [HB.out]; ac_rfl : _ = stoA t k d 8 140 J7 * (bs 5 (.slice va 480 vc) (bj 1) * (devA S11 d D8 * (pool S11 * (stoA s j d 8 140 J4 * whole w))))))
 have hsq : ∀ w', Sat w' BIG → Calls Tryz.prog 16 #[ptV t] w' (fun e w2 => e = .returned (.int .u64 2) ∧ Sat w2 BIG ∧ Side w' w2) := fun w' h => (seq_any w' t k d 8 140 J7 _ (h.to (by rw [HB.out]; ac_rfl : _ = stoA t k d 8 140 J7 * (bs 5 (.slice va 480 vc) (bj 1) * (devA S11 d D8 * (pool S11 * (stoA s j d 8 140 J4 * whole w)))))) hJ7).mono fun e w2 ⟨a, b, c⟩ => ⟨by rw [a, hsq7], b.to (by rw [HB.out]; ac_rfl), c⟩
 clear hfn h13 d13 H12 D12 hBIG
 go_upto_region 17 with (fail)
 refine wp_region_held_drew (S := (fun w' => Sat w' BIG)) (by kernel_rfl) ?_ (fun hHeld => ?_)
 ·first | exact H13.drew | exact H13 | exact HBA | exact HG3 | exact HQ | assumption
 refine wpAnyH_take (i := 0) (v := ?_) rfl (by kernel_rfl) (by kernel_rfl) (by kernel_rfl) (fun _ _ _ h => h) (Or.inl ⟨by kernel_rfl, ?_⟩) (by assumption) ?_
 rotate_left
 ·intro w hSw; (try dsimp only at hSw); go_simp; try with_reducible rfl
 try simp only [List.getElem_toArray, List.getElem_cons_succ, List.getElem_cons_zero, Act.put, List.setIfInBounds_toArray, List.set_cons_zero, List.set_cons_succ]
 refine wpAnyH_take (i := 1) (v := ?_) rfl (by kernel_rfl) (by kernel_rfl) (by kernel_rfl) (fun _ _ _ h => h) (Or.inl ⟨by kernel_rfl, ?_⟩) (by assumption) ?_
 rotate_left
 ·intro w hSw; (try dsimp only at hSw); go_simp; try with_reducible rfl
 try simp only [List.getElem_toArray, List.getElem_cons_succ, List.getElem_cons_zero, Act.put, List.setIfInBounds_toArray, List.set_cons_zero, List.set_cons_succ]
 refine wpAnyH_take (i := 2) (v := ?_) rfl (by kernel_rfl) (by kernel_rfl) (by kernel_rfl) (fun _ _ _ h => h) (Or.inl ⟨by kernel_rfl, ?_⟩) (by assumption) ?_
 rotate_left
 ·intro w hSw; (try dsimp only at hSw); go_simp; try with_reducible rfl
 try simp only [List.getElem_toArray, List.getElem_cons_succ, List.getElem_cons_zero, Act.put, List.setIfInBounds_toArray, List.set_cons_zero, List.set_cons_succ]
 refine wpAnyH_take (i := 3) (v := ?_) rfl (by kernel_rfl) (by kernel_rfl) (by kernel_rfl) (fun _ _ _ h => h) (Or.inl ⟨by kernel_rfl, ?_⟩) (by assumption) ?_
 rotate_left
 ·intro w hSw; (try dsimp only at hSw); go_simp; try with_reducible rfl
 try simp only [List.getElem_toArray, List.getElem_cons_succ, List.getElem_cons_zero, Act.put, List.setIfInBounds_toArray, List.set_cons_zero, List.set_cons_succ]
 refine wpAnyH_take (i := 4) (v := ?_) rfl (by kernel_rfl) (by kernel_rfl) (by kernel_rfl) (fun _ _ _ h => h) (Or.inl ⟨by kernel_rfl, ?_⟩) (by assumption) ?_
 rotate_left
 ·intro w hSw; (try dsimp only at hSw); go_simp; try with_reducible rfl
 try simp only [List.getElem_toArray, List.getElem_cons_succ, List.getElem_cons_zero, Act.put, List.setIfInBounds_toArray, List.set_cons_zero, List.set_cons_succ]
 refine wpAnyH_take (i := 5) (v := ?_) rfl (by kernel_rfl) (by kernel_rfl) (by kernel_rfl) (fun _ _ _ h => h) (Or.inl ⟨by kernel_rfl, ?_⟩) (by assumption) ?_
 rotate_left
 ·intro w hSw; (try dsimp only at hSw); go_simp; try with_reducible rfl
 try simp only [List.getElem_toArray, List.getElem_cons_succ, List.getElem_cons_zero, Act.put, List.setIfInBounds_toArray, List.set_cons_zero, List.set_cons_succ]
 refine wpAnyH_take (i := 6) (v := ?_) rfl (by kernel_rfl) (by kernel_rfl) (by kernel_rfl) (fun _ _ _ h => h) (Or.inl ⟨by kernel_rfl, ?_⟩) (by assumption) ?_
 rotate_left
 ·intro w hSw; (try dsimp only at hSw); go_simp; try with_reducible rfl
 try simp only [List.getElem_toArray, List.getElem_cons_succ, List.getElem_cons_zero, Act.put, List.setIfInBounds_toArray, List.set_cons_zero, List.set_cons_succ]
 refine wpAnyH_take (i := 7) (v := ?_) rfl (by kernel_rfl) (by kernel_rfl) (by kernel_rfl) (fun _ _ _ h => h) (Or.inl ⟨by kernel_rfl, ?_⟩) (by assumption) ?_
 rotate_left
 ·intro w hSw; (try dsimp only at hSw); go_simp; try with_reducible rfl
 try simp only [List.getElem_toArray, List.getElem_cons_succ, List.getElem_cons_zero, Act.put, List.setIfInBounds_toArray, List.set_cons_zero, List.set_cons_succ]
 refine wpAnyH_take (i := 8) (v := ?_) rfl (by kernel_rfl) (by kernel_rfl) (by kernel_rfl) (fun _ _ _ h => h) (Or.inl ⟨by kernel_rfl, ?_⟩) (by assumption) ?_
 rotate_left
 ·intro w hSw; (try dsimp only at hSw); go_simp; try with_reducible rfl
 try simp only [List.getElem_toArray, List.getElem_cons_succ, List.getElem_cons_zero, Act.put, List.setIfInBounds_toArray, List.set_cons_zero, List.set_cons_succ]
 refine wpAnyH_take (i := 9) (v := ?_) rfl (by kernel_rfl) (by kernel_rfl) (by kernel_rfl) (fun _ _ _ h => h) (Or.inl ⟨by kernel_rfl, ?_⟩) (by assumption) ?_
 rotate_left
 ·intro w hSw; (try dsimp only at hSw); go_simp; try with_reducible rfl
 try simp only [List.getElem_toArray, List.getElem_cons_succ, List.getElem_cons_zero, Act.put, List.setIfInBounds_toArray, List.set_cons_zero, List.set_cons_succ]
 refine wpAnyH_take (i := 10) (v := ?_) rfl (by kernel_rfl) (by kernel_rfl) (by kernel_rfl) (fun _ _ _ h => h) (Or.inl ⟨by kernel_rfl, ?_⟩) (by assumption) ?_
 rotate_left
 ·intro w hSw; (try dsimp only at hSw); go_simp; try with_reducible rfl
 try simp only [List.getElem_toArray, List.getElem_cons_succ, List.getElem_cons_zero, Act.put, List.setIfInBounds_toArray, List.set_cons_zero, List.set_cons_succ]
 refine wpAnyH_take (i := 11) (v := ?_) rfl (by kernel_rfl) (by kernel_rfl) (by kernel_rfl) (fun _ _ _ h => h) (Or.inl ⟨by kernel_rfl, ?_⟩) (by assumption) ?_
 rotate_left
 ·intro w hSw; (try dsimp only at hSw); go_simp; try with_reducible rfl
 try simp only [List.getElem_toArray, List.getElem_cons_succ, List.getElem_cons_zero, Act.put, List.setIfInBounds_toArray, List.set_cons_zero, List.set_cons_succ]
 refine wpAnyH_take (i := 12) (v := ?_) rfl (by kernel_rfl) (by kernel_rfl) (by kernel_rfl) (fun _ _ _ h => h) (Or.inl ⟨by kernel_rfl, ?_⟩) (by assumption) ?_
 rotate_left
 ·intro w hSw; (try dsimp only at hSw); go_simp; try with_reducible rfl
 try simp only [List.getElem_toArray, List.getElem_cons_succ, List.getElem_cons_zero, Act.put, List.setIfInBounds_toArray, List.set_cons_zero, List.set_cons_succ]
 refine wpAnyH_take (i := 13) (v := ?_) rfl (by kernel_rfl) (by kernel_rfl) (by kernel_rfl) (fun _ _ _ h => h) (Or.inl ⟨by kernel_rfl, ?_⟩) (by assumption) ?_
 rotate_left
 ·intro w hSw; (try dsimp only at hSw); go_simp; try with_reducible rfl
 try simp only [List.getElem_toArray, List.getElem_cons_succ, List.getElem_cons_zero, Act.put, List.setIfInBounds_toArray, List.set_cons_zero, List.set_cons_succ]
 refine wpAnyH_take (i := 14) (v := ?_) rfl (by kernel_rfl) (by kernel_rfl) (by kernel_rfl) (fun _ _ _ h => h) (Or.inl ⟨by kernel_rfl, ?_⟩) (by assumption) ?_
 rotate_left
 ·intro w hSw; (try dsimp only at hSw); go_simp; try with_reducible rfl
 try simp only [List.getElem_toArray, List.getElem_cons_succ, List.getElem_cons_zero, Act.put, List.setIfInBounds_toArray, List.set_cons_zero, List.set_cons_succ]
 refine wpAnyH_take (i := 15) (v := ?_) rfl (by kernel_rfl) (by kernel_rfl) (by kernel_rfl) (fun _ _ _ h => h) (Or.inl ⟨by kernel_rfl, ?_⟩) (by assumption) ?_
 rotate_left
 ·intro w hSw; (try dsimp only at hSw); go_simp; try with_reducible rfl
 try simp only [List.getElem_toArray, List.getElem_cons_succ, List.getElem_cons_zero, Act.put, List.setIfInBounds_toArray, List.set_cons_zero, List.set_cons_succ]
 refine wpAnyH_take (i := 16) (v := ?_) rfl (by kernel_rfl) (by kernel_rfl) (by kernel_rfl) (fun _ _ _ h => h) (Or.inl ⟨by kernel_rfl, ?_⟩) (by assumption) ?_
 rotate_left
 ·intro w hSw; (try dsimp only at hSw); go_simp; try with_reducible rfl
 try simp only [List.getElem_toArray, List.getElem_cons_succ, List.getElem_cons_zero, Act.put, List.setIfInBounds_toArray, List.set_cons_zero, List.set_cons_succ]
 refine wpAnyH_take (i := 17) (v := ?_) rfl (by kernel_rfl) (by kernel_rfl) (by kernel_rfl) (fun _ _ _ h => h) (Or.inl ⟨by kernel_rfl, ?_⟩) (by assumption) ?_
 rotate_left
 ·intro w hSw; (try dsimp only at hSw); go_simp; try with_reducible rfl
 try simp only [List.getElem_toArray, List.getElem_cons_succ, List.getElem_cons_zero, Act.put, List.setIfInBounds_toArray, List.set_cons_zero, List.set_cons_succ]
 refine wpAnyH_take (i := 18) (v := ?_) rfl (by kernel_rfl) (by kernel_rfl) (by kernel_rfl) (fun _ _ _ h => h) (Or.inl ⟨by kernel_rfl, ?_⟩) (by assumption) ?_
 rotate_left
 ·intro w hSw; (try dsimp only at hSw); go_simp; try with_reducible rfl
 try simp only [List.getElem_toArray, List.getElem_cons_succ, List.getElem_cons_zero, Act.put, List.setIfInBounds_toArray, List.set_cons_zero, List.set_cons_succ]
 refine wpAnyH_take (i := 19) (v := ?_) rfl (by kernel_rfl) (by kernel_rfl) (by kernel_rfl) (fun _ _ _ h => h) (Or.inl ⟨by kernel_rfl, ?_⟩) (by assumption) ?_
 rotate_left
 ·intro w hSw; (try dsimp only at hSw); go_simp; try with_reducible rfl
 try simp only [List.getElem_toArray, List.getElem_cons_succ, List.getElem_cons_zero, Act.put, List.setIfInBounds_toArray, List.set_cons_zero, List.set_cons_succ]
 refine wpAnyH_take (i := 20) (v := ?_) rfl (by kernel_rfl) (by kernel_rfl) (by kernel_rfl) (fun _ _ _ h => h) (Or.inl ⟨by kernel_rfl, ?_⟩) (by assumption) ?_
 rotate_left
 ·intro w hSw; (try dsimp only at hSw); go_simp; try with_reducible rfl
 try simp only [List.getElem_toArray, List.getElem_cons_succ, List.getElem_cons_zero, Act.put, List.setIfInBounds_toArray, List.set_cons_zero, List.set_cons_succ]
 refine wpAnyH_ready (rs := [21]) (by kernel_rfl) (by simp) ?_
 refine AllReadyH.cons rfl (fun K hK => ?_) AllReadyH.nil
 go_simp
 go_wp2_with (go_at_call 31; (with_reducible refine (block11_any _ _).mono ?_); rintro e wb ⟨gb2, rfl, hb2, db2⟩; have HBA := (hb2.under H13.drew).right; have kb := run_textU _ _ _ (rd_bjU hb2); have DB := D13.out.drew.trans db2)
 refine hK.out _ _ ?_ (fun hHeld => ?_)
 ·first | exact H13.drew | exact H13 | exact HBA | exact HG3 | exact HQ | assumption
 clear hK K
 refine wpAnyH_ready (rs := [22]) (by kernel_rfl) (by simp) ?_
 refine AllReadyH.cons rfl (fun K hK => ?_) AllReadyH.nil
 go_simp
 refine hK.out _ _ ?_ (fun hHeld => ?_)
 ·first | exact H13.drew | exact H13 | exact HBA | exact HG3 | exact HQ | assumption
 clear hK K
 refine wpAnyH_take (i := 23) (v := ?_) rfl (by kernel_rfl) (by kernel_rfl) (by kernel_rfl) (fun _ _ _ h => h) (Or.inl ⟨by kernel_rfl, ?_⟩) (by assumption) ?_
 rotate_left
 ·intro w hSw; (try dsimp only at hSw); go_simp; try with_reducible rfl
 try simp only [List.getElem_toArray, List.getElem_cons_succ, List.getElem_cons_zero, Act.put, List.setIfInBounds_toArray, List.set_cons_zero, List.set_cons_succ]
 refine wpAnyH_take (i := 24) (v := ?_) rfl (by kernel_rfl) (by kernel_rfl) (by kernel_rfl) (fun _ _ _ h => h) (Or.inl ⟨by kernel_rfl, ?_⟩) (by assumption) ?_
 rotate_left
 ·intro w hSw; (try dsimp only at hSw); go_simp; try with_reducible rfl
 try simp only [List.getElem_toArray, List.getElem_cons_succ, List.getElem_cons_zero, Act.put, List.setIfInBounds_toArray, List.set_cons_zero, List.set_cons_succ]
 refine wpAnyH_take (i := 25) (v := ?_) rfl (by kernel_rfl) (by kernel_rfl) (by kernel_rfl) (fun _ _ _ h => h) (Or.inl ⟨by kernel_rfl, ?_⟩) (by assumption) ?_
 rotate_left
 ·intro w hSw; (try dsimp only at hSw); go_simp; try with_reducible rfl
 try simp only [List.getElem_toArray, List.getElem_cons_succ, List.getElem_cons_zero, Act.put, List.setIfInBounds_toArray, List.set_cons_zero, List.set_cons_succ]
 refine wpAnyH_take (i := 26) (v := ?_) rfl (by kernel_rfl) (by kernel_rfl) (by kernel_rfl) (fun _ _ _ h => h) (Or.inl ⟨by kernel_rfl, ?_⟩) (by assumption) ?_
 rotate_left
 ·intro w hSw; (try dsimp only at hSw); go_simp; try with_reducible rfl
 try simp only [List.getElem_toArray, List.getElem_cons_succ, List.getElem_cons_zero, Act.put, List.setIfInBounds_toArray, List.set_cons_zero, List.set_cons_succ]
 refine wpAnyH_take (i := 28) (v := ?_) rfl (by kernel_rfl) (by kernel_rfl) (by kernel_rfl) (fun _ _ _ h => h) (Or.inl ⟨by kernel_rfl, ?_⟩) (by assumption) ?_
 rotate_left
 ·intro w hSw; (try dsimp only at hSw); go_simp; try with_reducible rfl
 try simp only [List.getElem_toArray, List.getElem_cons_succ, List.getElem_cons_zero, Act.put, List.setIfInBounds_toArray, List.set_cons_zero, List.set_cons_succ]
 refine wpAnyH_ready (rs := [27]) (by kernel_rfl) (by simp) ?_
 refine AllReadyH.cons rfl (fun K hK => ?_) AllReadyH.nil
 go_simp
 go_wp2_with (go_at_call 15; (with_reducible refine (hge _ HBA).mono ?_); rintro e wg ⟨rfl, hg3, dg3⟩; have HG3 := hg3.keepW HBA; have DG := DB.trans dg3; unfold geV)
 refine hK.out _ _ ?_ (fun hHeld => ?_)
 ·first | exact H13.drew | exact H13 | exact HBA | exact HG3 | exact HQ | assumption
 clear hK K
 refine wpAnyH_take (i := 29) (v := ?_) rfl (by kernel_rfl) (by kernel_rfl) (by kernel_rfl) (fun _ _ _ h => h) (Or.inl ⟨by kernel_rfl, ?_⟩) (by assumption) ?_
 rotate_left
 ·intro w hSw; (try dsimp only at hSw); go_simp; try with_reducible rfl
 try simp only [List.getElem_toArray, List.getElem_cons_succ, List.getElem_cons_zero, Act.put, List.setIfInBounds_toArray, List.set_cons_zero, List.set_cons_succ]
 refine wpAnyH_take (i := 30) (v := ?_) rfl (by kernel_rfl) (by kernel_rfl) (by kernel_rfl) (fun _ _ _ h => h) (Or.inl ⟨by kernel_rfl, ?_⟩) (by assumption) ?_
 rotate_left
 ·intro w hSw; (try dsimp only at hSw); go_simp; try with_reducible rfl
 try simp only [List.getElem_toArray, List.getElem_cons_succ, List.getElem_cons_zero, Act.put, List.setIfInBounds_toArray, List.set_cons_zero, List.set_cons_succ]
 refine wpAnyH_take (i := 31) (v := ?_) rfl (by kernel_rfl) (by kernel_rfl) (by kernel_rfl) (fun _ _ _ h => h) (Or.inl ⟨by kernel_rfl, ?_⟩) (by assumption) ?_
 rotate_left
 ·intro w hSw; (try dsimp only at hSw); go_simp; try with_reducible rfl
 try simp only [List.getElem_toArray, List.getElem_cons_succ, List.getElem_cons_zero, Act.put, List.setIfInBounds_toArray, List.set_cons_zero, List.set_cons_succ]
 refine wpAnyH_take (i := 32) (v := ?_) rfl (by kernel_rfl) (by kernel_rfl) (by kernel_rfl) (fun _ _ _ h => h) (Or.inl ⟨by kernel_rfl, ?_⟩) (by assumption) ?_
 rotate_left
 ·intro w hSw; (try dsimp only at hSw); go_simp; try with_reducible rfl
 try simp only [List.getElem_toArray, List.getElem_cons_succ, List.getElem_cons_zero, Act.put, List.setIfInBounds_toArray, List.set_cons_zero, List.set_cons_succ]
 refine wpAnyH_take (i := 33) (v := ?_) rfl (by kernel_rfl) (by kernel_rfl) (by kernel_rfl) (fun _ _ _ h => h) (Or.inl ⟨by kernel_rfl, ?_⟩) (by assumption) ?_
 rotate_left
 ·intro w hSw; (try dsimp only at hSw); go_simp; try with_reducible rfl
 try simp only [List.getElem_toArray, List.getElem_cons_succ, List.getElem_cons_zero, Act.put, List.setIfInBounds_toArray, List.set_cons_zero, List.set_cons_succ]
 refine wpAnyH_take (i := 34) (v := ?_) rfl (by kernel_rfl) (by kernel_rfl) (by kernel_rfl) (fun _ _ _ h => h) (Or.inl ⟨by kernel_rfl, ?_⟩) (by assumption) ?_
 rotate_left
 ·intro w hSw; (try dsimp only at hSw); go_simp; try with_reducible rfl
 try simp only [List.getElem_toArray, List.getElem_cons_succ, List.getElem_cons_zero, Act.put, List.setIfInBounds_toArray, List.set_cons_zero, List.set_cons_succ]
 refine wpAnyH_take (i := 35) (v := ?_) rfl (by kernel_rfl) (by kernel_rfl) (by kernel_rfl) (fun _ _ _ h => h) (Or.inl ⟨by kernel_rfl, ?_⟩) (by assumption) ?_
 rotate_left
 ·intro w hSw; (try dsimp only at hSw); go_simp; try with_reducible rfl
 try simp only [List.getElem_toArray, List.getElem_cons_succ, List.getElem_cons_zero, Act.put, List.setIfInBounds_toArray, List.set_cons_zero, List.set_cons_succ]
 refine wpAnyH_take (i := 36) (v := ?_) rfl (by kernel_rfl) (by kernel_rfl) (by kernel_rfl) (fun _ _ _ h => h) (Or.inl ⟨by kernel_rfl, ?_⟩) (by assumption) ?_
 rotate_left
 ·intro w hSw; (try dsimp only at hSw); go_simp; try with_reducible rfl
 try simp only [List.getElem_toArray, List.getElem_cons_succ, List.getElem_cons_zero, Act.put, List.setIfInBounds_toArray, List.set_cons_zero, List.set_cons_succ]
 refine wpAnyH_ready (rs := [37]) (by kernel_rfl) (by simp) ?_
 refine AllReadyH.cons rfl (fun K hK => ?_) AllReadyH.nil
 go_simp
 go_wp2_with (go_at_call 16; (with_reducible refine (hsq _ HG3).mono ?_); rintro e wq ⟨rfl, HQ, dq⟩; have DQ := DG.trans dq)
 refine hK.out _ _ ?_ (fun hHeld => ?_)
 ·first | exact H13.drew | exact H13 | exact HBA | exact HG3 | exact HQ | assumption
 clear hK K
 refine wpAnyH_take (i := 38) (v := ?_) rfl (by kernel_rfl) (by kernel_rfl) (by kernel_rfl) (fun _ _ _ h => h) (Or.inl ⟨by kernel_rfl, ?_⟩) (by assumption) ?_
 rotate_left
 ·intro w hSw; (try dsimp only at hSw); go_simp; try with_reducible rfl
 try simp only [List.getElem_toArray, List.getElem_cons_succ, List.getElem_cons_zero, Act.put, List.setIfInBounds_toArray, List.set_cons_zero, List.set_cons_succ]
 refine wpAnyH_take (i := 39) (v := ?_) rfl (by kernel_rfl) (by kernel_rfl) (by kernel_rfl) (fun _ _ _ h => h) (Or.inl ⟨by kernel_rfl, ?_⟩) (by assumption) ?_
 rotate_left
 ·intro w hSw; (try dsimp only at hSw); go_simp; try with_reducible rfl
 try simp only [List.getElem_toArray, List.getElem_cons_succ, List.getElem_cons_zero, Act.put, List.setIfInBounds_toArray, List.set_cons_zero, List.set_cons_succ]
 refine wpAnyH_take (i := 40) (v := ?_) rfl (by kernel_rfl) (by kernel_rfl) (by kernel_rfl) (fun _ _ _ h => h) (Or.inl ⟨by kernel_rfl, ?_⟩) (by assumption) ?_
 rotate_left
 ·intro w hSw; (try dsimp only at hSw); go_simp; try with_reducible rfl
 try simp only [List.getElem_toArray, List.getElem_cons_succ, List.getElem_cons_zero, Act.put, List.setIfInBounds_toArray, List.set_cons_zero, List.set_cons_succ]
 refine wpAnyH_done (by kernel_rfl) ?_ _
 go_wp2_with fail
 go_ret
 exact ⟨rfl, (HQ.to (by rw [HB.out]; ac_rfl : _ = (bs 5 (.slice va 480 vc) (bj 1) * (stoA t k d 8 140 J7 * (devA S11 d D8 * (pool S11 * stoA s j d 8 140 J4)))) * whole w)).right, DQ⟩
end Go.Proofs.YtdafdidmbeecfaaGreatDoor.Su
end
section
namespace Go.Proofs.YtdafdidmbeecfaaGreatDoor.Su
set_option linter.unusedVariables false
set_option linter.unusedSimpArgs false
open Go.RowKit Go.SL Go.Proofs.YtdafdidmbeecfaaGreatDoor Go.Proofs.YtdafdidmbeecfaaGreatDoor.Ba Go.Proofs.YtdafdidmbeecfaaGreatDoor.Fs
def firstK (bl : List UInt8) (k : Nat) : List UInt8 := bl.take k ++ zs (512 - k)
theorem firstK_len {bl : List UInt8} {k : Nat} (h : k ≤ bl.length) (h2 : k ≤ 512) : (firstK bl k).length = 512 := by
 unfold firstK
 rw [List.length_append, List.length_take, zs_len]; omega
theorem firstK_set {bl : List UInt8} {k : Nat} (h : k < bl.length) (h2 : k < 512) : (firstK bl k).set k (bl.getD k 0) = firstK bl (k + 1) := by
 unfold firstK
 have hl : (bl.take k).length = k := by rw [List.length_take]; omega
 rw [List.set_append_right _ _ (by omega), hl, Nat.sub_self, show 512 - k = (512 - (k + 1)) + 1 by omega]
 unfold zs
 rw [List.replicate_succ, List.set_cons_zero, List.take_add_one, List.append_assoc]
 congr 1
 rw [List.getD, List.getElem?_eq_getElem h]
 rfl
theorem may_iff {n : Int} {P : Nat} (hP : P ≤ 19999) : geoOk n P = true ↔ 0 < leastI n ∧ leastI n ≤ (P : Int) := by
 rw [geoOk_iff]
 unfold leastI
 by_cases h : n < 4 ∨ 3840 < n
 ·rw [if_pos h]; omega
 ·rw [if_neg h]; omega
def Dev1 (m : Nat) (l : List UInt8) : Dev := { Dev.fresh m with cw := i64w ((Dev.fresh m).cw + 1), wait := [((0 : Int), l)] }
theorem dev1_tells {m : Nat} {l : List UInt8} (hl : l.length = 512) : (Dev1 m l).tells 0 = (0, l) ∧ ∀ p : Nat, (Dev1 m l).tells ((p : Int) + 1) = (0, zs 512) := by
 constructor
 ·unfold Dev.tells
  have : newest [((0 : Int), l)] 0 = some l := by
   have := newest_snoc [] ((0 : Int), l) 0
   rw [List.nil_append, if_pos rfl] at this
   exact this
  rw [show (Dev1 m l).wait = [((0 : Int), l)] from rfl, this]
  show ((0 : Int), padTo 512 l) = _
  rw [padTo_self hl]
 ·intro p
  rw [← tells_fresh m ((p : Int) + 1)]
  unfold Dev.tells
  have : newest [((0 : Int), l)] ((p : Int) + 1) = none := by
   have := newest_snoc [] ((0 : Int), l) ((p : Int) + 1)
   rw [List.nil_append, if_neg (by show ¬ ((0 : Int) = (p : Int) + 1); omega)] at this
   exact this
  rw [show (Dev1 m l).wait = [((0 : Int), l)] from rfl, this]
  rfl
theorem dev1_ok {m : Nat} {l : List UInt8} (h1 : 1 ≤ m) (h2 : m ≤ 20000) : (Dev1 m l).Ok := by
 have h := fresh_ok m h2
 refine ⟨h.n, fun x hx => ?_, by show [((0 : Int), l)].length ≤ _; simp, h.keep⟩
 obtain rfl : x = ((0 : Int), l) := by simpa [Dev1] using hx
 exact ⟨Int.le_refl _, by show (0 : Int) < ((Dev.fresh m).sec.length : Int); rw [devLen]; omega⟩
def FmMount (S : Hp) (d m : Nat) (F : Assn) (w : World) (e : Ending) (w' : World) : Prop :=
 ∃ v c S' D', (c = 0 ∧ (∃ s, v = ptV s) ∨ c = 4 ∧ v = .pointer none) ∧ e = .returned (.tuple #[v, .int .i64 c]) ∧ Ext S S' ∧ D'.Ok ∧ D'.Calm ∧ D'.wait = [] ∧ D'.sec.length = m ∧ Sat w' (devA S' d D' * (pool S' * F)) ∧ Side w w'
theorem fmMount_any (w : World) (S : Hp) (d m : Nat) (l : List UInt8) (F : Assn) (h1 : 1 ≤ m) (h2 : m ≤ 20000) (hl : l.length = 512) (h : Sat w (devA S d (Dev1 m l) * (pool S * F))) (hh : ∀ w' X, Sat w' (X * F) → Half w') :
  Calls Tryz.prog 12 #[ptV d] w (FmMount S d m F w) := by
 have hok := dev1_ok (l := l) h1 h2
 have hc : (Dev1 m l).Calm := ⟨rfl, rfl⟩
 have hs : (Dev1 m l).sec.length = m := devLen m
 obtain ⟨t0, tp⟩ := dev1_tells (m := m) hl
 by_cases hst : ∃ n P, superD l = some (n, P) ∧ P = (m : Int) - 1
 ·obtain ⟨n, P, hd, hP⟩ := hst
  obtain ⟨hg, he⟩ := superD_inv hd
  have hG := geoOk_iff.1 hg
  obtain ⟨n, rfl⟩ := Int.eq_ofNat_of_zero_le (by omega : 0 ≤ n)
  obtain ⟨P, rfl⟩ := Int.eq_ofNat_of_zero_le hG.2.2.1
  have hsj : Sj n P 1 (superE n P) (J0 P n) (Dev1 m l) noH := zero_sj (fun p hp => tp p) hok hc (by rw [hs]; omega) hg (by rw [t0, he]; rfl)
  refine (mount_any w S d n P 1 (J0 P n) (Dev1 m l) noH none F (by rw [wth_none]; exact h) hsj.mnt (by omega) hg (by rw [hs]; omega) arOk_none hh).mono ?_
  rintro e w2 (⟨E, hne, _⟩ | ⟨s, j, S', J', D', has', o', hE, rfl, h3, d3, hok3⟩)
  ·exact absurd rfl hne
  ·have ho' := hok3.ar.none rfl
   subst ho'
   rw [wth_none] at h3
   exact ⟨_, _, S', D', .inl ⟨rfl, s, rfl⟩, rfl, hE, hok3.sj.jt.inv.dok, hok3.sj.jt.inv.calm, hok3.dry, by rw [hok3.sec, hs], h3.right, d3⟩
 ·have hN : NoSt (Dev1 m l) := by
   right
   rw [t0]
   refine ⟨rfl, hl, ?_⟩
   cases hd : superD l with
   | none => exact .inl rfl
   | some p => exact .inr ⟨p.1, p.2, rfl, fun e => hst ⟨p.1, p.2, hd, by rw [e, hs]⟩⟩
  refine (mountNo_any w S d (Dev1 m l) F h hok hc (by rw [hs]; exact h1) hN hh).mono ?_
  rintro e w2 ⟨rfl, h3, d3⟩
  have hfk := Dev.flush_keeps hok
  rw [hc.flush] at hfk
  exact ⟨_, _, S, _, .inr ⟨rfl, rfl⟩, rfl, Ext.refl S, cr_ok (hfk.ok hok (by have := hok.many; omega)) _, cr_calm (flushed_calm hc) _, rfl, by show (Dev1 m l).flushed.sec.length = _; rw [(flushed_counts _).2.2.2, hs], h3, d3⟩
def FirstRel (zb n : Nat) (bl : List UInt8) (X : Assn) (w : World) (u : Value) (wr : World) : Prop :=
 ∃ k : Nat, k ≤ n ∧ k ≤ 512 ∧ u = .int .i64 (k : Int) ∧ Sat wr (pt zb (.cells (u8s (firstK bl k)) 5 (0, 0)) * X) ∧ Side w wr
set_option maxRecDepth 100000 in
set_option maxHeartbeats 8000000 in
theorem forms11_any (w : World) (hh : Half w) (sectors blocks : Int) (bv : Value) (bl : List UInt8) (hb : Rd w bv bl) (hbl : bl.length ≤ 9223372036854775807) :
  Calls Tryz.prog 3 #[.int .i64 sectors, .int .i64 blocks, bv] w (ShownQ w) := by
 have hF : ∀ w' X, Sat w' (X * whole w) → Half w' := fun w' X h => hh.old h
 have HF := SL.hid hF
 have hsh := shown11_any w hh
 have ha := and16 sectors
 obtain ⟨m, hm, hm1, hm2⟩ : ∃ m : Nat, (m : Int) = 1 + sectors % 65536 % 300 ∧ 1 ≤ m ∧ m ≤ 300 := ⟨(1 + sectors % 65536 % 300).toNat, by omega, by omega, by omega⟩
 have hs0 : 0 ≤ sectors % 65536 := by omega
 have hs1 : sectors % 65536 ≤ 65535 := by omega
 have Hm := SL.hid hm
 have hmm : (m : Int) ≤ 300 := by omega
 have hm0 : (1 : Int) ≤ (m : Int) := by omega
 obtain ⟨ba, bc, rfl⟩ := hb.shape
 have HbR := SL.hid hb
 have hbl' : (bl.length : Int) ≤ 9223372036854775807 := by omega
 generalize sectors % 65536 = t at *
 clear hm hh hF hb
 go_enter Tryz.func3, Tryz.ntmps3
 go_wp2_with fail
 (with_reducible refine hsh.mono ?_)
 rintro e w1 ⟨rfl, h1, d1⟩
 clear hsh
 go_wp2_with fail
 rw [← Hm.out]
 refine (new_any m hm1 (by omega) w1).mono ?_
 rintro e w2 ⟨d, rfl, h2, d2⟩
 have H2 : Sat w2 (devA NoB d (Dev.fresh m) * (pool NoB * whole w)) := (((h2 NoB).under h1).poolEmp).to (by ac_rfl)
 obtain ⟨Z0, hZ0⟩ : ∃ Z, Z = u8s (zs 512) := ⟨_, rfl⟩
 have hmk : ∀ w, (Instr.makeSlice 22 (.int .i64 512) (.int .i64 512)).run Tryz.prog w = .ok (.slice (some ⟨w.heap.size, 0, none⟩) 512 512) (w.alloc (.cells Z0 5 (0, 0))) := by
  rw [hZ0]; exact Go.Proofs.YtdafdidmbeecfaaGreatDoor.make_bytes 512 (by decide)
 have H3 := H2.alloc (.cells Z0 5 (0, 0))
 have D3 := (d1.trans d2).alloc (.cells Z0 5 (0, 0))
 have HZ0 := SL.hid hZ0
 clear hZ0 h1 h2 d1 d2 H2
 go_upto_block 0 with (fail)
 generalize w2.alloc (.cells Z0 5 (0, 0)) = w3 at H3 D3 ⊢
 generalize w2.heap.size = zb at H3 ⊢
 obtain ⟨Y, hY⟩ : ∃ X, X = devA NoB d (Dev.fresh m) * (pool NoB * whole w) := ⟨_, rfl⟩
 rw [← hY] at H3
 have HY := SL.hid hY; have h3 := SL.hid H3; have HD3 := SL.hid D3
 have hcb : ∀ (k : Nat), k < bl.length → ∀ (Q : Assn) (w' : World), Sat w' (Q * Y) → ∃ g o, ba = some ⟨g, o, none⟩ ∧ w'.cell? ⟨g, o + k, none⟩ = some (SL.u8 (bl.getD k 0)) := by
  intro k hk Q w' h
  obtain ⟨g, o, e, hc⟩ := Rd.at HbR.out (by omega)
  refine ⟨g, o, e, ?_⟩
  have hc2 := hc k (bl.getD k 0) (by rw [List.getD, List.getElem?_eq_getElem hk]; rfl)
  exact (h.to (by rw [HY.out]; ac_rfl : _ = (Q * (devA NoB d (Dev.fresh m) * pool NoB)) * whole w)).cellOld hc2
 have Hcb := SL.hid hcb
 clear hY H3 D3 hmk hcb
 go_cut [] from 36 to 52 (fun wx => ∃ l : List UInt8, l.length = 512 ∧ Sat wx (pt zb (.cells (u8s l) 5 (0, 0)) * Y) ∧ Side w wx)
 case first =>
  go_wp2_with fail
  go_loopw [11] (fun u wr => FirstRel zb bl.length bl Y w u wr) (fun u _ => 512 - (intOf u).toNat)
  case atStart => exact ⟨0, Nat.zero_le _, Nat.zero_le _, rfl, by rw [show firstK bl 0 = zs 512 by simp [firstK], ← HZ0.out]; exact h3.out, HD3.out⟩
  case round =>
   clear h3 HD3
   obtain ⟨k, hk, hk5, rfl, hsat, hside⟩ := hrel
   by_cases hlt : k < bl.length ∧ k < 512
   ·obtain ⟨hl1, hl2⟩ := hlt
    have hl1' : (k : Int) < (bl.length : Int) := by omega
    have hl2' : (k : Int) < 512 := by omega
    obtain ⟨g, o, rfl, hc⟩ := Hcb.out k hl1 _ wr hsat
    have hz : wr.cell? ⟨zb, k, none⟩ = some (SL.u8 ((firstK bl k).getD k 0)) := by
     rw [hsat.cell, get_u8s, List.getD, List.getElem?_eq_getElem (by rw [firstK_len hk hk5]; exact hl2)]; rfl
    have hfz := hsat.frozen k
    have hset := hsat.setCell k (SL.u8 (bl.getD k 0))
    rw [set_u8s, firstK_set hl1 hl2] at hset
    have Hset := SL.hid hset; have HD := SL.hid (hside.setCell ⟨zb, k, none⟩ (SL.u8 (bl.getD k 0)))
    generalize SL.u8 ((firstK bl k).getD k 0) = uo at hz
    obtain ⟨ui, hui⟩ : ∃ ui : Int, SL.u8 (bl.getD k 0) = .int .u8 ui := ⟨_, rfl⟩
    rw [hui] at hc Hset HD
    clear hui
    clear hsat hside hset
    go_wp2
    go_roundw
    case rel => exact ⟨k + 1, by omega, by omega, by go_num, Hset.out, HD.out⟩
    case measure => simp [intOf]; omega
   ·have Hs := SL.hid hsat; have Hd := SL.hid hside
    have hlen := firstK_len hk hk5
    clear hsat hside
    by_cases hl1 : k < bl.length
    ·have hl1' : (k : Int) < (bl.length : Int) := by omega
     have hl2' : ¬ (k : Int) < 512 := fun h => hlt ⟨hl1, by omega⟩
     go_wp2_with fail
     go_meet
     exact ⟨_, hlen, Hs.out, Hd.out⟩
    ·have hl1' : ¬ (k : Int) < (bl.length : Int) := by omega
     go_wp2_with fail
     go_meet
     exact ⟨_, hlen, Hs.out, Hd.out⟩
 case rest =>
  clear h3 HD3
  obtain ⟨l, hl, hsat, hside⟩ := hcut
  have hfok : (Dev.fresh m).Ok := fresh_ok m (by omega)
  have hs5 : Sat wc (devA NoB d (Dev.fresh m) * (pool NoB * (pt zb (.cells (u8s l) 5 (0, 0)) * whole w))) := hsat.to (by rw [HY.out]; ac_rfl)
  have hrl : ∀ w' D', Sat w' (devA NoB d D' * (pool NoB * (pt zb (.cells (u8s l) 5 (0, 0)) * whole w))) → Rd w' (.slice (some ⟨zb, 0, none⟩) 512 512) l := fun w' D' h => by
   have := rd_rowU (c := 512) ((h.to (by ac_rfl : _ = pt zb (.cells (u8s l) 5 (0, 0)) * (devA NoB d D' * (pool NoB * whole w)))).heap)
   rwa [hl] at this
  have hwr : Calls Tryz.prog 11 #[.pointer (some ⟨d, 0, none⟩), .int .i64 0, .slice (some ⟨zb, 0, none⟩) 512 512] wc (WriteQ NoB d ((Dev.fresh m).write 0 l).2 (.int .i64 ((Dev.fresh m).write 0 l).1) (pt zb (.cells (u8s l) 5 (0, 0)) * whole w) wc) := write_any wc NoB d (Dev.fresh m) 0 _ l _ hs5 hfok (hrl _ _ hs5) hrl (by rw [hl]; decide)
  have hwe : (Dev.fresh m).write 0 l = (0, Dev1 m l) := by
   have := wth_write_go (D := Dev.fresh m) ⟨rfl, rfl⟩ arOk_none (show ¬ arHit none from fun ⟨K, hK⟩ => by cases hK) (a := 0) ⟨Int.le_refl _, by rw [devLen]; omega⟩ hl
   exact this
  rw [hwe] at hwr
  have D5 := SL.hid hside
  clear hsat hside hs5 hrl hfok hwe Hcb HbR
  go_wp2_with fail
  (with_reducible refine hwr.mono ?_)
  rintro e w6 ⟨S6, hE6, rfl, h6, d6⟩
  have hmt := fmMount_any w6 S6 d m l (pt zb (.cells (u8s l) 5 (0, 0)) * whole w) hm1 (by omega) hl h6 (fun w' X hx => HF.out w' (X * pt zb (.cells (u8s l) 5 (0, 0))) (hx.to (by ac_rfl)))
  have D6 := SL.hid (D5.out.trans d6)
  clear hwr h6 d6 D5
  go_wp2_with fail
  (with_reducible refine hmt.mono ?_)
  rintro e w7 ⟨v, c, S7, D7, hvc, rfl, hE7, hok7, hc7, hw7, hs7, h7, d7⟩
  have H7 := SL.hid h7; have D7' := SL.hid (D6.out.trans d7)
  have Hok7 := SL.hid hok7; have Hc7 := SL.hid hc7; have Hw7 := SL.hid hw7; have Hs7 := SL.hid hs7
  clear hmt h7 d7 D6 hok7 hc7 hw7 hs7
  go_upto_region 13 with (fail)
  go_cut [77] from 61 to 77 (fun u77 wx => u77 = .bool false ∧ w7 = wx)
  case first =>
   rcases hvc with ⟨rfl, s, rfl⟩ | ⟨rfl, rfl⟩
   ·go_wp2_with fail
    go_meet
    exact ⟨rfl, rfl⟩
   ·go_wp2_with fail
    go_meet
    exact ⟨rfl, rfl⟩
  case rest =>
   obtain ⟨rfl, rfl⟩ := hcut
   have hle := least_any w7 blocks
   go_wp2_with fail
   (with_reducible refine hle.mono ?_)
   rintro e w8 ⟨rfl, rfl⟩
   clear hle
   obtain ⟨P, rfl⟩ : ∃ P, m = P + 1 := ⟨m - 1, by omega⟩
   by_cases hg : geoOk blocks (P : Int) = true
   ·have hG := geoOk_iff.1 hg
    have hmay := (may_iff (by omega)).1 hg
    obtain ⟨n, rfl⟩ := Int.eq_ofNat_of_zero_le (by omega : 0 ≤ blocks)
    have hfm := format_any w7 S7 d n P D7 none _ (by rw [wth_none]; exact H7.out) Hok7.out Hc7.out (by rw [Hw7.out]; simp) hg Hs7.out arOk_none (fun w' X hx => HF.out w' (X * pt zb (.cells (u8s l) 5 (0, 0))) (hx.to (by ac_rfl)))
    obtain ⟨lt, hlt⟩ : ∃ x, x = leastI (n : Int) := ⟨_, rfl⟩
    rw [← hlt] at hmay ⊢
    obtain ⟨hmay1, hmay2⟩ := hmay
    clear hlt
    go_wp2_with fail
    (with_reducible refine hfm.mono ?_)
    rintro e w9 hq
    rcases hq with ⟨E, hne, _⟩ | ⟨s, j, S9, D9, o9, hE9, rfl, h9, d9, hok9⟩
    ·exact absurd rfl hne
    have hJ := hok9.sj.jt.inv.ok
    have hsq0 : (J0 P n).sq = 0 := rfl
    have hroom : ((J0 P n).P : Int) - (J0 P n).us - (J0 P n).fr = (P : Int) := by show (P : Int) - 0 - 0 = _; omega
    have hP20 : (P : Int) ≤ 19999 := by omega
    have hsub : IntKind.i64.wrap ((P : Int) + 1 - 1) = (P : Int) := by rw [IntKind.wrap_i64]; omega
    have D9' := SL.hid (D7'.out.trans d9)
    generalize J0 P n = J9 at h9 hJ hsq0 hroom
    have hgm := geom_any w9 s j d n P J9 _ h9
    have H9 := SL.hid h9; have HJ := SL.hid hJ; have Hsq := SL.hid hsq0; have Hroom := SL.hid hroom
    clear hfm h9 d9 hok9 hJ hsq0 hroom hG hg D7' H7
    go_wp2_with fail
    unfold GeomQ geV at hgm
    (with_reducible refine hgm.mono ?_)
    rintro e w10 ⟨rfl, h10, d10⟩
    have H10 := h10.keepW H9.out
    have hse := seq_any w10 s j d n P J9 _ H10 HJ.out
    unfold SeqQ at hse
    rw [Hsq.out] at hse
    have D10 := SL.hid (D9'.out.trans d10)
    clear hgm h10 d10 H10 D9'
    go_wp2_with fail
    (with_reducible refine hse.mono ?_)
    rintro e w11 ⟨rfl, h11, d11⟩
    have h11' : Sat w11 (jrA j d J9 * (pt s (.cells #[ptV j, .int .i64 (n : Int), .int .i64 (P : Int)] 42 (0, 0)) * (devA S9 d (D9.wth o9) * (pool S9 * (pt zb (.cells (u8s l) 5 (0, 0)) * whole w))))) := h11.to (by unfold stoA; ac_rfl)
    have c0 : w11.cell? ⟨s, 0, none⟩ = some (ptV j) := h11'.front2.cell 0
    have hrm := room_any w11 j d J9 _ h11' HJ.out
    rw [Hroom.out] at hrm
    have D11 := SL.hid (D10.out.trans d11)
    have H11 := SL.hid h11
    clear hse h11 h11' d11 D10 H9
    go_wp2_with fail
    (with_reducible refine hrm.mono ?_)
    rintro e w12 ⟨rfl, h12, d12⟩
    have H12 := SL.hid (h12.keepW H11.out)
    have D12 := SL.hid (D11.out.trans d12)
    clear hrm h12 d12 D11 H11
    go_wp2_with fail
    go_ret
    exact ⟨rfl, (H12.out.to (by ac_rfl : _ = (stoA s j d n P J9 * (devA S9 d (D9.wth o9) * (pool S9 * pt zb (.cells (u8s l) 5 (0, 0))))) * whole w)).right, D12.out⟩
   ·have hmay : ¬ (0 < leastI blocks ∧ leastI blocks ≤ (P : Int)) := fun h => hg ((may_iff (by omega)).2 h)
    have hfn := formatNo_any w7 S7 d P D7 blocks _ H7.out Hs7.out (by omega) hg
    have hsub : IntKind.i64.wrap ((P : Int) + 1 - 1) = (P : Int) := by rw [IntKind.wrap_i64]; omega
    have hP20 : (P : Int) ≤ 19999 := by omega
    obtain ⟨lt, hlt⟩ : ∃ x, x = leastI blocks := ⟨_, rfl⟩
    rw [← hlt] at hmay ⊢
    clear hlt hg
    go_wp2_with fail
    (with_reducible refine hfn.mono ?_)
    rintro e w9 ⟨rfl, h9, d9⟩
    have H9 := SL.hid (h9.keepW H7.out)
    have D9 := SL.hid (D7'.out.trans d9)
    clear hfn h9 d9 H7 D7'
    have hfin : Sat w9 (whole w) := (H9.out.to (by ac_rfl : _ = (devA S7 d D7 * (pool S7 * pt zb (.cells (u8s l) 5 (0, 0)))) * whole w)).right
    have Hfin := SL.hid hfin
    clear hfin H9
    by_cases hl0 : 0 < lt
    ·have hl1 : (P : Int) < lt := by have := fun h => hmay ⟨hl0, h⟩; omega
     have hd : decide (lt ≤ (P : Int)) = false := decide_eq_false (by omega)
     clear hmay
     go_wp2_with fail
     all_goals first | (go_ret; exact ⟨rfl, Hfin.out, D9.out⟩) | (exfalso; omega) | go_show
    ·clear hmay
     go_wp2_with fail
     go_ret
     exact ⟨rfl, Hfin.out, D9.out⟩
end Go.Proofs.YtdafdidmbeecfaaGreatDoor.Su
end

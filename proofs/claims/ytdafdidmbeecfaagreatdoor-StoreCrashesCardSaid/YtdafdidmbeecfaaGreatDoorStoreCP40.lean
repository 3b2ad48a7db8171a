/- Steps towards the statement StoreC. -/
import Derived.Test.YtdafdidmbeecfaaGreatDoorStoreCP39
section
namespace Go.Proofs.YtdafdidmbeecfaaGreatDoor.Su
set_option linter.unusedVariables false
set_option linter.unusedSimpArgs false
open Go.RowKit Go.SL Go.Proofs.YtdafdidmbeecfaaGreatDoor Go.Proofs.YtdafdidmbeecfaaGreatDoor.Ba Go.Proofs.YtdafdidmbeecfaaGreatDoor.Fs
def AgainQ (S : Hp) (d sv n P B : Nat) (J : Jr) (D : Dev) (has : Has) (F : Assn) (w : World) (e : Ending) (w' : World) : Prop :=
 ∃ s j S' J' D' has', Ext S S' ∧ e = .returned (.bool true) ∧ Sat w' (pt sv (.cells #[ptV s] 29 (0, 0)) * (stoA s j d n P J' * (devA S' d D' * (pool S' * F)))) ∧ Side w w' ∧ MtOk n P B (superE n P) J D has none J' D' has' none
set_option maxRecDepth 100000 in
set_option maxHeartbeats 4000000 in
theorem again11_any (w : World) (S : Hp) (d sv n P B : Nat) (J : Jr) (D0 D : Dev) (has : Has) (ov : Value) (F : Assn) (h : Sat w (devA S d D0 * (pool S * (pt sv (.cells #[ov] 29 (0, 0)) * F)))) (hst : Dev.start D0 = (0, D)) (hM : Mnt n P B (superE n P) J D has) (hB : B ≤ 999990) (hg : geoOk n P = true) (hs : D.sec.length = P + 1)
  (hh : ∀ w' X, Sat w' (X * F) → Half w') : Calls Tryz.prog 26 #[ptV d, ptV sv] w (AgainQ S d sv n P B J D has F w) := by
 have hs1 := start_any w S d D0 _ h
 rw [hst] at hs1
 have HM := SL.hid hM; have Hs := SL.hid hs; have Hg := SL.hid hg; have HB := SL.hid hB; have Hh := SL.hid hh
 clear h hst hM hB hg hs hh
 go_enter Tryz.func26, Tryz.ntmps26
 go_wp2_with fail
 (with_reducible refine hs1.mono ?_)
 rintro e w1 ⟨rfl, h1, d1⟩
 have hm := mount_any w1 S d n P B J D has none _ h1 HM.out HB.out Hg.out Hs.out arOk_none (fun w' X hx => Hh.out w' (X * pt sv (.cells #[ov] 29 (0, 0))) (hx.to (by ac_rfl)))
 clear hs1 h1
 go_wp2_with fail
 (with_reducible refine hm.mono ?_)
 rintro e w2 hq
 clear hm
 rcases hq with ⟨E, hne, _⟩ | ⟨s, j, S', J', D', has', o', hE, rfl, h2, d2, hok⟩
 ·exact absurd rfl hne
 ·have ho' := hok.ar.none rfl
  subst ho'
  have h3 : Sat w2 (pt sv (.cells #[ov] 29 (0, 0)) * (stoA s j d n P J' * (devA S' d D' * (pool S' * F)))) := h2.to (by rw [wth_none]; ac_rfl)
  have c0 := h3.cell 0
  have f0 := h3.frozen 0
  have H3 := SL.hid (h3.setCell 0 (ptV s)); have HD := SL.hid ((d1.trans d2).setCell ⟨sv, 0, none⟩ (ptV s)); have Hok := SL.hid hok; have HE := SL.hid hE
  clear h2 h3 d1 d2 hok hE
  go_wp2_with fail
  go_ret
  exact ⟨s, j, S', J', D', has', HE.out, rfl, H3.out, HD.out, Hok.out⟩
end Go.Proofs.YtdafdidmbeecfaaGreatDoor.Su
end
section
namespace Go.Proofs.YtdafdidmbeecfaaGreatDoor.Su
set_option linter.unusedVariables false
set_option linter.unusedSimpArgs false
open Go.RowKit Go.SL Go.Proofs.YtdafdidmbeecfaaGreatDoor Go.Proofs.YtdafdidmbeecfaaGreatDoor.Ba Go.Proofs.YtdafdidmbeecfaaGreatDoor.Fs
theorem superD_zs : superD (zs 512) = none := by
 unfold superD
 rw [if_neg]
 rintro ⟨h, _⟩
 have h1 := (geoOk_iff.1 h).1
 have e : leV ((zs 512).drop 8) 4 = 0 := by
  have e1 : (zs 512).drop 8 = zs 504 := by unfold zs; rw [List.drop_replicate]
  have e2 : zs 504 = 0 :: 0 :: 0 :: 0 :: zs 500 := by unfold zs; rw [show 504 = 500 + 1 + 1 + 1 + 1 from rfl, List.replicate_succ, List.replicate_succ, List.replicate_succ, List.replicate_succ]
  rw [e1, e2]; rfl
 omega
theorem superD_blank {D : Dev} (h : Blank D) : NoSt D := by
 rcases h with h | h
 ·right; rw [h]; exact ⟨rfl, zs_len 512, .inl superD_zs⟩
 ·exact .inl h
theorem keepR_nilU (x : Dx) (S : Hp) (d : Nat) (D : Dev) (F : Assn) : KeepR x S d D F (.slice none 0 0) [] := ⟨none, 0, rfl, by decide, fun i hi => by simp at hi⟩
theorem crash_nilU (w : World) (S : Hp) (d : Nat) (D : Dev) (F : Assn) (h : Sat w (devA S d D * F)) (hD : D.Ok) :
  Calls Tryz.prog 28 #[ptV d, .slice none 0 0] w (DevQ S d (D.crash []) (.tuple #[]) F w) := by
 obtain ⟨x, hx⟩ := h.devEx
 exact crash_any w S d D x [] (.slice none 0 0) F hx hD (keepR_nilU x S d D F)
theorem one_batch {n id : Int} {l : List UInt8} (h0 : 0 ≤ id) (h1 : id < n) (hl : l.length = 480) : Batch n [(id, l)] := by
 refine ⟨by simp, by simp, fun x hx => ?_, fun x hx => ?_, by simp⟩
 ·obtain rfl : x = (id, l) := by simpa using hx
  exact ⟨h0, h1⟩
 ·obtain rfl : x = (id, l) := by simpa using hx
  exact hl
theorem bs_bj {w : World} {g : Nat} {n : Int} {F : Assn} (h : Sat w (pt g (.cells (u8s (bj n)) 5 (0, 0)) * F)) : Sat w (bs 5 (.slice (some ⟨g, 0, none⟩) 480 480) (bj n) * F) := by
 have h2 := Sat.slOf (n := 480) (cap := 480) (sz := 1) h (by omega) (by unfold maxLen; omega) (by rw [show (u8s (bj n)).size = (bj n).length by simp [u8s], bj_len])
 have e : (u8s (bj n)).toList.take (480 * 1) = (bj n).map SL.u8 := by
  have : (u8s (bj n)).toList = (bj n).map SL.u8 := by simp [u8s]
  rw [this, List.take_of_length_le (by rw [List.length_map, bj_len]; omega)]
 rw [e] at h2
 unfold bs
 rw [bj_len]; exact h2
def CommitBQ (S : Hp) (j d : Nat) (R : Int × Jr × Dev) (F : Assn) (w : World) (e : Ending) (w' : World) : Prop :=
 ∃ S', Ext S S' ∧ e = .returned (.int .i64 R.1) ∧ Sat w' (jrA j d R.2.1 * (devA S' d R.2.2 * (pool S' * F))) ∧ Side w w'
theorem commitB_any (w : World) (S : Hp) (j d : Nat) (J : Jr) (D : Dev) (F : Assn) (gb : Nat) (c id : Int) (h : Sat w (pt gb (.cells (u8s (bj c)) 5 (0, 0)) * (jrA j d J * (devA S d D * (pool S * F)))))
  (hJ : J.Ok) (hN : J.Nums) (hD : D.Ok) (h0 : 0 ≤ id) (h1 : id < J.n) :
  Calls Tryz.prog 19 #[ptV j, .slice (some ⟨w.heap.size, 0, none⟩) 1 1] (w.alloc (.cells #[.int .i64 id, .slice (some ⟨gb, 0, none⟩) 480 480] 57 (0, 0))) (CommitBQ S j d (jcommit J D true [(id, bj c)]) F w) := by
 have h2 := (bs_bj h).alloc (.cells #[.int .i64 id, .slice (some ⟨gb, 0, none⟩) 480 480] 57 (0, 0))
 refine (commit1_any _ S j d J D F w.heap.size id (some ⟨gb, 0, none⟩) 480 (bj c) h2 hJ hN hD (bj_len c) h0 h1).mono ?_
 rintro e w' ⟨S', hE, rfl, h3, d3⟩
 refine ⟨S', hE, rfl, (h3.to (by ac_rfl : _ = (pt w.heap.size (.cells #[.int .i64 id, .slice (some ⟨gb, 0, none⟩) 480 480] 57 (0, 0)) * bs 5 (.slice (some ⟨gb, 0, none⟩) 480 480) (bj c)) * (jrA j d (jcommit J D true [(id, bj c)]).2.1 * (devA S' d (jcommit J D true [(id, bj c)]).2.2 * (pool S' * F))))).right, ((Side.refl w).alloc _).trans d3⟩
set_option maxRecDepth 100000 in
set_option maxHeartbeats 8000000 in
theorem shown11_any (w : World) (hh : Half w) : Calls Tryz.prog 9 #[] w (ShownQ w) := by
 have hF : ∀ w' X, Sat w' (X * whole w) → Half w' := fun w' X h => hh.old h
 have HF := SL.hid hF
 clear hh hF
 have hg : geoOk 8 140 = true := by decide
 have hgn : geoOk 9 140 ≠ true := by decide
 go_enter Tryz.func9, Tryz.ntmps9
 go_wp2_with fail
 refine (new_any 141 (by omega) (by omega) w).mono ?_
 rintro e w1 ⟨d, rfl, h1, d1⟩
 have H1 : Sat w1 (devA NoB d (Dev.fresh 141) * (pool NoB * whole w)) := ((h1 NoB).poolEmp).to (by ac_rfl)
 have hm1 := mountNo_any w1 NoB d (Dev.fresh 141) (whole w) H1 (fresh_ok 141 (by omega)) ⟨rfl, rfl⟩ (by rw [devLen]; decide) (superD_blank (.inl (tells_fresh 141 0))) HF.out
 clear h1 H1
 go_wp2_with fail
 (with_reducible refine hm1.mono ?_)
 rintro e w2 ⟨rfl, h2, d2⟩
 have hfok : (Dev.fresh 141).Ok := fresh_ok 141 (by omega)
 have hfk := Dev.flush_keeps hfok
 rw [show (Dev.fresh 141).flush = (0, (Dev.fresh 141).flushed) from (Dev.Calm.flush ⟨rfl, rfl⟩)] at hfk
 have hok1 : ({ (Dev.fresh 141).flushed with cr := i64w ((Dev.fresh 141).cr + 1) } : Dev).Ok := cr_ok (hfk.ok hfok (by have := hfok.many; omega)) _
 have hc1 : ({ (Dev.fresh 141).flushed with cr := i64w ((Dev.fresh 141).cr + 1) } : Dev).Calm := cr_calm (flushed_calm ⟨rfl, rfl⟩) _
 have hw1 : ({ (Dev.fresh 141).flushed with cr := i64w ((Dev.fresh 141).cr + 1) } : Dev).wait = [] := rfl
 have hs1 : ({ (Dev.fresh 141).flushed with cr := i64w ((Dev.fresh 141).cr + 1) } : Dev).sec.length = 140 + 1 := by
  show (Dev.fresh 141).flushed.sec.length = _
  rw [(flushed_counts _).2.2.2, devLen]
 generalize ({ (Dev.fresh 141).flushed with cr := i64w ((Dev.fresh 141).cr + 1) } : Dev) = D1 at h2 hok1 hc1 hw1 hs1
 have hfm : Calls Tryz.prog 14 #[ptV d, .int .i64 8] w2 (FormatQ NoB d 8 140 D1 none (whole w) w2) := format_any w2 NoB d 8 140 D1 none (whole w) (by rw [wth_none]; exact h2) hok1 hc1 (by rw [hw1]; simp) hg hs1 arOk_none HF.out
 have D2 := SL.hid (d1.trans d2)
 clear hm1 h2 d1 d2 hfok hfk hok1 hc1 hw1
 go_wp2_with fail
 (with_reducible refine hfm.mono ?_)
 rintro e w3 hq
 rcases hq with ⟨E, hne, _⟩ | ⟨s, j, S3, D3, o3, hE3, rfl, h3, d3, hok3⟩
 ·exact absurd rfl hne
 have ho3 := hok3.ar.none rfl
 subst ho3
 rw [wth_none] at h3
 have c0 : w3.cell? ⟨s, 0, none⟩ = some (ptV j) := (h3.to (by unfold stoA; ac_rfl : _ = pt s (.cells #[ptV j, .int .i64 ((8 : Nat) : Int), .int .i64 ((140 : Nat) : Int)] 42 (0, 0)) * (jrA j d (J0 140 8) * (devA S3 d D3 * (pool S3 * whole w))))).cell 0
 have Hs1 := SL.hid hs1
 have H5 := SL.hid h3; have D5 := SL.hid (D2.out.trans d3); have Hok3 := SL.hid hok3
 have hJ := hok3.sj.jt.inv.ok; have hN := hok3.sj.jt.inv.nums; have hD3 := hok3.sj.jt.inv.dok
 have hcb : ∀ (w6 : World) (gb : Nat), Sat w6 (pt gb (.cells (u8s (bj 1)) 5 (0, 0)) * (stoA s j d 8 140 (J0 140 8) * (devA S3 d D3 * (pool S3 * whole w)))) →
   Calls Tryz.prog 19 #[ptV j, .slice (some ⟨w6.heap.size, 0, none⟩) 1 1] (w6.alloc (.cells #[.int .i64 5, .slice (some ⟨gb, 0, none⟩) 480 480] 57 (0, 0))) (CommitBQ S3 j d (jcommit (J0 140 8) D3 true [((5 : Int), bj 1)]) (pt s (.cells #[ptV j, .int .i64 ((8 : Nat) : Int), .int .i64 ((140 : Nat) : Int)] 42 (0, 0)) * whole w) w6) := fun w6 gb hb =>
  commitB_any w6 S3 j d (J0 140 8) D3 _ gb 1 5 (hb.to (by unfold stoA; ac_rfl)) hJ hN hD3 (by decide) (by rw [J0_n]; decide)
 clear hfm h3 d3 D2 hok3 hJ hN hD3 hs1
 go_upto_region 8 with (fail)
 refine wp_region_held_drew (S := (fun w' => w'.cell? ⟨s, 0, none⟩ = some (ptV j))) (by kernel_rfl) ?_ (fun hHeld => ?_)
 ·first | exact c0 | exact kb | exact cell_alloc _ _ _ _ kb | exact kc | assumption
 refine wpAnyH_take (i := 0) (v := ?_) rfl (by kernel_rfl) (by kernel_rfl) (by kernel_rfl) (fun _ _ _ h => h) (Or.inl ⟨by kernel_rfl, ?_⟩) (by assumption) ?_
 rotate_left
 ·intro w hSw; (try dsimp only at hSw); go_simp; try with_reducible rfl
 try simp only [List.getElem_toArray, List.getElem_cons_succ, List.getElem_cons_zero, Act.put, List.setIfInBounds_toArray, List.set_cons_zero, List.set_cons_succ]
 refine wpAnyH_take (i := 1) (v := ?_) rfl (by kernel_rfl) (by kernel_rfl) (by kernel_rfl) (fun _ _ _ h => h) (Or.inl ⟨by kernel_rfl, ?_⟩) (by assumption) ?_
 rotate_left
 ·intro w hSw; (try dsimp only at hSw); go_simp; try with_reducible rfl
 try simp only [List.getElem_toArray, List.getElem_cons_succ, List.getElem_cons_zero, Act.put, List.setIfInBounds_toArray, List.set_cons_zero, List.set_cons_succ]
 refine wpAnyH_take (i := 2) (v := ?_) rfl (by kernel_rfl) (by kernel_rfl) (by kernel_rfl) (fun _ _ _ h => h) (Or.inl ⟨by kernel_rfl, ?_⟩) (by assumption) ?_
 rotate_left
 ·intro w hSw; (try dsimp only at hSw); go_simp; try with_reducible rfl
 try simp only [List.getElem_toArray, List.getElem_cons_succ, List.getElem_cons_zero, Act.put, List.setIfInBounds_toArray, List.set_cons_zero, List.set_cons_succ]
 refine wpAnyH_take (i := 3) (v := ?_) rfl (by kernel_rfl) (by kernel_rfl) (by kernel_rfl) (fun _ _ _ h => h) (Or.inl ⟨by kernel_rfl, ?_⟩) (by assumption) ?_
 rotate_left
 ·intro w hSw; (try dsimp only at hSw); go_simp; try with_reducible rfl
 try simp only [List.getElem_toArray, List.getElem_cons_succ, List.getElem_cons_zero, Act.put, List.setIfInBounds_toArray, List.set_cons_zero, List.set_cons_succ]
 refine wpAnyH_ready (rs := [4]) (by kernel_rfl) (by simp) ?_
 refine AllReadyH.cons rfl (fun K hK => ?_) AllReadyH.nil
 go_simp
 go_wp2_with (go_at_call 31; (with_reducible refine (block11_any _ _).mono ?_); rintro e w6 ⟨gb, rfl, hb, db⟩; have HBA := hb.under H5.out.drew; have DB := D5.out.drew.trans db; have kb : w6.cell? ⟨s, 0, none⟩ = some (ptV j) := (HBA.front2.to (SL.star_assoc _ _ _)).cell 0)
 refine hK.out _ _ ?_ (fun hHeld => ?_)
 ·first | exact c0 | exact kb | exact cell_alloc _ _ _ _ kb | exact kc | assumption
 clear hK K
 refine wpAnyH_take (i := 5) (v := ?_) rfl (by kernel_rfl) (by kernel_rfl) (by kernel_rfl) (fun _ _ _ h => h) (Or.inl ⟨by kernel_rfl, ?_⟩) (by assumption) ?_
 rotate_left
 ·intro w hSw; (try dsimp only at hSw); go_simp; try with_reducible rfl
 try simp only [List.getElem_toArray, List.getElem_cons_succ, List.getElem_cons_zero, Act.put, List.setIfInBounds_toArray, List.set_cons_zero, List.set_cons_succ]
 refine wpAnyH_ready (rs := [6]) (by kernel_rfl) (by simp) ?_
 refine AllReadyH.cons rfl (fun K hK => ?_) AllReadyH.nil
 go_simp
 refine hK.out _ _ ?_ (fun hHeld => ?_)
 ·first | exact c0 | exact kb | exact cell_alloc _ _ _ _ kb | exact kc | assumption
 clear hK K
 refine wpAnyH_ready (rs := [7]) (by kernel_rfl) (by simp) ?_
 refine AllReadyH.cons rfl (fun K hK => ?_) AllReadyH.nil
 go_simp
 go_wp2_with (go_at_call 19; go_loud ((with_reducible refine (hcb w6 gb HBA).mono ?_); rintro e w7 ⟨S7, hE7, rfl, h7, d7⟩; have kc : w7.cell? ⟨s, 0, none⟩ = some (ptV j) := h7.front4.cell 0))
 refine hK.out _ _ ?_ (fun hHeld => ?_)
 ·first | exact c0 | exact kb | exact cell_alloc _ _ _ _ kb | exact kc | assumption
 clear hK K
 refine wpAnyH_take (i := 8) (v := ?_) rfl (by kernel_rfl) (by kernel_rfl) (by kernel_rfl) (fun _ _ _ h => h) (Or.inl ⟨by kernel_rfl, ?_⟩) (by assumption) ?_
 rotate_left
 ·intro w hSw; (try dsimp only at hSw); go_simp; try with_reducible rfl
 try simp only [List.getElem_toArray, List.getElem_cons_succ, List.getElem_cons_zero, Act.put, List.setIfInBounds_toArray, List.set_cons_zero, List.set_cons_succ]
 refine wpAnyH_done (by kernel_rfl) ?_ _
 have hP2 : 5 * 8 + 240 ≤ 2 * 140 := by decide
 have hbt : Batch ((8 : Nat) : Int) [((5 : Int), bj 1)] := one_batch (by decide) (by decide) (bj_len 1)
 obtain ⟨hcm, hsj4⟩ := Hok3.out.sj.commit hP2 (by decide) hbt
 have hsq4 : ((J0 140 8).done ([((5 : Int), bj 1)] ++ movB (J0 140 8) noH [((5 : Int), bj 1)]) ((J0 140 8).cleaned [((5 : Int), bj 1)].length)).sq = 1 := rfl
 have hs4 : (devC (J0 140 8) D3 noH [((5 : Int), bj 1)]).sec.length = 140 + 1 := by
  show D3.flushed.sec.length = _
  rw [(flushed_counts _).2.2.2, Hok3.out.sec]; exact Hs1.out
 rw [hcm] at h7
 rw [hcm]
 generalize (J0 140 8).done ([((5 : Int), bj 1)] ++ movB (J0 140 8) noH [((5 : Int), bj 1)]) ((J0 140 8).cleaned [((5 : Int), bj 1)].length) = J4 at h7 hsj4 hsq4
 generalize devC (J0 140 8) D3 noH [((5 : Int), bj 1)] = D4 at h7 hsj4 hs4
 have h8 : Sat w7 (stoA s j d 8 140 J4 * (devA S7 d D4 * (pool S7 * whole w))) := h7.to (by unfold stoA; ac_rfl)
 have hsy := sync_any w7 S7 s j d 8 140 J4 D4 _ h8 hsj4.jt.inv.dok
 have hfl : J4.flush D4 = (0, J4, D4.flushed) := by
  rcases flush_armed hsj4.jt.inv arOk_none with ⟨_, h⟩ | ⟨⟨K, hK⟩, _⟩
  ·exact h
  ·cases hK
 rw [hfl] at hsy
 have D7 := SL.hid (DB.trans d7)
 clear h7 h8 kc kb hcb hcm hHeld HBA hb db hfl H5 D5 c0
 go_wp2_with fail
 (with_reducible refine hsy.mono ?_)
 rintro e w8 ⟨rfl, h8, d8⟩
 have hsj5 : Sj 8 140 2 (superE 8 140) J4 D4.flushed (updB noH [((5 : Int), bj 1)]) := hsj4.flushed
 have hw5 : D4.flushed.wait = [] := rfl
 have hs5 : D4.flushed.sec.length = 140 + 1 := (flushed_counts _).2.2.2.trans hs4
 generalize D4.flushed = D5 at h8 hsj5 hw5 hs5
 have hcr := crash_nilU w8 S7 d D5 _ (h8.to (by ac_rfl : _ = devA S7 d D5 * (pool S7 * (stoA s j d 8 140 J4 * whole w)))) hsj5.jt.inv.dok
 have D8 := SL.hid (D7.out.trans d8)
 clear hsy h8 d8 hsj4 hs4 D7
 go_wp2_with fail
 (with_reducible refine hcr.mono ?_)
 rintro e w9 ⟨rfl, h9, d9⟩
 have hst := start_any w9 S7 d (D5.crash []) _ h9
 have hse : Dev.start (D5.crash []) = (0, Dev.again D5 []) := rfl
 rw [hse] at hst
 have D9 := SL.hid (D8.out.trans d9)
 clear hcr h9 d9 D8 hse
 go_wp2_with fail
 (with_reducible refine hst.mono ?_)
 rintro e w10 ⟨rfl, h10, d10⟩
 have hM6 : Mnt 8 140 2 (superE 8 140) J4 (Dev.again D5 []) (updB noH [((5 : Int), bj 1)]) := hsj5.mnt.dry hw5
 have hs6 : (Dev.again D5 []).sec.length = 140 + 1 := (again_okS hsj5.jt.inv.dok).2.trans hs5
 generalize Dev.again D5 [] = D6 at h10 hM6 hs6
 have hmt : Calls Tryz.prog 12 #[ptV d] w10 (MountQ S7 d 8 140 2 (superE 8 140) J4 D6 (updB noH [((5 : Int), bj 1)]) none (stoA s j d 8 140 J4 * whole w) w10) := mount_any w10 S7 d 8 140 2 J4 D6 _ none _ (by rw [wth_none]; exact h10) hM6 (by decide) hg hs6 arOk_none (fun w' X hx => HF.out w' (X * stoA s j d 8 140 J4) (hx.to (by ac_rfl)))
 have D10 := SL.hid (D9.out.trans d10)
 clear hst h10 d10 D9 hM6 hsj5 hw5 hs5
 go_wp2_with fail
 (with_reducible refine hmt.mono ?_)
 rintro e w11 hq
 rcases hq with ⟨E, hne, _⟩ | ⟨t, k, S11, J7, D7, has7, o7, hE11, rfl, h11, d11, hok7⟩
 ·exact absurd rfl hne
 have ho7 := hok7.ar.none rfl
 subst ho7
 rw [wth_none] at h11
 have hsq7 : J7.sq = 2 := by rw [hok7.sq, hsq4]; rfl
 have hrd7 : rdH has7 5 = bj 1 := by
  rw [hok7.same 5]
  show (kget [((5 : Int), bj 1)] 5).getD _ = _
  rfl
 have h11' : Sat w11 (jrA k d J7 * (devA S11 d D7 * (pool S11 * (pt t (.cells #[ptV k, .int .i64 ((8 : Nat) : Int), .int .i64 ((140 : Nat) : Int)] 42 (0, 0)) * (stoA s j d 8 140 J4 * whole w))))) := h11.to (by unfold stoA; ac_rfl)
 have c0 : w11.cell? ⟨t, 0, none⟩ = some (ptV k) := h11'.front4.cell 0
 have hI7 := hok7.sj.jt.inv
 have hrd : Calls Tryz.prog 21 #[ptV k, .int .i64 5] w11 (LoadQ S11 k d (J7.read D7 5) (pt t (.cells #[ptV k, .int .i64 ((8 : Nat) : Int), .int .i64 ((140 : Nat) : Int)] 42 (0, 0)) * (stoA s j d 8 140 J4 * whole w)) w11) := jread_any w11 S11 k d J7 D7 5 _ h11' hI7.ok hI7.dok
 obtain ⟨r, hR⟩ : ∃ r, J7.read D7 5 = ((0, bj 1), J7, ({ D7 with cr := r } : Dev)) := by
  rcases read_armed hI7 arOk_none (id := 5) (by decide) (by rw [hok7.sj.jt.jn]; decide) with ⟨o', r, hA, hr, hR⟩ | ⟨J', hh, _⟩
  ·rw [hA.none rfl, hrd7] at hR
   exact ⟨r, hR⟩
  ·obtain ⟨K, hK⟩ := hh; cases hK
 rw [hR] at hrd
 have hs8 : ({ D7 with cr := r } : Dev).sec.length = 140 + 1 := by show D7.sec.length = _; rw [hok7.sec, hs6]
 generalize ({ D7 with cr := r } : Dev) = D8 at hrd hs8
 have hJ7 := hI7.ok
 have D11 := SL.hid (D10.out.trans d11)
 clear h11 h11' d11 D10 hmt hR hI7 hok7 hrd7 hs6 hsq4
 go_wp2_with fail
 (with_reducible refine hrd.mono ?_)
 rintro e w12 ⟨dv, rfl, h12, d12⟩
 have hb12 := h12.ansYes
 obtain ⟨va, vc, rfl⟩ := hb12.bsRd.shape
 rw [bj_len] at hb12 ⊢
 have hfn : Calls Tryz.prog 14 #[ptV d, .int .i64 9] w12 (FmtNo w12) := formatNo_any w12 S11 d 140 D8 9 _ (h12.to (by ac_rfl : _ = devA S11 d D8 * (ansA 5 (0, bj 1) (.slice va 480 vc) * (jrA k d J7 * (pool S11 * (pt t (.cells #[ptV k, .int .i64 ((8 : Nat) : Int), .int .i64 ((140 : Nat) : Int)] 42 (0, 0)) * (stoA s j d 8 140 J4 * whole w))))))) hs8 (by decide) hgn
 have H12 := SL.hid hb12; have D12 := SL.hid (D11.out.trans d12)
 clear hrd h12 hb12 d12 D11
 go_wp2_with fail
 (with_reducible refine hfn.mono ?_)
 rintro e w13 ⟨rfl, h13, d13⟩
 obtain ⟨BIG, hBIG⟩ : ∃ X, X = bs 5 (.slice va 480 vc) (bj 1) * (stoA t k d 8 140 J7 * (devA S11 d D8 * (pool S11 * (stoA s j d 8 140 J4 * whole w)))) := ⟨_, rfl⟩
 have H13 : Sat w13 BIG := by rw [hBIG]; unfold stoA; exact (h13.keepW H12.out).to (by unfold stoA; ac_rfl)
 have HB := SL.hid hBIG
 have D13 := SL.hid (D12.out.trans d13)
 have cx : ∀ w', Sat w' BIG → (convert 22 9 (.slice va 480 vc)).run Tryz.prog w' = .ok (.string (str (bj 1))) w' := fun w' h => run_textU w' _ _ (HB.out ▸ h).bsRd
 have hge : ∀ w', Sat w' BIG → Calls Tryz.prog 15 #[ptV t] w' (GeomQ 8 140 w') := fun w' h => geom_any w' t k d 8 140 J7 _ (h.to (by rw [HB.out]; ac_rfl : _ = stoA t k d 8 140 J7 * (bs 5 (.slice va 480 vc) (bj 1) * (devA S11 d D8 * (pool S11 * (stoA s j d 8 140 J4 * whole w))))))
 have hsq : ∀ w', Sat w' BIG → Calls Tryz.prog 16 #[ptV t] w' (fun e w2 => e = .returned (.int .u64 2) ∧ Sat w2 BIG ∧ Side w' w2) := fun w' h => (seq_any w' t k d 8 140 J7 _ (h.to (by rw [HB.out]; ac_rfl : _ = stoA t k d 8 140 J7 * (bs 5 (.slice va 480 vc) (bj 1) * (devA S11 d D8 * (pool S11 * (stoA s j d 8 140 J4 * whole w)))))) hJ7).mono fun e w2 ⟨a, b, c⟩ => ⟨by rw [a, hsq7], b.to (by rw [HB.out]; ac_rfl), c⟩
 clear hfn h13 d13 H12 D12 hBIG
 go_upto_region 17 with (fail)
 refine wp_region_held_drew (S := (fun w' => Sat w' BIG)) (by kernel_rfl) ?_ (fun hHeld => ?_)
 ·first | exact H13.drew | exact H13 | exact HBA | exact HG3 | exact HQ | assumption
 refine wpAnyH_take (i := 0) (v := ?_) rfl (by kernel_rfl) (by kernel_rfl) (by kernel_rfl) (fun _ _ _ h => h) (Or.inl ⟨by kernel_rfl, ?_⟩) (by assumption) ?_
 rotate_left
 ·intro w hSw; (try dsimp only at hSw); go_simp; try with_reducible rfl
 try simp only [List.getElem_toArray, List.getElem_cons_succ, List.getElem_cons_zero, Act.put, List.setIfInBounds_toArray, List.set_cons_zero, List.set_cons_succ]
 refine wpAnyH_take (i := 1) (v := ?_) rfl (by kernel_rfl) (by kernel_rfl) (by kernel_rfl) (fun _ _ _ h => h) (Or.inl ⟨by kernel_rfl, ?_⟩) (by assumption) ?_
 rotate_left
 ·intro w hSw; (try dsimp only at hSw); go_simp; try with_reducible rfl
 try simp only [List.getElem_toArray, List.getElem_cons_succ, List.getElem_cons_zero, Act.put, List.setIfInBounds_toArray, List.set_cons_zero, List.set_cons_succ]
 refine wpAnyH_take (i := 2) (v := ?_) rfl (by kernel_rfl) (by kernel_rfl) (by kernel_rfl) (fun _ _ _ h => h) (Or.inl ⟨by kernel_rfl, ?_⟩) (by assumption) ?_
 rotate_left
 ·intro w hSw; (try dsimp only at hSw); go_simp; try with_reducible rfl
 try simp only [List.getElem_toArray, List.getElem_cons_succ, List.getElem_cons_zero, Act.put, List.setIfInBounds_toArray, List.set_cons_zero, List.set_cons_succ]
 refine wpAnyH_take (i := 3) (v := ?_) rfl (by kernel_rfl) (by kernel_rfl) (by kernel_rfl) (fun _ _ _ h => h) (Or.inl ⟨by kernel_rfl, ?_⟩) (by assumption) ?_
 rotate_left
 ·intro w hSw; (try dsimp only at hSw); go_simp; try with_reducible rfl
 try simp only [List.getElem_toArray, List.getElem_cons_succ, List.getElem_cons_zero, Act.put, List.setIfInBounds_toArray, List.set_cons_zero, List.set_cons_succ]
 refine wpAnyH_take (i := 4) (v := ?_) rfl (by kernel_rfl) (by kernel_rfl) (by kernel_rfl) (fun _ _ _ h => h) (Or.inl ⟨by kernel_rfl, ?_⟩) (by assumption) ?_
 rotate_left
 ·intro w hSw; (try dsimp only at hSw); go_simp; try with_reducible rfl
 try simp only [List.getElem_toArray, List.getElem_cons_succ, List.getElem_cons_zero, Act.put, List.setIfInBounds_toArray, List.set_cons_zero, List.set_cons_succ]
 refine wpAnyH_take (i := 5) (v := ?_) rfl (by kernel_rfl) (by kernel_rfl) (by kernel_rfl) (fun _ _ _ h => h) (Or.inl ⟨by kernel_rfl, ?_⟩) (by assumption) ?_
 rotate_left
 ·intro w hSw; (try dsimp only at hSw); go_simp; try with_reducible rfl
 try simp only [List.getElem_toArray, List.getElem_cons_succ, List.getElem_cons_zero, Act.put, List.setIfInBounds_toArray, List.set_cons_zero, List.set_cons_succ]
 refine wpAnyH_take (i := 6) (v := ?_) rfl (by kernel_rfl) (by kernel_rfl) (by kernel_rfl) (fun _ _ _ h => h) (Or.inl ⟨by kernel_rfl, ?_⟩) (by assumption) ?_
 rotate_left
 ·intro w hSw; (try dsimp only at hSw); go_simp; try with_reducible rfl
 try simp only [List.getElem_toArray, List.getElem_cons_succ, List.getElem_cons_zero, Act.put, List.setIfInBounds_toArray, List.set_cons_zero, List.set_cons_succ]
 refine wpAnyH_take (i := 7) (v := ?_) rfl (by kernel_rfl) (by kernel_rfl) (by kernel_rfl) (fun _ _ _ h => h) (Or.inl ⟨by kernel_rfl, ?_⟩) (by assumption) ?_
 rotate_left
 ·intro w hSw; (try dsimp only at hSw); go_simp; try with_reducible rfl
 try simp only [List.getElem_toArray, List.getElem_cons_succ, List.getElem_cons_zero, Act.put, List.setIfInBounds_toArray, List.set_cons_zero, List.set_cons_succ]
 refine wpAnyH_take (i := 8) (v := ?_) rfl (by kernel_rfl) (by kernel_rfl) (by kernel_rfl) (fun _ _ _ h => h) (Or.inl ⟨by kernel_rfl, ?_⟩) (by assumption) ?_
 rotate_left
 ·intro w hSw; (try dsimp only at hSw); go_simp; try with_reducible rfl
 try simp only [List.getElem_toArray, List.getElem_cons_succ, List.getElem_cons_zero, Act.put, List.setIfInBounds_toArray, List.set_cons_zero, List.set_cons_succ]
 refine wpAnyH_take (i := 9) (v := ?_) rfl (by kernel_rfl) (by kernel_rfl) (by kernel_rfl) (fun _ _ _ h => h) (Or.inl ⟨by kernel_rfl, ?_⟩) (by assumption) ?_
 rotate_left
 ·intro w hSw; (try dsimp only at hSw); go_simp; try with_reducible rfl
 try simp only [List.getElem_toArray, List.getElem_cons_succ, List.getElem_cons_zero, Act.put, List.setIfInBounds_toArray, List.set_cons_zero, List.set_cons_succ]
 refine wpAnyH_take (i := 10) (v := ?_) rfl (by kernel_rfl) (by kernel_rfl) (by kernel_rfl) (fun _ _ _ h => h) (Or.inl ⟨by kernel_rfl, ?_⟩) (by assumption) ?_
 rotate_left
 ·intro w hSw; (try dsimp only at hSw); go_simp; try with_reducible rfl
 try simp only [List.getElem_toArray, List.getElem_cons_succ, List.getElem_cons_zero, Act.put, List.setIfInBounds_toArray, List.set_cons_zero, List.set_cons_succ]
 refine wpAnyH_take (i := 11) (v := ?_) rfl (by kernel_rfl) (by kernel_rfl) (by kernel_rfl) (fun _ _ _ h => h) (Or.inl ⟨by kernel_rfl, ?_⟩) (by assumption) ?_
 rotate_left
 ·intro w hSw; (try dsimp only at hSw); go_simp; try with_reducible rfl
 try simp only [List.getElem_toArray, List.getElem_cons_succ, List.getElem_cons_zero, Act.put, List.setIfInBounds_toArray, List.set_cons_zero, List.set_cons_succ]
 refine wpAnyH_take (i := 12) (v := ?_) rfl (by kernel_rfl) (by kernel_rfl) (by kernel_rfl) (fun _ _ _ h => h) (Or.inl ⟨by kernel_rfl, ?_⟩) (by assumption) ?_
 rotate_left
 ·intro w hSw; (try dsimp only at hSw); go_simp; try with_reducible rfl
 try simp only [List.getElem_toArray, List.getElem_cons_succ, List.getElem_cons_zero, Act.put, List.setIfInBounds_toArray, List.set_cons_zero, List.set_cons_succ]
 refine wpAnyH_take (i := 13) (v := ?_) rfl (by kernel_rfl) (by kernel_rfl) (by kernel_rfl) (fun _ _ _ h => h) (Or.inl ⟨by kernel_rfl, ?_⟩) (by assumption) ?_
 rotate_left
 ·intro w hSw; (try dsimp only at hSw); go_simp; try with_reducible rfl
 try simp only [List.getElem_toArray, List.getElem_cons_succ, List.getElem_cons_zero, Act.put, List.setIfInBounds_toArray, List.set_cons_zero, List.set_cons_succ]
 refine wpAnyH_take (i := 14) (v := ?_) rfl (by kernel_rfl) (by kernel_rfl) (by kernel_rfl) (fun _ _ _ h => h) (Or.inl ⟨by kernel_rfl, ?_⟩) (by assumption) ?_
 rotate_left
 ·intro w hSw; (try dsimp only at hSw); go_simp; try with_reducible rfl
 try simp only [List.getElem_toArray, List.getElem_cons_succ, List.getElem_cons_zero, Act.put, List.setIfInBounds_toArray, List.set_cons_zero, List.set_cons_succ]
 refine wpAnyH_take (i := 15) (v := ?_) rfl (by kernel_rfl) (by kernel_rfl) (by kernel_rfl) (fun _ _ _ h => h) (Or.inl ⟨by kernel_rfl, ?_⟩) (by assumption) ?_
 rotate_left
 ·intro w hSw; (try dsimp only at hSw); go_simp; try with_reducible rfl
 try simp only [List.getElem_toArray, List.getElem_cons_succ, List.getElem_cons_zero, Act.put, List.setIfInBounds_toArray, List.set_cons_zero, List.set_cons_succ]
 refine wpAnyH_take (i := 16) (v := ?_) rfl (by kernel_rfl) (by kernel_rfl) (by kernel_rfl) (fun _ _ _ h => h) (Or.inl ⟨by kernel_rfl, ?_⟩) (by assumption) ?_
 rotate_left
 ·intro w hSw; (try dsimp only at hSw); go_simp; try with_reducible rfl
 try simp only [List.getElem_toArray, List.getElem_cons_succ, List.getElem_cons_zero, Act.put, List.setIfInBounds_toArray, List.set_cons_zero, List.set_cons_succ]
 refine wpAnyH_take (i := 17) (v := ?_) rfl (by kernel_rfl) (by kernel_rfl) (by kernel_rfl) (fun _ _ _ h => h) (Or.inl ⟨by kernel_rfl, ?_⟩) (by assumption) ?_
 rotate_left
 ·intro w hSw; (try dsimp only at hSw); go_simp; try with_reducible rfl
 try simp only [List.getElem_toArray, List.getElem_cons_succ, List.getElem_cons_zero, Act.put, List.setIfInBounds_toArray, List.set_cons_zero, List.set_cons_succ]
 refine wpAnyH_take (i := 18) (v := ?_) rfl (by kernel_rfl) (by kernel_rfl) (by kernel_rfl) (fun _ _ _ h => h) (Or.inl ⟨by kernel_rfl, ?_⟩) (by assumption) ?_
 rotate_left
 ·intro w hSw; (try dsimp only at hSw); go_simp; try with_reducible rfl
 try simp only [List.getElem_toArray, List.getElem_cons_succ, List.getElem_cons_zero, Act.put, List.setIfInBounds_toArray, List.set_cons_zero, List.set_cons_succ]
 refine wpAnyH_take (i := 19) (v := ?_) rfl (by kernel_rfl) (by kernel_rfl) (by kernel_rfl) (fun _ _ _ h => h) (Or.inl ⟨by kernel_rfl, ?_⟩) (by assumption) ?_
 rotate_left
 ·intro w hSw; (try dsimp only at hSw); go_simp; try with_reducible rfl
 try simp only [List.getElem_toArray, List.getElem_cons_succ, List.getElem_cons_zero, Act.put, List.setIfInBounds_toArray, List.set_cons_zero, List.set_cons_succ]
 refine wpAnyH_take (i := 20) (v := ?_) rfl (by kernel_rfl) (by kernel_rfl) (by kernel_rfl) (fun _ _ _ h => h) (Or.inl ⟨by kernel_rfl, ?_⟩) (by assumption) ?_
 rotate_left
 ·intro w hSw; (try dsimp only at hSw); go_simp; try with_reducible rfl
 try simp only [List.getElem_toArray, List.getElem_cons_succ, List.getElem_cons_zero, Act.put, List.setIfInBounds_toArray, List.set_cons_zero, List.set_cons_succ]
 refine wpAnyH_ready (rs := [21]) (by kernel_rfl) (by simp) ?_
 refine AllReadyH.cons rfl (fun K hK => ?_) AllReadyH.nil
 go_simp
 go_wp2_with (go_at_call 31; (with_reducible refine (block11_any _ _).mono ?_); rintro e wb ⟨gb2, rfl, hb2, db2⟩; have HBA := (hb2.under H13.drew).right; have kb := run_textU _ _ _ (rd_bjU hb2); have DB := D13.out.drew.trans db2)
 refine hK.out _ _ ?_ (fun hHeld => ?_)
 ·first | exact H13.drew | exact H13 | exact HBA | exact HG3 | exact HQ | assumption
 clear hK K
 refine wpAnyH_ready (rs := [22]) (by kernel_rfl) (by simp) ?_
 refine AllReadyH.cons rfl (fun K hK => ?_) AllReadyH.nil
 go_simp
 refine hK.out _ _ ?_ (fun hHeld => ?_)
 ·first | exact H13.drew | exact H13 | exact HBA | exact HG3 | exact HQ | assumption
 clear hK K
 refine wpAnyH_take (i := 23) (v := ?_) rfl (by kernel_rfl) (by kernel_rfl) (by kernel_rfl) (fun _ _ _ h => h) (Or.inl ⟨by kernel_rfl, ?_⟩) (by assumption) ?_
 rotate_left
 ·intro w hSw; (try dsimp only at hSw); go_simp; try with_reducible rfl
 try simp only [List.getElem_toArray, List.getElem_cons_succ, List.getElem_cons_zero, Act.put, List.setIfInBounds_toArray, List.set_cons_zero, List.set_cons_succ]
 refine wpAnyH_take (i := 24) (v := ?_) rfl (by kernel_rfl) (by kernel_rfl) (by kernel_rfl) (fun _ _ _ h => h) (Or.inl ⟨by kernel_rfl, ?_⟩) (by assumption) ?_
 rotate_left
 ·intro w hSw; (try dsimp only at hSw); go_simp; try with_reducible rfl
 try simp only [List.getElem_toArray, List.getElem_cons_succ, List.getElem_cons_zero, Act.put, List.setIfInBounds_toArray, List.set_cons_zero, List.set_cons_succ]
 refine wpAnyH_take (i := 25) (v := ?_) rfl (by kernel_rfl) (by kernel_rfl) (by kernel_rfl) (fun _ _ _ h => h) (Or.inl ⟨by kernel_rfl, ?_⟩) (by assumption) ?_
 rotate_left
 ·intro w hSw; (try dsimp only at hSw); go_simp; try with_reducible rfl
 try simp only [List.getElem_toArray, List.getElem_cons_succ, List.getElem_cons_zero, Act.put, List.setIfInBounds_toArray, List.set_cons_zero, List.set_cons_succ]
 refine wpAnyH_take (i := 26) (v := ?_) rfl (by kernel_rfl) (by kernel_rfl) (by kernel_rfl) (fun _ _ _ h => h) (Or.inl ⟨by kernel_rfl, ?_⟩) (by assumption) ?_
 rotate_left
 ·intro w hSw; (try dsimp only at hSw); go_simp; try with_reducible rfl
 try simp only [List.getElem_toArray, List.getElem_cons_succ, List.getElem_cons_zero, Act.put, List.setIfInBounds_toArray, List.set_cons_zero, List.set_cons_succ]
 refine wpAnyH_take (i := 28) (v := ?_) rfl (by kernel_rfl) (by kernel_rfl) (by kernel_rfl) (fun _ _ _ h => h) (Or.inl ⟨by kernel_rfl, ?_⟩) (by assumption) ?_
 rotate_left
 ·intro w hSw; (try dsimp only at hSw); go_simp; try with_reducible rfl
 try simp only [List.getElem_toArray, List.getElem_cons_succ, List.getElem_cons_zero, Act.put, List.setIfInBounds_toArray, List.set_cons_zero, List.set_cons_succ]
 refine wpAnyH_ready (rs := [27]) (by kernel_rfl) (by simp) ?_
 refine AllReadyH.cons rfl (fun K hK => ?_) AllReadyH.nil
 go_simp
 go_wp2_with (go_at_call 15; (with_reducible refine (hge _ HBA).mono ?_); rintro e wg ⟨rfl, hg3, dg3⟩; have HG3 := hg3.keepW HBA; have DG := DB.trans dg3; unfold geV)
 refine hK.out _ _ ?_ (fun hHeld => ?_)
 ·first | exact H13.drew | exact H13 | exact HBA | exact HG3 | exact HQ | assumption
 clear hK K
 refine wpAnyH_take (i := 29) (v := ?_) rfl (by kernel_rfl) (by kernel_rfl) (by kernel_rfl) (fun _ _ _ h => h) (Or.inl ⟨by kernel_rfl, ?_⟩) (by assumption) ?_
 rotate_left
 ·intro w hSw; (try dsimp only at hSw); go_simp; try with_reducible rfl
 try simp only [List.getElem_toArray, List.getElem_cons_succ, List.getElem_cons_zero, Act.put, List.setIfInBounds_toArray, List.set_cons_zero, List.set_cons_succ]
 refine wpAnyH_take (i := 30) (v := ?_) rfl (by kernel_rfl) (by kernel_rfl) (by kernel_rfl) (fun _ _ _ h => h) (Or.inl ⟨by kernel_rfl, ?_⟩) (by assumption) ?_
 rotate_left
 ·intro w hSw; (try dsimp only at hSw); go_simp; try with_reducible rfl
 try simp only [List.getElem_toArray, List.getElem_cons_succ, List.getElem_cons_zero, Act.put, List.setIfInBounds_toArray, List.set_cons_zero, List.set_cons_succ]
 refine wpAnyH_take (i := 31) (v := ?_) rfl (by kernel_rfl) (by kernel_rfl) (by kernel_rfl) (fun _ _ _ h => h) (Or.inl ⟨by kernel_rfl, ?_⟩) (by assumption) ?_
 rotate_left
 ·intro w hSw; (try dsimp only at hSw); go_simp; try with_reducible rfl
 try simp only [List.getElem_toArray, List.getElem_cons_succ, List.getElem_cons_zero, Act.put, List.setIfInBounds_toArray, List.set_cons_zero, List.set_cons_succ]
 refine wpAnyH_take (i := 32) (v := ?_) rfl (by kernel_rfl) (by kernel_rfl) (by kernel_rfl) (fun _ _ _ h => h) (Or.inl ⟨by kernel_rfl, ?_⟩) (by assumption) ?_
 rotate_left
 ·intro w hSw; (try dsimp only at hSw); go_simp; try with_reducible rfl
 try simp only [List.getElem_toArray, List.getElem_cons_succ, List.getElem_cons_zero, Act.put, List.setIfInBounds_toArray, List.set_cons_zero, List.set_cons_succ]
 refine wpAnyH_take (i := 33) (v := ?_) rfl (by kernel_rfl) (by kernel_rfl) (by kernel_rfl) (fun _ _ _ h => h) (Or.inl ⟨by kernel_rfl, ?_⟩) (by assumption) ?_
 rotate_left
 ·intro w hSw; (try dsimp only at hSw); go_simp; try with_reducible rfl
 try simp only [List.getElem_toArray, List.getElem_cons_succ, List.getElem_cons_zero, Act.put, List.setIfInBounds_toArray, List.set_cons_zero, List.set_cons_succ]
 refine wpAnyH_take (i := 34) (v := ?_) rfl (by kernel_rfl) (by kernel_rfl) (by kernel_rfl) (fun _ _ _ h => h) (Or.inl ⟨by kernel_rfl, ?_⟩) (by assumption) ?_
 rotate_left
 ·intro w hSw; (try dsimp only at hSw); go_simp; try with_reducible rfl
 try simp only [List.getElem_toArray, List.getElem_cons_succ, List.getElem_cons_zero, Act.put, List.setIfInBounds_toArray, List.set_cons_zero, List.set_cons_succ]
 refine wpAnyH_take (i := 35) (v := ?_) rfl (by kernel_rfl) (by kernel_rfl) (by kernel_rfl) (fun _ _ _ h => h) (Or.inl ⟨by kernel_rfl, ?_⟩) (by assumption) ?_
 rotate_left
 ·intro w hSw; (try dsimp only at hSw); go_simp; try with_reducible rfl
 try simp only [List.getElem_toArray, List.getElem_cons_succ, List.getElem_cons_zero, Act.put, List.setIfInBounds_toArray, List.set_cons_zero, List.set_cons_succ]
 refine wpAnyH_take (i := 36) (v := ?_) rfl (by kernel_rfl) (by kernel_rfl) (by kernel_rfl) (fun _ _ _ h => h) (Or.inl ⟨by kernel_rfl, ?_⟩) (by assumption) ?_
 rotate_left
 ·intro w hSw; (try dsimp only at hSw); go_simp; try with_reducible rfl
 try simp only [List.getElem_toArray, List.getElem_cons_succ, List.getElem_cons_zero, Act.put, List.setIfInBounds_toArray, List.set_cons_zero, List.set_cons_succ]
 refine wpAnyH_ready (rs := [37]) (by kernel_rfl) (by simp) ?_
 refine AllReadyH.cons rfl (fun K hK => ?_) AllReadyH.nil
 go_simp
 go_wp2_with (go_at_call 16; (with_reducible refine (hsq _ HG3).mono ?_); rintro e wq ⟨rfl, HQ, dq⟩; have DQ := DG.trans dq)
 refine hK.out _ _ ?_ (fun hHeld => ?_)
 ·first | exact H13.drew | exact H13 | exact HBA | exact HG3 | exact HQ | assumption
 clear hK K
 refine wpAnyH_take (i := 38) (v := ?_) rfl (by kernel_rfl) (by kernel_rfl) (by kernel_rfl) (fun _ _ _ h => h) (Or.inl ⟨by kernel_rfl, ?_⟩) (by assumption) ?_
 rotate_left
 ·intro w hSw; (try dsimp only at hSw); go_simp; try with_reducible rfl
 try simp only [List.getElem_toArray, List.getElem_cons_succ, List.getElem_cons_zero, Act.put, List.setIfInBounds_toArray, List.set_cons_zero, List.set_cons_succ]
 refine wpAnyH_take (i := 39) (v := ?_) rfl (by kernel_rfl) (by kernel_rfl) (by kernel_rfl) (fun _ _ _ h => h) (Or.inl ⟨by kernel_rfl, ?_⟩) (by assumption) ?_
 rotate_left
 ·intro w hSw; (try dsimp only at hSw); go_simp; try with_reducible rfl
 try simp only [List.getElem_toArray, List.getElem_cons_succ, List.getElem_cons_zero, Act.put, List.setIfInBounds_toArray, List.set_cons_zero, List.set_cons_succ]
 refine wpAnyH_take (i := 40) (v := ?_) rfl (by kernel_rfl) (by kernel_rfl) (by kernel_rfl) (fun _ _ _ h => h) (Or.inl ⟨by kernel_rfl, ?_⟩) (by assumption) ?_
 rotate_left
 ·intro w hSw; (try dsimp only at hSw); go_simp; try with_reducible rfl
 try simp only [List.getElem_toArray, List.getElem_cons_succ, List.getElem_cons_zero, Act.put, List.setIfInBounds_toArray, List.set_cons_zero, List.set_cons_succ]
 refine wpAnyH_done (by kernel_rfl) ?_ _
 go_wp2_with fail
 go_ret
 exact ⟨rfl, (HQ.to (by rw [HB.out]; ac_rfl : _ = (bs 5 (.slice va 480 vc) (bj 1) * (stoA t k d 8 140 J7 * (devA S11 d D8 * (pool S11 * stoA s j d 8 140 J4)))) * whole w)).right, DQ⟩
end Go.Proofs.YtdafdidmbeecfaaGreatDoor.Su
end

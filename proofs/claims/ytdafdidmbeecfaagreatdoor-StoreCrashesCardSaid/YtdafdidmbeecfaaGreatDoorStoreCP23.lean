/- Steps towards the statement StoreC. -/
import Derived.Test.YtdafdidmbeecfaaGreatDoorStoreCP19
import Derived.Test.YtdafdidmbeecfaaGreatDoorStoreCP20
import Derived.Test.YtdafdidmbeecfaaGreatDoorStoreCP21
import Derived.Test.YtdafdidmbeecfaaGreatDoorStoreCP22
import Derived.Sort.Walk13a
import Derived.Sort.AssemblyPlain
import Derived.Deep.LoopGhost
section
namespace Go.Proofs.YtdafdidmbeecfaaGreatDoor
set_option linter.unusedVariables false
set_option linter.unusedSimpArgs false
open Go.RowKit Go.SL Go.Sort
theorem hintN_two {h : Hint} (e : hintN h = 2) : h = .decreasing := by cases h <;> simp [hintN] at e ⊢
theorem eighthU {x y p q : Nat} (h1 : q ≤ p) (h2 : y ≤ x) : decide (((x : Int) - (y : Int)) / 8 ≤ (p : Int) - (q : Int)) = decide (p - q ≥ (x - y) / 8) :=
 decide_eq_decide.2 ⟨fun h => by omega, fun h => by omega⟩
def PdRel (g : Nat) (d0 : Array Int) (a b limit : Nat) (R : Array Int) (tl : List Value) (F : Assn) (w : World) (k : Nat) (s1 s2 s3 s8 s9 : Value) (wr : World) : Prop :=
 ∃ (a' b' lim : Nat) (wb wp : Bool) (dk : Array Int), s1 = .int .i64 (a' : Int) ∧ s2 = .int .i64 (b' : Int) ∧ s3 = .int .i64 (lim : Int) ∧ s8 = .bool wb ∧ s9 = .bool wp ∧
  a' ≤ b' ∧ b' ≤ d0.size ∧ b' - a' ≤ k ∧ k ≤ b - a ∧ lim ≤ limit ∧ dk.size = d0.size ∧ Below ltInt a' b' dk ∧ pdq ltInt dk a' b' lim wb wp = R ∧ Sat wr (uA g dk tl * F) ∧ Side w wr
set_option maxRecDepth 100000 in
set_option maxHeartbeats 16000000 in
theorem pdq_any : ∀ (N g : Nat) (d0 : Array Int) (a b limit cap : Nat) (tl : List Value) (w : World) (F : Assn), b - a < N → Sat w (uA g d0 tl * F) → a ≤ b → b ≤ d0.size → d0.size ≤ 1000000000 → d0.size ≤ cap → limit ≤ 1000 → Below ltInt a b d0 →
    Calls Tryz.prog 133 #[.slice (some ⟨g, 0, none⟩) d0.size cap, .int .i64 (a : Int), .int .i64 (b : Int), .int .i64 (limit : Int)] w (ArrQ g (pdq ltInt d0 a b limit true true) tl F w) := by
  intro N
  induction N with
  | zero => intro _ _ _ _ _ _ _ _ _ h; exact absurd h (Nat.not_lt_zero _)
  | succ N ih =>
    intro g d0 a b limit cap tl w F hN h hab hb hsz hcap hlimit hBel0
    have hs1 : (d0.size : Int) ≤ 1000000000 := by omega
    obtain ⟨R, hR⟩ : ∃ R, pdq ltInt d0 a b limit true true = R := ⟨_, rfl⟩
    rw [hR]
    have HR := SL.hid hR
    clear hR
    go_enter Tryz.func133, Tryz.ntmps133
    go_wp2_with fail
    go_loopg [1, 2, 3, 8, 9] (b - a) (fun k s1 s2 s3 s8 s9 wr => PdRel g d0 a b limit R tl F w k s1 s2 s3 s8 s9 wr)
    case atStart => exact ⟨a, b, limit, true, true, d0, rfl, rfl, rfl, rfl, rfl, hab, hb, Nat.le_refl _, Nat.le_refl _, Nat.le_refl _, rfl, hBel0, HR.out, h, Side.refl w⟩
    case round =>
      clear h HR
      obtain ⟨a', b', lim, wb, wp, dk, rfl, rfl, rfl, rfl, rfl, hab', hb', hk, hkN, hlim, hds, hBel, heq, hsat, hside⟩ := hrel
      have A := SL.hid heq; have H := SL.hid hsat; have Hds := SL.hid hds; have D := SL.hid hside
      clear heq hsat hds hside
      have ba' : (a' : Int) ≤ 1000000000 := by omega
      have bb' : (b' : Int) ≤ 1000000000 := by omega
      have bl' : (lim : Int) ≤ 1000 := by omega
      by_cases h12 : b' - a' ≤ 12
      · have h12z : (b' : Int) - (a' : Int) ≤ 12 := by omega
        have hc := insertion_any g dk a' b' cap tl wr F H.out hab' (by rw [Hds.out]; omega) (by rw [Hds.out]; omega) (by rw [Hds.out]; omega)
        rw [Hds.out] at hc
        have hp := pdq_small (lt := ltInt) (d := dk) (limit := lim) (wb := wb) (wp := wp) h12
        rw [A.out] at hp
        have Hp := SL.hid hp
        have Hc := SL.hid hc
        clear hp hc
        go_wp2_with (go_at_call 142; refine Hc.out.mono ?_; rintro e w1 ⟨rfl, hw1, sw1⟩)
        (try simp only [Exit.inBlock, Exit.then])
        refine bodyPost_ret (results_none rfl _ _ _) rfl ?_
        exact ⟨rfl, by rw [Hp.out]; exact hw1, D.out.trans sw1⟩
      · have h12z : ¬ ((b' : Int) - (a' : Int) ≤ 12) := by omega
        by_cases hl0 : lim = 0
        · subst hl0
          have hc := heap_any g dk a' b' cap tl wr F H.out (by omega) (by rw [Hds.out]; omega) (by rw [Hds.out]; omega) (by rw [Hds.out]; omega)
          rw [Hds.out] at hc
          have hp := pdq_heap (lt := ltInt) (d := dk) (limit := 0) (wb := wb) (wp := wp) h12 rfl
          rw [A.out] at hp
          have Hp := SL.hid hp
          have Hc := SL.hid hc
          clear hp hc
          go_wp2_with (go_at_call 143; refine Hc.out.mono ?_; rintro e w1 ⟨rfl, hw1, sw1⟩)
          (try simp only [Exit.inBlock, Exit.then])
          refine bodyPost_ret (results_none rfl _ _ _) rfl ?_
          exact ⟨rfl, by rw [Hp.out]; exact hw1, D.out.trans sw1⟩
        · have hl0z : ¬ ((lim : Int) = 0) := by omega
          have hl0b : ((lim : Int) == 0) = false := by simp; omega
          obtain ⟨r, hr⟩ : ∃ r, rd ltInt dk a' b' lim wb wp = r := ⟨_, rfl⟩
          obtain ⟨s1, B1, hc1, s2, B2, hpv, s3, B3⟩ := rd_facts (limit := lim) (wb := wb) (wp := wp) swo_ltInt partialInsertionSort_holds reverseRange_holds (show a' < b' by omega) (show b' ≤ dk.size by have := Hds.out; omega) hBel
          have hlim1 := rd_lim_le (lt := ltInt) (d := dk) (a := a') (b := b') (limit := lim) (wb := wb) (wp := wp)
          have hrc := rd_c (lt := ltInt) (d := dk) (a := a') (b := b') (limit := lim) (wb := wb) (wp := wp)
          rw [hr] at s1 B1 hc1 s2 B2 hpv s3 B3 hlim1 hrc
          rw [Hds.out] at s1 s2 s3
          have Hr := SL.hid hr; have S1 := SL.hid s1; have S2 := SL.hid s2; have S3 := SL.hid s3; have Hc1 := SL.hid hc1; have Hpv := SL.hid hpv; have Hrc := SL.hid hrc
          clear hr s1 s2 s3 hc1 hpv hrc
          have hcz : (r.c.1 : Int) ≤ 1000000000 := by have := Hc1.out; omega
          have hcz2 : (a' : Int) ≤ (r.c.1 : Int) := by have := Hc1.out; omega
          have hpz : (r.pivot : Int) ≤ 1000000000 := by have := Hpv.out; omega
          have hlz : (r.lim : Int) ≤ 1000 := by omega
          go_upto_if 35 with fail
          go_cut [3] from 19 to 133 (fun s3 wx => s3 = .int .i64 (r.lim : Int) ∧ Sat wx (uA g r.d1 tl * F) ∧ Side w wx)
          case first =>
            cases wb
            · have hc := patterns_any g dk a' b' cap tl wr F H.out (by omega) (by rw [Hds.out]; omega) (by rw [Hds.out]; omega) (by rw [Hds.out]; omega)
              rw [Hds.out] at hc
              have e1 : r.d1 = breakPatterns dk a' b' := by rw [← Hr.out]; rfl
              have e2 : r.lim = lim - 1 := by rw [← Hr.out]; rfl
              have E1 := SL.hid e1; have E2 := SL.hid e2; have Hc := SL.hid hc
              clear e1 e2 hc
              go_wp2_with (go_at_call 144; refine Hc.out.mono ?_; rintro e w1 ⟨rfl, hw1, sw1⟩)
              go_meet
              case rel => exact ⟨by have e5 := E2.out; go_num, by rw [E1.out]; exact hw1, D.out.trans sw1⟩
            · have e1 : r.d1 = dk := by rw [← Hr.out]; rfl
              have e2 : r.lim = lim := by rw [← Hr.out]; rfl
              have E1 := SL.hid e1; have E2 := SL.hid e2
              clear e1 e2
              go_wp2_with fail
              go_meet
              case rel => exact ⟨by rw [E2.out], by rw [E1.out]; exact H.out, D.out⟩
          case rest =>
            obtain ⟨rfl, hsat1, hside1⟩ := hcut
            clear H D
            have H1 := SL.hid hsat1; have D1 := SL.hid hside1
            clear hsat1 hside1
            have hc17 := choose_any g r.d1 a' b' cap tl wc F H1.out (by omega) (by rw [S1.out]; omega) (by rw [S1.out]; omega) (by rw [S1.out]; omega)
            rw [S1.out, ← Hrc.out] at hc17
            have Hc17 := SL.hid hc17
            clear hc17
            go_upto_if 50 with (go_at_call 145; refine Hc17.out.mono ?_; rintro e w2 ⟨rfl, hw2, sw2⟩)
            have H2 := SL.hid hw2; have D2 := SL.hid (D1.out.trans sw2)
            clear hw2 sw2 H1 D1 Hc17
            go_cut [11, 12] from 19 to 133 (fun s11 s12 wx => s11 = .int .i64 (r.pivot : Int) ∧ s12 = .int .i64 (hintN r.hint) ∧ Sat wx (uA g r.d2 tl * F) ∧ Side w wx)
            case first =>
              by_cases hh : r.c.2 = .decreasing
              · have hcode : hintN r.c.2 = 2 := by rw [hh]; rfl
                have hdec := rd_dec (lt := ltInt) (d := dk) (a := a') (b := b') (limit := lim) (wb := wb) (wp := wp) (by rw [Hr.out]; exact hh)
                rw [Hr.out] at hdec
                have E := SL.hid hdec
                clear hdec
                have hc18 := reverse_any g r.d1 a' b' cap tl w2 F H2.out (by omega) (by rw [S1.out]; omega) (by rw [S1.out]; omega) (by rw [S1.out]; omega)
                rw [S1.out, ← E.out.1] at hc18
                have Hc18 := SL.hid hc18
                clear hc18
                have hpe : (b' : Int) - 1 - ((r.c.1 : Int) - (a' : Int)) = (r.pivot : Int) := by have := E.out.2.1; have := Hc1.out; omega
                go_wp2_with (go_at_call 146; refine Hc18.out.mono ?_; rintro e w3 ⟨rfl, hw3, sw3⟩)
                go_meet
                case rel => exact ⟨by first | rfl | rw [hpe], by rw [E.out.2.2]; rfl, hw3, D2.out.trans sw3⟩
              · have hcode : ¬ (hintN r.c.2 = 2) := fun h => hh (hintN_two h)
                have hnot := rd_not (lt := ltInt) (d := dk) (a := a') (b := b') (limit := lim) (wb := wb) (wp := wp) (by rw [Hr.out]; exact hh)
                rw [Hr.out] at hnot
                have E := SL.hid hnot
                clear hnot
                go_wp2_with fail
                go_meet
                case rel => exact ⟨by rw [E.out.2.1], by rw [E.out.2.2], by rw [E.out.1]; exact H2.out, D2.out⟩
            case rest =>
              obtain ⟨rfl, rfl, hsat3, hside3⟩ := hcut
              clear H2 D2
              have H3 := SL.hid hsat3; have D3 := SL.hid hside3
              clear hsat3 hside3
              go_upto_region 15 with fail
              go_cut [12, 68] from 19 to 133 (fun s12 s68 wx => s12 = .int .i64 (hintN r.hint) ∧ s68 = .bool (wb && wp && decide (r.hint = .increasing)) ∧ wx = wc)
              case first =>
                cases wb <;> cases wp <;> cases hh3 : r.hint <;>
                  (have hcode3 := congrArg hintN hh3
                   simp only [hintN] at hcode3
                   go_wp2_with fail
                   go_meet
                   exact ⟨by simp [hh3, hintN], by simp [hh3, hintN], rfl⟩)
              case rest =>
                obtain ⟨rfl, rfl, rfl⟩ := hcut
                go_upto_if 68 with fail
                go_cut [] from 19 to 133 (fun wx => r.pi.2 = false ∧ Sat wx (uA g r.pi.1 tl * F) ∧ Side w wx)
                case first =>
                  cases h68 : (wb && wp && decide (r.hint = .increasing))
                  · have epi := rd_pi_no (lt := ltInt) (d := dk) (a := a') (b := b') (limit := lim) (wb := wb) (wp := wp) (by rw [Hr.out]; exact h68)
                    rw [Hr.out] at epi
                    have E := SL.hid epi
                    clear epi
                    go_wp2_with fail
                    go_meet
                    case rel => exact ⟨by rw [E.out], by rw [E.out]; exact H3.out, D3.out⟩
                  · have epi := rd_pi_yes (lt := ltInt) (d := dk) (a := a') (b := b') (limit := lim) (wb := wb) (wp := wp) (by rw [Hr.out]; exact h68)
                    rw [Hr.out] at epi
                    have hc19 := partial_any g r.d2 a' b' cap tl wc F H3.out (by omega) (by rw [S2.out]; omega) (by rw [S2.out]; omega) (by rw [S2.out]; omega)
                    rw [S2.out, ← epi] at hc19
                    have Hc19 := SL.hid hc19
                    clear hc19 epi
                    cases hp2 : r.pi.2 with
                    | false =>
                      have Hd : Hid (∀ e w', PiQ g r.pi tl F wc e w' → e = .returned (.bool false) ∧ Sat w' (uA g r.pi.1 tl * F) ∧ Side wc w') := SL.hid (fun e w' h => ⟨by rw [h.1, hp2], h.2⟩)
                      have Hp2 := SL.hid hp2
                      clear hp2
                      go_wp2_with (go_at_call 147; refine Hc19.out.mono ?_; intro e w4 hq4; obtain ⟨rfl, hw4, sw4⟩ := Hd.out e w4 hq4)
                      go_meet
                      exact ⟨Hp2.out, hw4, D3.out.trans sw4⟩
                    | true =>
                      have Hd : Hid (∀ e w', PiQ g r.pi tl F wc e w' → e = .returned (.bool true) ∧ Sat w' (uA g r.pi.1 tl * F) ∧ Side wc w') := SL.hid (fun e w' h => ⟨by rw [h.1, hp2], h.2⟩)
                      have hp := pdq_done (lt := ltInt) (d := dk) (a := a') (b := b') (limit := lim) (wb := wb) (wp := wp) h12 hl0 (by rw [Hr.out]; exact hp2)
                      rw [Hr.out, A.out] at hp
                      have Hp := SL.hid hp
                      clear hp hp2
                      go_wp2_with (go_at_call 147; refine Hc19.out.mono ?_; intro e w4 hq4; obtain ⟨rfl, hw4, sw4⟩ := Hd.out e w4 hq4)
                      (try simp only [Exit.inBlock, Exit.then])
                      refine bodyPost_ret (results_none rfl _ _ _) rfl ?_
                      exact ⟨rfl, by rw [Hp.out]; exact hw4, D3.out.trans sw4⟩
                case rest =>
                  obtain ⟨hp2, hsat5, hside5⟩ := hcut
                  clear H3 D3
                  have H5 := SL.hid hsat5; have D5 := SL.hid hside5; have Hp2 := SL.hid hp2
                  clear hsat5 hside5 hp2
                  go_upto_region 17 with fail
                  go_cut [87] from 19 to 133 (fun s87 wx => s87 = .bool (decide (a' > 0) && !ltInt r.pi.1[a' - 1]! r.pi.1[r.pivot]!) ∧ Sat wx (uA g r.pi.1 tl * F) ∧ Side w wx)
                  case first =>
                    rcases Nat.eq_zero_or_pos a' with ha0 | ha0
                    · have ha0z : decide ((a' : Int) > 0) = false := decide_eq_false (by omega)
                      have ha0y : decide (0 < (a' : Int)) = false := decide_eq_false (by omega)
                      have ha0x : decide (0 < a') = false := decide_eq_false (by omega)
                      have Ha0 := SL.hid ha0
                      clear ha0
                      go_quiet (fail)
                      go_wp2_with fail
                      go_meet
                      case rel => exact ⟨by simp [Ha0.out], H5.out.drew, D5.out.drewN nq⟩
                    · obtain ⟨k, hk1⟩ : ∃ k, a' = k + 1 := ⟨a' - 1, by omega⟩
                      have sk1 : (a' : Int) - 1 = (k : Int) := by omega
                      have sk2 : IntKind.i64.wrap ((a' : Int) - 1) = (k : Int) := by rw [IntKind.wrap_i64]; omega
                      have sk3 : IntKind.i64.wrap (k : Int) = (k : Int) := by rw [IntKind.wrap_i64]; omega
                      have ha0z : (a' : Int) > 0 := by omega
                      have bk : (k : Int) < (d0.size : Int) := by omega
                      have bp : (r.pivot : Int) < (d0.size : Int) := by have := Hpv.out; omega
                      have ck := uA_cell H5.out (k := k) (by rw [S3.out]; omega)
                      have cp := uA_cell H5.out (k := r.pivot) (by rw [S3.out]; have := Hpv.out; omega)
                      have hka : a' - 1 = k := by omega
                      have HL : Hid (∀ w, Calls Tryz.prog 148 #[.int .u32 r.pi.1[k]!, .int .u32 r.pi.1[r.pivot]!] w fun e w' => e = .returned (.bool (ltInt r.pi.1[k]! r.pi.1[r.pivot]!)) ∧ w' = w) := SL.hid (fun w => less_any _ _ w)
                      have hd0 : decide (a' > 0) = true := decide_eq_true ha0
                      have Hka := SL.hid hka; have Hd0 := SL.hid hd0
                      clear hka hd0 hk1
                      generalize hx : r.pi.1[k]! = x at *
                      generalize hy : r.pi.1[r.pivot]! = y at *
                      have Hx := SL.hid hx
                      clear hx hy
                      obtain ⟨z, hz⟩ : ∃ z, ltInt x y = z := ⟨_, rfl⟩
                      rw [hz] at HL
                      have Hz := SL.hid hz
                      clear hz
                      go_quiet ((go_at_call 148; exact Calls.quiet_of_same (HL.out _)))
                      go_wp2_with fail
                      go_meet
                      case rel => exact ⟨by rw [Hka.out, Hx.out, Hz.out, Hd0.out]; rfl, H5.out.drew, D5.out.drewN nq⟩
                  case rest =>
                    obtain ⟨rfl, hsat6, hside6⟩ := hcut
                    clear H5 D5
                    have H6 := SL.hid hsat6; have D6 := SL.hid hside6
                    clear hsat6 hside6
                    cases h87 : (decide (a' > 0) && !ltInt r.pi.1[a' - 1]! r.pi.1[r.pivot]!)
                    · obtain ⟨mid, ap, d4, hx⟩ : ∃ mid ap d4, partition ltInt r.pi.1 a' b' r.pivot = (mid, ap, d4) := ⟨(partition ltInt r.pi.1 a' b' r.pivot).1, (partition ltInt r.pi.1 a' b' r.pivot).2.1, (partition ltInt r.pi.1 a' b' r.pivot).2.2, rfl⟩
                      obtain ⟨r1, r2, r3, r4, r5, r6, r7⟩ := round_part swo_ltInt (partition_holds ltInt) Hpv.out.1 Hpv.out.2 (show b' ≤ r.pi.1.size by rw [S3.out]; omega) B3 hx
                      have hc22 := partition_any g r.pi.1 a' b' r.pivot cap tl wc F H6.out Hpv.out.1 Hpv.out.2 (by rw [S3.out]; omega) (by rw [S3.out]; omega) (by rw [S3.out]; omega)
                      rw [S3.out, hx] at hc22
                      rw [S3.out] at r3
                      have X := SL.hid hx; have Hc22 := SL.hid hc22; have R3 := SL.hid r3; have R6 := SL.hid r6; have R7 := SL.hid r7
                      have H87 := SL.hid h87
                      clear hx hc22 r3 r6 r7 h87
                      have bm : (mid : Int) ≤ 1000000000 := by omega
                      have bm2 : (a' : Int) ≤ (mid : Int) := by omega
                      have bm3 : (mid : Int) < (b' : Int) := by omega
                      go_upto_if 113 with (go_at_call 150; refine Hc22.out.mono ?_; rintro e w7 ⟨rfl, hw7, sw7⟩)
                      have H7 := SL.hid hw7; have D7 := SL.hid (D6.out.trans sw7)
                      clear hw7 sw7 H6 D6 Hc22
                      by_cases h4 : mid - a' < b' - mid
                      · have h4z : (mid : Int) - (a' : Int) < (b' : Int) - (mid : Int) := by omega
                        have hih := ih g d4 a' mid r.lim cap tl w7 F (by omega) H7.out (by omega) (by rw [R3.out]; omega) (by rw [R3.out]; omega) (by rw [R3.out]; omega) (by omega) r4
                        rw [R3.out] at hih
                        obtain ⟨pL, sL⟩ := pdq_sorts ltInt swo_ltInt d4 a' mid r.lim true true (by omega) (by rw [R3.out]; omega) r4
                        have hfin := pdq_left (lt := ltInt) (d := dk) (a := a') (b := b') (limit := lim) (wb := wb) (wp := wp) h12 hl0 (by rw [Hr.out]; exact Hp2.out) (by rw [Hr.out]; exact H87.out) (by rw [Hr.out, X.out]; exact ⟨r1, r2⟩) (by rw [Hr.out, X.out]; exact h4)
                        rw [Hr.out, X.out, A.out] at hfin
                        have Hf := SL.hid hfin; have Hih := SL.hid hih; have PL := SL.hid pL; have SL' := SL.hid sL
                        clear hfin hih pL sL
                        have h8 := eighthU (x := b') (y := a') (p := mid) (q := a') (by omega) (by omega)
                        have H8 := SL.hid h8
                        clear h8
                        go_wp2_with (go_at_call 133; refine Hih.out.mono ?_; rintro e w8 ⟨rfl, hw8, sw8⟩)
                        go_roundg (b' - (mid + 1))
                        case measure => omega
                        case rel =>
                          exact ⟨mid + 1, b', r.lim, decide (mid - a' ≥ (b' - a') / 8), ap, pdq ltInt d4 a' mid r.lim true true, by go_num, rfl, rfl, by first | exact congrArg Value.bool H8.out | (rw [← H8.out]), rfl, by omega, by omega, Nat.le_refl _, by omega, by omega, by rw [PL.out.1, R3.out], (R6.out _ PL.out SL'.out).1, Hf.out.symm, hw8, D7.out.trans sw8⟩
                      · have h4z : ¬ ((mid : Int) - (a' : Int) < (b' : Int) - (mid : Int)) := by omega
                        have hih := ih g d4 (mid + 1) b' r.lim cap tl w7 F (by omega) H7.out (by omega) (by rw [R3.out]; omega) (by rw [R3.out]; omega) (by rw [R3.out]; omega) (by omega) r5
                        rw [R3.out] at hih
                        have hih2 : Calls Tryz.prog 133 #[.slice (some ⟨g, 0, none⟩) d0.size cap, .int .i64 ((mid : Int) + 1), .int .i64 (b' : Int), .int .i64 (r.lim : Int)] w7 (ArrQ g (pdq ltInt d4 (mid + 1) b' r.lim true true) tl F w7) := hih
                        obtain ⟨pL, sL⟩ := pdq_sorts ltInt swo_ltInt d4 (mid + 1) b' r.lim true true (by omega) (by rw [R3.out]; omega) r5
                        have hfin := pdq_right (lt := ltInt) (d := dk) (a := a') (b := b') (limit := lim) (wb := wb) (wp := wp) h12 hl0 (by rw [Hr.out]; exact Hp2.out) (by rw [Hr.out]; exact H87.out) (by rw [Hr.out, X.out]; exact ⟨r1, r2⟩) (by rw [Hr.out, X.out]; exact h4)
                        rw [Hr.out, X.out, A.out] at hfin
                        have Hf := SL.hid hfin; have Hih := SL.hid hih2; have PL := SL.hid pL; have SL' := SL.hid sL
                        clear hfin hih hih2 pL sL
                        have h8 := eighthU (x := b') (y := a') (p := b') (q := mid) (by omega) (by omega)
                        have H8 := SL.hid h8
                        clear h8
                        go_wp2_with (go_at_call 133; refine Hih.out.mono ?_; rintro e w8 ⟨rfl, hw8, sw8⟩)
                        go_roundg (mid - a')
                        case measure => omega
                        case rel =>
                          exact ⟨a', mid, r.lim, decide (b' - mid ≥ (b' - a') / 8), ap, pdq ltInt d4 (mid + 1) b' r.lim true true, rfl, rfl, rfl, by first | exact congrArg Value.bool H8.out | (rw [← H8.out]), rfl, by omega, by omega, Nat.le_refl _, by omega, by omega, by rw [PL.out.1, R3.out], (R7.out _ PL.out SL'.out).1, Hf.out.symm, hw8, D7.out.trans sw8⟩
                    · have h87' := h87
                      simp only [Bool.and_eq_true, decide_eq_true_eq, Bool.not_eq_true'] at h87'
                      obtain ⟨mid, d4, hx⟩ : ∃ mid d4, partitionEqual ltInt r.pi.1 a' b' r.pivot = (mid, d4) := ⟨(partitionEqual ltInt r.pi.1 a' b' r.pivot).1, (partitionEqual ltInt r.pi.1 a' b' r.pivot).2, rfl⟩
                      obtain ⟨r1, r2, r3, r4, _⟩ := round_eq swo_ltInt (partitionEqual_holds ltInt) h87'.1 Hpv.out.1 Hpv.out.2 (show b' ≤ r.pi.1.size by rw [S3.out]; omega) B3 h87'.2 hx
                      have hc21 := partEq_any g r.pi.1 a' b' r.pivot cap tl wc F H6.out Hpv.out.1 Hpv.out.2 (by rw [S3.out]; omega) (by rw [S3.out]; omega) (by rw [S3.out]; omega)
                      rw [S3.out, hx] at hc21
                      rw [S3.out] at r3
                      have hfin := pdq_eq (lt := ltInt) (d := dk) (a := a') (b := b') (limit := lim) (wb := wb) (wp := wp) h12 hl0 (by rw [Hr.out]; exact Hp2.out) (by rw [Hr.out]; exact h87) (by rw [Hr.out, hx]; exact ⟨r1, r2⟩)
                      rw [Hr.out, hx, A.out] at hfin
                      have Hf := SL.hid hfin; have Hc21 := SL.hid hc21; have R3 := SL.hid r3
                      clear hfin hc21 r3 hx h87'
                      go_wp2_with (go_at_call 149; refine Hc21.out.mono ?_; rintro e w7 ⟨rfl, hw7, sw7⟩)
                      go_roundg (b' - mid)
                      case measure => omega
                      case rel => exact ⟨mid, b', r.lim, wb, wp, d4, rfl, rfl, rfl, rfl, rfl, r2, hb', Nat.le_refl _, by omega, by omega, R3.out, r4, Hf.out.symm, hw7, D6.out.trans sw7⟩
end Go.Proofs.YtdafdidmbeecfaaGreatDoor
namespace Go.Proofs.YtdafdidmbeecfaaGreatDoor
set_option linter.unusedVariables false
set_option linter.unusedSimpArgs false
open Go.RowKit Go.SL Go.Sort
def i64vU (l : List Int) : List Value := l.map (Value.int .u32)
def sortedU (l : List Int) : List Int := l.mergeSort fun x y => decide (x ≤ y)
theorem bitsLenU (n : Nat) (hn : n ≤ 1000000000) (w : World) : Calls Tryz.prog 134 #[.int .u64 (n : Int)] w fun e w' => e = .returned (.int .i64 ((bitsLen n : Nat) : Int)) ∧ w' = w := by
 have h := Tryz.bits_Len (n : Int) w (by omega) (by omega)
 rwa [Int.toNat_natCast, bitLen_eq _ (by omega)] at h
theorem ins_nil (w : World) : Calls Tryz.prog 142 #[.slice none 0 0, .int .i64 0, .int .i64 0] w fun e w' => e = .returned (.tuple #[]) ∧ w' = w := by
 go_enter Tryz.func142, Tryz.ntmps142
 go_wp2_with fail
 go_loopw [6] (fun u wr => u = .int .i64 1 ∧ wr = w) (fun _ _ => 0)
 case atStart => exact ⟨rfl, rfl⟩
 case round =>
  obtain ⟨rfl, rfl⟩ := hrel
  go_wp2_with fail
  (try go_end0)
  exact ⟨rfl, rfl⟩
theorem pdq_nil (w : World) : Calls Tryz.prog 133 #[.slice none 0 0, .int .i64 0, .int .i64 0, .int .i64 0] w fun e w' => e = .returned (.tuple #[]) ∧ w' = w := by
 have hi := ins_nil
 go_enter Tryz.func133, Tryz.ntmps133
 go_wp2_with fail
 go_loopw [1, 2, 3, 8, 9] (fun u1 u2 u3 u8 u9 wr => u1 = .int .i64 0 ∧ u2 = .int .i64 0 ∧ wr = w) (fun _ _ _ _ _ _ => 0)
 case atStart => exact ⟨rfl, rfl, rfl⟩
 case round =>
  obtain ⟨rfl, rfl, rfl⟩ := hrel
  go_wp2_with (go_at_call 142; refine (hi _).mono ?_; rintro e w1 ⟨rfl, rfl⟩)
  (try simp only [Exit.inBlock, Exit.then])
  refine bodyPost_ret (results_none rfl _ _ _) rfl ?_
  exact ⟨rfl, rfl⟩
theorem sort_uA (g : Nat) (d : Array Int) (cap : Nat) (tl : List Value) (w : World) (F : Assn) (h : Sat w (uA g d tl * F)) (hsz : d.size ≤ 1000000000) (hcap : d.size ≤ cap) :
  Calls Tryz.prog 115 #[.slice (some ⟨g, 0, none⟩) d.size cap] w (ArrQ g (sort ltInt d) tl F w) := by
 have hk : bitsLen d.size ≤ 62 := (bitsLen_le_iff d.size 62).2 (by omega)
 have hp := pdq_any (d.size - 0 + 1) g d 0 d.size (bitsLen d.size) cap tl w F (by omega) h (Nat.zero_le _) (Nat.le_refl _) hsz hcap (by omega) (Or.inl rfl)
 have hp2 : Calls Tryz.prog 133 #[.slice (some ⟨g, 0, none⟩) d.size cap, .int .i64 0, .int .i64 (d.size : Int), .int .i64 (bitsLen d.size : Int)] w (ArrQ g (sort ltInt d) tl F w) := hp
 have hLen := bitsLenU d.size hsz w
 have hs1 : (d.size : Int) ≤ 1000000000 := by omega
 clear hp
 go_enter Tryz.func115, Tryz.ntmps115
 go_wp2_with (first
  | (go_at_call 134; refine hLen.mono ?_; rintro e w' ⟨rfl, rfl⟩)
  | (go_at_call 133; refine hp2.mono ?_; rintro e w' ⟨rfl, h1, h2⟩))
 (try go_end0)
 exact ⟨rfl, h1, h2⟩
theorem sort_nil (w : World) : Calls Tryz.prog 115 #[.slice none 0 0] w fun e w' => e = .returned (.tuple #[]) ∧ w' = w := by
 have hp := pdq_nil w
 have hLen : Calls Tryz.prog 134 #[.int .u64 0] w fun e w' => e = .returned (.int .i64 0) ∧ w' = w := bitsLenU 0 (by omega) w
 go_enter Tryz.func115, Tryz.ntmps115
 go_wp2_with (first
  | (go_at_call 134; refine hLen.mono ?_; rintro e w' ⟨rfl, rfl⟩)
  | (go_at_call 133; refine hp.mono ?_; rintro e w' ⟨rfl, rfl⟩))
 (try go_end0)
 exact ⟨rfl, rfl⟩
theorem sort_anyU (v : Value) (zs : List Int) (w : World) (Fr : Assn) (h : Sat w (sl 84 1 v zs.length (i64vU zs) * Fr)) (hsz : zs.length ≤ 1000000000) :
  Calls Tryz.prog 115 #[v] w fun e w' => e = .returned (.tuple #[]) ∧ Sat w' (sl 84 1 v zs.length (i64vU (sortedU zs)) * Fr) ∧ Side w w' := by
 rcases h.slCases with ⟨rfl, h0, _, hF⟩ | ⟨g, cap, cur, rfl, h3, h4, h5, h6, hF⟩
 ·obtain rfl : zs = [] := List.length_eq_zero_iff.1 h0
  refine (sort_nil w).mono ?_
  rintro e w' ⟨rfl, rfl⟩
  have e0 : i64vU (sortedU []) = [] := by simp [sortedU, i64vU]
  rw [e0]
  exact ⟨rfl, hF.slNil 84 1, Side.refl _⟩
 ·have hcur : cur = ((zs.toArray).toList.map (Value.int .u32) ++ cur.toList.drop zs.length).toArray := by
   have h7 : cur.toList.take zs.length = zs.map (Value.int .u32) := by rw [Nat.mul_one] at h6; exact h6
   show cur = (zs.map (Value.int .u32) ++ cur.toList.drop zs.length).toArray
   rw [← h7, List.take_append_drop]
  have hu : Sat w (uA g zs.toArray (cur.toList.drop zs.length) * Fr) := by
   have := hF
   rw [hcur] at this
   simpa [uA] using this
  have hs : (sort ltInt zs.toArray).toList = sortedU zs := sortInt zs
  have hl : (sortedU zs).length = zs.length := List.length_mergeSort zs
  refine (sort_uA g zs.toArray cap _ w Fr hu hsz h3).mono ?_
  rintro e w' ⟨rfl, h1, h2⟩
  refine ⟨rfl, ?_, h2⟩
  unfold uA at h1
  rw [hs] at h1
  have h8 := h1.slOf (T := 84) (n := zs.length) (cap := cap) (sz := 1) h3 h4 (by simp only [List.size_toArray, List.length_append, List.length_map, List.length_drop, hl, Array.length_toList, h5]; omega)
  refine h8.to ?_
  congr 2
  simp only [Nat.mul_one]
  rw [← hl]
  show ((sortedU zs).map (Value.int .u32) ++ _).take _ = _
  rw [List.take_left' (by simp)]
  rfl
end Go.Proofs.YtdafdidmbeecfaaGreatDoor
end

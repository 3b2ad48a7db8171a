/- Steps towards the statement StoreC. -/
import Derived.Test.YtdafdidmbeecfaaGreatDoorStoreCP6
import Derived.Test.YtdafdidmbeecfaaGreatDoorStoreCP10
import Derived.BigQuiet
import Derived.Deep.QuietTactic
import Derived.Deep.DeepCutAuto
import Derived.Deep.CutBlock
import Derived.Deep.CutRange
section
namespace Go.Proofs.YtdafdidmbeecfaaGreatDoor.Su
set_option linter.unusedVariables false
set_option linter.unusedSimpArgs false
open Go.RowKit Go.SL Go.Proofs.YtdafdidmbeecfaaGreatDoor Go.Proofs.YtdafdidmbeecfaaGreatDoor.Ba Go.Proofs.YtdafdidmbeecfaaGreatDoor.Fs
def GeoQ (S : Hp) (d : Nat) (A : Int × List UInt8) (D' : Dev) (len : Int) (F : Assn) (w : World) (e : Ending) (w' : World) : Prop :=
 (Sat w' (devA S d D' * (pool S * F)) ∧ Side w w') ∧ (A.1 = 3 → e = .panicked (erP 4)) ∧ (A.1 ≠ 0 → A.1 ≠ 3 → e = .panicked (erP 2)) ∧
 (A.1 = 0 → ∀ n P, superD A.2 = some (n, P) → P = len - 1 → e = .returned (geV n P)) ∧ (A.1 = 0 → superD A.2 = none → e = .panicked (erP 4)) ∧ (A.1 = 0 → ∀ n P, superD A.2 = some (n, P) → P ≠ len - 1 → e = .panicked (erP 4))
set_option maxRecDepth 100000 in
set_option maxHeartbeats 4000000 in
theorem geometry_any (w : World) (S : Hp) (d : Nat) (D : Dev) (F : Assn) (h : Sat w (devA S d D * (pool S * F))) (hD : D.Ok) (hh : ∀ w' P, Sat w' (P * (devA S d (D.read 0).2 * (pool S * F))) → Half w') (h512 : (D.read 0).1.1 = 0 → (D.read 0).1.2.length = 512) (hl : (D.read 0).2.sec.length = D.sec.length) (hl1 : 1 ≤ D.sec.length ∧ D.sec.length ≤ 20000) :
  Calls Tryz.prog 42 #[ptV d] w (GeoQ S d (D.read 0).1 (D.read 0).2 D.sec.length F w) := by
 have d1 := (Side.refl w).alloc (.cells #[.int .i64 0, .int .i64 0] 35 (0, 0))
 have h1 := h.alloc (.cells #[.int .i64 0, .int .i64 0] 35 (0, 0))
 have hrd := read_any (w.alloc (.cells #[.int .i64 0, .int .i64 0] 35 (0, 0))) S d D 0 (pt w.heap.size (.cells #[.int .i64 0, .int .i64 0] 35 (0, 0)) * F) (h1.to (by ac_rfl)) hD
 generalize D.read 0 = R at *
 obtain ⟨⟨c, l⟩, D1⟩ := R
 dsimp only at *
 generalize D.sec.length = len at *
 have Hh := SL.hid hh; have H512 := SL.hid h512; have Hl := SL.hid hl
 obtain ⟨hl1a, hl1b⟩ := hl1
 have hl1a' : (1 : Int) ≤ (len : Int) := by omega
 have hl1b' : (len : Int) ≤ 20000 := by omega
 clear h h1 hD hh h512 hl
 go_enter Tryz.func42, Tryz.ntmps42
 go_wp2_with fail
 generalize w.alloc (.cells #[.int .i64 0, .int .i64 0] 35 (0, 0)) = w1 at hrd d1 ⊢
 generalize w.heap.size = gb at hrd ⊢
 (with_reducible refine hrd.mono ?_)
 rintro e w2 ⟨dv, rfl, h2, d2⟩
 have D2 := d1.trans d2
 clear hrd d1 d2
 by_cases hc3 : c = 3
 ·subst hc3
  have hfin : Sat w2 (devA S d D1 * (pool S * F)) := (h2.to (by ac_rfl : _ = (ansA 5 (3, l) dv * pt gb (.cells #[.int .i64 0, .int .i64 0] 35 (0, 0))) * (devA S d D1 * (pool S * F)))).right
  have HF := SL.hid hfin
  clear h2 hfin
  go_wp2_with fail
  refine ⟨rfl, ⟨HF.out, D2⟩, fun _ => rfl, fun _ h => absurd rfl h, fun h => absurd h (show ¬ (3 : Int) = 0 by decide), fun h => absurd h (show ¬ (3 : Int) = 0 by decide), fun h => absurd h (show ¬ (3 : Int) = 0 by decide)⟩
 ·by_cases hc0 : c = 0
  ·subst hc0
   have hb := h2.ansYes
   have hl512 := H512.out rfl
   have hhw := Hh.out w2 (bs 5 dv l * pt gb (.cells #[.int .i64 0, .int .i64 0] 35 (0, 0))) (hb.to (by ac_rfl))
   obtain ⟨gn, gP, gc, hg1, hg2⟩ : ∃ gn gP gc : Int, (superD l = none → gn = 0 ∧ gP = 0 ∧ gc = 4) ∧ (∀ n P, superD l = some (n, P) → gn = n ∧ gP = P ∧ gc = 0) := by
    cases hd : superD l with
    | none => exact ⟨0, 0, 4, fun _ => ⟨rfl, rfl, rfl⟩, fun n P h => by cases h⟩
    | some p => exact ⟨p.1, p.2, 0, fun h => (by cases h), fun n P h => by cases h; exact ⟨rfl, rfl, rfl⟩⟩
   have hdc := decodeG_any w2 dv l hb.bsRd hl512 hhw gn gP gc hg1 hg2
   have Hb := SL.hid hb; have Hg1 := SL.hid hg1; have Hg2 := SL.hid hg2
   clear h2 hb hl512 hhw hg1 hg2
   go_wp2_with fail
   (with_reducible refine hdc.mono ?_)
   rintro e w3 ⟨rfl, h3, d3⟩
   have h4 := (h3.keepW Hb.out).alloc (.cells #[.int .i64 gn, .int .i64 gP] 35 (0, 0))
   have D4 := (D2.trans d3).alloc (.cells #[.int .i64 gn, .int .i64 gP] 35 (0, 0))
   have H4 := SL.hid h4; have HD4 := SL.hid D4
   unfold geV
   clear hdc h3 d3 h4 D4 D2 Hb
   go_upto_region 7 with (fail)
   generalize w3.alloc (.cells #[.int .i64 gn, .int .i64 gP] 35 (0, 0)) = w4 at H4 HD4 ⊢
   generalize w3.heap.size = qb at H4 ⊢
   have hfin : Sat w4 (devA S d D1 * (pool S * F)) := (H4.out.to (by ac_rfl : _ = (pt qb (.cells #[.int .i64 gn, .int .i64 gP] 35 (0, 0)) * (bs 5 dv l * pt gb (.cells #[.int .i64 0, .int .i64 0] 35 (0, 0)))) * (devA S d D1 * (pool S * F)))).right
   have HF := SL.hid hfin
   have q0 : w4.cell? ⟨qb, 0, none⟩ = some (.int .i64 gn) := H4.out.cell 0
   have q1 : w4.cell? ⟨qb, 1, none⟩ = some (.int .i64 gP) := H4.out.cell 1
   clear hfin
   cases hd : superD l with
   | none =>
    obtain ⟨rfl, rfl, rfl⟩ := Hg1.out hd
    have Hd := SL.hid hd
    clear Hg1 Hg2 hd H4 Hh H512
    go_wp2_with fail
    go_quiet (fail)
    go_wp2_with fail
    exact ⟨rfl, ⟨HF.out.of_heap rfl, HD4.out.drewN _⟩, fun h => absurd h (show ¬ (0 : Int) = 3 by decide), fun h => absurd rfl h, fun _ n P h => absurd (h.symm.trans Hd.out) (by simp), fun _ _ => rfl, fun _ n P h => absurd (h.symm.trans Hd.out) (by simp)⟩
   | some p =>
    obtain ⟨n, P⟩ := p
    obtain ⟨e1, e2, rfl⟩ := Hg2.out n P hd
    rw [← e1, ← e2] at hd
    have Hd := SL.hid hd
    have hsc := sectors_any w4.drew S d D1 (pool S * F) HF.out.drew
    rw [Hl.out] at hsc
    obtain ⟨BIG, hBe⟩ : ∃ B, B = (pt qb (.cells #[.int .i64 gn, .int .i64 gP] 35 (0, 0)) * (bs 5 dv l * (pt gb (.cells #[.int .i64 0, .int .i64 0] 35 (0, 0)) * (devA S d D1 * (pool S * F))))) := ⟨_, rfl⟩
    have hB0 : Sat w4 BIG := by rw [hBe]; exact H4.out.to (by ac_rfl)
    have HB := SL.hid hB0
    have HBe := SL.hid hBe
    clear Hg1 Hg2 hd H4 Hh H512 e1 e2 hBe hB0
    have hwl : IntKind.i64.wrap ((len : Int) - 1) = (len : Int) - 1 := by rw [IntKind.wrap_i64]; omega
    by_cases hP : gP = (len : Int) - 1
    ·subst hP
     go_wp2_with fail
     go_region_held3 (fun w' => Sat w' BIG ∧ w'.cell? ⟨qb, 1, none⟩ = some (.int .i64 ((len : Int) - 1))) (first | exact ⟨HB.out, q1⟩ | exact ⟨HB.out.drew, q1⟩ | assumption)
      (first | (go_at_call 47; refine (hsc).mono ?_; rintro e w5 ⟨rfl, rfl⟩))
     have hPb : (((len : Int) - 1) != IntKind.i64.wrap ((len : Int) - 1)) = false := by rw [hwl]; simp
     obtain rfl := HBe.out
     have H5 := HB.out.drew
     have q0 : w4.drew.cell? ⟨qb, 0, none⟩ = some (.int .i64 gn) := H5.cell 0
     have q1 : w4.drew.cell? ⟨qb, 1, none⟩ = some (.int .i64 ((len : Int) - 1)) := H5.cell 1
     have H6 := H5.to (by ac_rfl : _ = pt gb (.cells #[.int .i64 0, .int .i64 0] 35 (0, 0)) * (bs 5 dv l * (pt qb (.cells #[.int .i64 gn, .int .i64 ((len : Int) - 1)] 35 (0, 0)) * (devA S d D1 * (pool S * F)))))
     have g0 : w4.drew.cell? ⟨gb, 0, none⟩ = some (.int .i64 0) := H6.cell 0
     have g1 : w4.drew.cell? ⟨gb, 1, none⟩ = some (.int .i64 0) := H6.cell 1
     have H7 := HB.out.to (by ac_rfl : _ = pt gb (.cells #[.int .i64 0, .int .i64 0] 35 (0, 0)) * (bs 5 dv l * (pt qb (.cells #[.int .i64 gn, .int .i64 ((len : Int) - 1)] 35 (0, 0)) * (devA S d D1 * (pool S * F)))))
     have f0 := H7.frozen 0; have f1 := H7.frozen 1; have x0 := H7.cell 0; have x1 := H7.cell 1
     have HK := SL.hid ((H6.setCell 0 (.int .i64 gn)).setCell 1 (.int .i64 ((len : Int) - 1)))
     have HDK := SL.hid ((HD4.out.drew.setCell ⟨gb, 0, none⟩ (.int .i64 gn)).setCell ⟨gb, 1, none⟩ (.int .i64 ((len : Int) - 1)))
     clear hsc H5 H6 H7 HB HBe HF HD4 hPb
     go_wp2_with fail
     have K := HK.out
     refine bodyPost_ret (results_cell_row rfl _ _ gb 35 _ (0, 0) _ rfl K.heap Tryz.underlying35 rfl (info_geo _ rfl)) rfl ⟨⟨K.right.right.right, HDK.out⟩, fun h => absurd h (show ¬ (0 : Int) = 3 by decide), fun h => absurd rfl h, fun _ n P h _ => ?_, fun _ h => absurd (h.symm.trans Hd.out) (by simp), fun _ n P h h1 => ?_⟩
     ·have := h.symm.trans Hd.out
      injection this with this; injection this with a b
      rw [a, b]; rfl
     ·have := h.symm.trans Hd.out
      injection this with this; injection this with a b
      exact absurd (b) h1
    ·go_wp2_with fail
     go_region_held3 (fun w' => Sat w' BIG ∧ w'.cell? ⟨qb, 1, none⟩ = some (.int .i64 gP)) (first | exact ⟨HB.out, q1⟩ | exact ⟨HB.out.drew, q1⟩ | assumption)
      (first | (go_at_call 47; refine (hsc).mono ?_; rintro e w5 ⟨rfl, rfl⟩))
     have hPb : (gP != IntKind.i64.wrap ((len : Int) - 1)) = true := by rw [hwl]; simpa using hP
     go_wp2_with fail
     exact ⟨rfl, ⟨HF.out.drew, HD4.out.drew⟩, fun h => absurd h (show ¬ (0 : Int) = 3 by decide), fun h => absurd rfl h, fun _ n P h h1 => (by
      have := h.symm.trans Hd.out
      injection this with this; injection this with a b
      exact absurd (b.symm.trans h1) hP), fun _ _ => rfl, fun _ n P h _ => rfl⟩
  ·have hfin : Sat w2 (devA S d D1 * (pool S * F)) := (h2.to (by ac_rfl : _ = (ansA 5 (c, l) dv * pt gb (.cells #[.int .i64 0, .int .i64 0] 35 (0, 0))) * (devA S d D1 * (pool S * F)))).right
   have HF := SL.hid hfin
   clear h2 hfin
   go_wp2_with fail
   refine ⟨rfl, ⟨HF.out, D2⟩, fun h => absurd h hc3, fun _ _ => rfl, fun h => absurd h hc0, fun h => absurd h hc0, fun h => absurd h hc0⟩
end Go.Proofs.YtdafdidmbeecfaaGreatDoor.Su
end

/- batch: Write. -/
import Derived.Test.YtcgpegdnicnciaaW3
import Derived.Deep.RegionHeld3
namespace Go.Proofs.Ytcgpegdnicnciaa
set_option linter.unusedVariables false
set_option linter.unusedSimpArgs false
open Go.RowKit Go.SL
def writeR (err id : Int) (l : List UInt8) : Int := if err ≠ 0 then err else if id < 0 ∨ l.length ≠ 480 then 1 else 0
def writeW (err id : Int) (l : List UInt8) (W : CB) : CB := if err = 0 ∧ 0 ≤ id ∧ l.length = 480 then SL.upd W id l else W
theorem writeW_no {err id : Int} {l : List UInt8} {W : CB} (h : ¬ (err = 0 ∧ 0 ≤ id ∧ l.length = 480)) : writeW err id l W = W := if_neg h
theorem writeW_yes {err id : Int} {l : List UInt8} {W : CB} (h : err = 0 ∧ 0 ≤ id ∧ l.length = 480) : writeW err id l W = SL.upd W id l := if_pos h
def WriteQ (S : Hp) (b : Nat) (rd : Value) (err : Int) (W D : CB) (id : Int) (l : List UInt8) (F : Assn) (w : World) (e : Ending) (w' : World) : Prop :=
  ∃ S', Ext S S' ∧ e = .returned (.int .i64 (writeR err id l)) ∧ Sat w' (batchA 54 5 S' b rd err (writeW err id l W) D * (pool S' * F)) ∧ Side w w'
set_option maxRecDepth 100000 in
set_option maxHeartbeats 1000000 in
theorem write_any (w : World) (S : Hp) (b : Nat) (rd : Value) (err : Int) (W D : CB) (id : Int) (dv : Value) (l : List UInt8) (F : Assn)
    (h : Sat w (batchA 54 5 S b rd err W D * (pool S * F))) (hr : Rd w dv l) :
    Calls Try.prog 10 #[.pointer (some ⟨b, 0, none⟩), .int .i64 id, dv] w (WriteQ S b rd err W D id l F w) := by
  obtain ⟨x, hx⟩ := h.batchOpen
  have hc1 : w.cell? ⟨b, 1, none⟩ = some (.int .i64 err) := hx.cell 1
  obtain ⟨a, c, rfl⟩ : ∃ a c, dv = .slice a l.length c := by
    rcases hr.2 with ⟨rfl, h0⟩ | ⟨a, c, rfl, _⟩
    · exact ⟨none, 0, by rw [h0]⟩
    · exact ⟨_, _, rfl⟩
  by_cases he : err = 0
  · subst he
    by_cases hid : id < 0
    · go_enter Try.func10, Try.ntmps10
      have H := SL.hid hr; clear hr
      go_wp2
      go_ret
      exact ⟨S, Ext.refl S, by simp [writeR, hid], by rw [writeW_no (by omega)]; exact h, Side.refl w⟩
    · by_cases hl : l.length = 480
      · have hid' : 0 ≤ id := by omega
        have hb1 : ((480 : Int) != 480) = false := by decide
        have hr' : Rd w (.slice a 480 c) l := by rw [← hl]; exact hr
        have Hr := SL.hid hr'; have HL := SL.hid hl; clear hr hr' hl
        have hsm : small l := by unfold small; rw [HL.out]; decide
        have hbg : Hid (l.length ≤ 1000000000) := by show l.length ≤ _; rw [HL.out]; decide
        go_enter Try.func10, Try.ntmps10
        rw [HL.out]
        go_wp2
        go_region_held3 (fun _ => True) (trivial)
          (first
            | (go_at_call 22; refine (clone_any w.drew _ l (Rds.drew Hr.out) hbg).mono ?_; rintro e w1 ⟨v1, rfl, hs1, hd1⟩)
            | (go_at_call 21; obtain ⟨S', hE, hV, hS, _⟩ := Sat.addVal (w := w.drew) hx hs1 hsm; refine (put_any _ S' b 2 _ _ _ W id v1 l (bookA 5 S' x.tv x.ts D * (askA x.av * F)) hS rfl rfl hV).mono ?_; rintro e w2 ⟨m, rfl, hs2, hd2⟩))
        go_wp2
        go_ret
        refine ⟨S', hE, ?_, ?_, ((Side.refl w).drew.trans hd1).trans hd2⟩
        · simp [writeR, hid', HL.out, Int.not_lt.2 hid']
        · rw [writeW_yes ⟨rfl, hid', HL.out⟩]
          exact Sat.batchShut { x with wv := .map (some m), ws := false } (hs2.to (by ac_rfl))
      · have hl1 : ((l.length : Int) != 480) = true := by rw [bne_iff_ne]; omega
        go_enter Try.func10, Try.ntmps10
        have H := SL.hid hr; have HL := SL.hid hl; clear hr hl
        go_wp2
        go_ret
        exact ⟨S, Ext.refl S, by simp [writeR, HL.out], by rw [writeW_no (fun hh => HL.out hh.2.2)]; exact h, Side.refl w⟩
  · have he1 : (err != 0) = true := by simpa using he
    go_enter Try.func10, Try.ntmps10
    have H := SL.hid hr; clear hr
    go_wp2
    go_ret
    exact ⟨S, Ext.refl S, by simp [writeR, he], by rw [writeW_no (fun hh => he hh.1)]; exact h, Side.refl w⟩
end Go.Proofs.Ytcgpegdnicnciaa

/- batch: Read, Len, Err, New, Fork, Join; a row's Read. -/
import Derived.Test.YtcgpegdnicnciaaW5
namespace Go.Proofs.Ytcgpegdnicnciaa
set_option linter.unusedVariables false
set_option linter.unusedSimpArgs false
open Go.RowKit Go.SL
def ReadQ (b : Nat) (S : Hp) (rd : Value) (A : Int × List UInt8) (err : Int) (W D : CB) (F : Assn) (w : World) (e : Ending) (w' : World) : Prop :=
  ∃ S' dv, Ext S S' ∧ e = .returned (.tuple #[dv, .int .i64 A.1]) ∧ Sat w' (ansA 5 A dv * (batchA 54 5 S' b rd err W D * (pool S' * F))) ∧ Side w w'
theorem zero_bytes (w : World) : (zeroValue 31).run Try.prog w = .ok (.slice none 0 0) w := by kernel_rfl
set_option maxRecDepth 100000 in
set_option maxHeartbeats 1000000 in
theorem read_err (w : World) (S : Hp) (b : Nat) (rd : Value) (err : Int) (W D : CB) (id : Int) (F : Assn)
    (h : Sat w (batchA 54 5 S b rd err W D * (pool S * F))) (he : err ≠ 0) :
    Calls Try.prog 13 #[.pointer (some ⟨b, 0, none⟩), .int .i64 id] w (ReadQ b S rd (err, []) err W D F w) := by
  obtain ⟨x, hx⟩ := h.batchOpen
  have hc1 : w.cell? ⟨b, 1, none⟩ = some (.int .i64 err) := hx.cell 1
  have he1 : (err != 0) = true := by simpa using he
  go_enter Try.func13, Try.ntmps13
  go_wp2
  go_region_held3 (fun w' => w'.cell? ⟨b, 1, none⟩ = some (.int .i64 err)) (go_keep) (fail)
  go_wp2
  go_ret2
  exact ⟨S, _, Ext.refl S, rfl, Sat.ansNil h.drew he, (Side.refl w).drew⟩
set_option maxRecDepth 100000 in
set_option maxHeartbeats 1000000 in
theorem read_W (w : World) (S : Hp) (b : Nat) (rd : Value) (W D : CB) (id : Int) (l : List UInt8) (F : Assn)
    (h : Sat w (batchA 54 5 S b rd 0 W D * (pool S * F))) (hl : kget W id = some l) :
    Calls Try.prog 13 #[.pointer (some ⟨b, 0, none⟩), .int .i64 id] w (ReadQ b S rd (0, l) 0 W D F w) := by
  obtain ⟨x, hx⟩ := h.batchOpen
  have hc1 : w.cell? ⟨b, 1, none⟩ = some (.int .i64 0) := hx.cell 1
  have hc2 : w.cell? ⟨b, 2, none⟩ = some x.wv := hx.cell 2
  have hb1 : ((0 : Int) != 0) = false := by decide
  obtain ⟨dv, hlook, hv⟩ := ((hx.to (by ac_rfl : _ = bookA 5 S x.wv x.ws W * (pool S * (pt b (.cells (x.cells rd 0) 54 (0, 0)) * (bookA 5 S x.tv x.ts D * (askA x.av * F)))))).bookLook (P := Try.prog) Try.underlying49 Try.underlying3 (zero_bytes w) id).2 l hl
  have hrd := hv.rd (h.to (star_left_comm _ _ _))
  have HL := SL.hid hl; have Hr := SL.hid hrd; have hbg : Hid (l.length ≤ 1000000000) := Nat.le_trans hv.1 (by decide)
  clear hl hrd
  go_enter Try.func13, Try.ntmps13
  go_wp2_with (go_at_call 22; refine (clone_any _ _ l Hr.out hbg).mono ?_; rintro e w1 ⟨v1, rfl, hs1, hd1⟩)
  go_ret2
  exact ⟨S, v1, Ext.refl S, rfl, (hs1.under h).ansOf, hd1⟩
set_option maxRecDepth 100000 in
set_option maxHeartbeats 1000000 in
theorem read_D (w : World) (S : Hp) (b : Nat) (rd : Value) (W D : CB) (id : Int) (l : List UInt8) (F : Assn)
    (h : Sat w (batchA 54 5 S b rd 0 W D * (pool S * F))) (hn : kget W id = none) (hl : kget D id = some l) :
    Calls Try.prog 13 #[.pointer (some ⟨b, 0, none⟩), .int .i64 id] w (ReadQ b S rd (0, l) 0 W D F w) := by
  obtain ⟨x, hx⟩ := h.batchOpen
  have hc1 : w.cell? ⟨b, 1, none⟩ = some (.int .i64 0) := hx.cell 1
  have hc2 : w.cell? ⟨b, 2, none⟩ = some x.wv := hx.cell 2
  have hc4 : w.cell? ⟨b, 4, none⟩ = some x.tv := hx.cell 4
  have hb1 : ((0 : Int) != 0) = false := by decide
  have hlk := ((hx.to (by ac_rfl : _ = bookA 5 S x.wv x.ws W * (pool S * (pt b (.cells (x.cells rd 0) 54 (0, 0)) * (bookA 5 S x.tv x.ts D * (askA x.av * F)))))).bookLook (P := Try.prog) Try.underlying49 Try.underlying3 (zero_bytes w) id).1 hn
  obtain ⟨dv, hlook, hv⟩ := ((hx.to (by ac_rfl : _ = bookA 5 S x.tv x.ts D * (pool S * (pt b (.cells (x.cells rd 0) 54 (0, 0)) * (bookA 5 S x.wv x.ws W * (askA x.av * F)))))).bookLook (P := Try.prog) Try.underlying49 Try.underlying3 (zero_bytes w) id).2 l hl
  have hrd := hv.rd (h.to (star_left_comm _ _ _))
  have HL := SL.hid hl; have Hr := SL.hid hrd; have hbg : Hid (l.length ≤ 1000000000) := Nat.le_trans hv.1 (by decide)
  clear hl hrd hn
  go_enter Try.func13, Try.ntmps13
  go_wp2_with (go_at_call 22; refine (clone_any _ _ l Hr.out hbg).mono ?_; rintro e w1 ⟨v1, rfl, hs1, hd1⟩)
  go_ret2
  exact ⟨S, v1, Ext.refl S, rfl, (hs1.under h).ansOf, hd1⟩
end Go.Proofs.Ytcgpegdnicnciaa

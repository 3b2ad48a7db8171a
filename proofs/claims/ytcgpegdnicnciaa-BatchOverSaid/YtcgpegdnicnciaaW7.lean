/- batch: Read, where its reader is asked. -/
import Derived.Test.YtcgpegdnicnciaaW6
namespace Go.Proofs.Ytcgpegdnicnciaa
set_option linter.unusedVariables false
set_option linter.unusedSimpArgs false
open Go.RowKit Go.SL
set_option maxRecDepth 100000 in
set_option maxHeartbeats 1000000 in
theorem read_ok (w : World) (S : Hp) (b : Nat) (T : TypeId) (rv : Value) (fr : FuncId) (W D : CB) (id : Int) (l : List UInt8) (RI RI' F : Assn)
    (hm : ∀ (k : Nat) (w : World), (method (k + 1) T rv "Read").run Try.prog w = .ok (fr, rv) w)
    (hcf : ∀ (args : Array Value) (w : World), (callFunc fr args).run Try.prog w = .ok (.enter fr args) w)
    (hR : ∀ (F : Assn) (w : World), Sat w (RI * F) → Calls Try.prog fr #[rv, .int .i64 id] w (ReadAns (0, l) RI' F w))
    (h : Sat w (batchA 54 5 S b (.iface T rv) 0 W D * (pool S * (RI * F)))) (hn : kget W id = none) (hn' : kget D id = none) (hsm : small l) :
    Calls Try.prog 13 #[.pointer (some ⟨b, 0, none⟩), .int .i64 id] w (ReadQ b S (.iface T rv) (0, l) 0 W (SL.upd D id l) (RI' * F) w) := by
  obtain ⟨x, hx⟩ := h.batchOpen
  have hc1 : w.cell? ⟨b, 1, none⟩ = some (.int .i64 0) := hx.cell 1
  have hc2 : w.cell? ⟨b, 2, none⟩ = some x.wv := hx.cell 2
  have hc4 : w.cell? ⟨b, 4, none⟩ = some x.tv := hx.cell 4
  have hb1 : ((0 : Int) != 0) = false := by decide
  have hlk := ((hx.to (by ac_rfl : _ = bookA 5 S x.wv x.ws W * (pool S * (pt b (.cells (x.cells (.iface T rv) 0) 54 (0, 0)) * (bookA 5 S x.tv x.ts D * (askA x.av * (RI * F))))))).bookLook (P := Try.prog) Try.underlying49 Try.underlying3 (zero_bytes w) id).1 hn
  have hlk' := ((hx.to (by ac_rfl : _ = bookA 5 S x.tv x.ts D * (pool S * (pt b (.cells (x.cells (.iface T rv) 0) 54 (0, 0)) * (bookA 5 S x.wv x.ws W * (askA x.av * (RI * F))))))).bookLook (P := Try.prog) Try.underlying49 Try.underlying3 (zero_bytes w) id).1 hn'
  have hbg : Hid (l.length ≤ 1000000000) := Nat.le_trans hsm (by decide)
  have h0 : Sat w (pt b (.cells (x.cells (.iface T rv) 0) 54 (0, 0)) * (askA x.av * (RI * (bookA 5 S x.wv x.ws W * (bookA 5 S x.tv x.ts D * (pool S * F)))))) := hx.to (by ac_rfl)
  have HR := SL.hid hR; have Hm := SL.hid hm; have Hcf := SL.hid hcf
  clear hn hn' hR hm hcf
  go_enter Try.func13, Try.ntmps13
  go_wp2_with (go_at_call 23; refine (ask_any w b T rv fr 0 id x (0, l) RI RI' _ Hm.out Hcf.out HR.out h0).mono ?_; rintro e w1 ⟨dv, av, rfl, d1, h1⟩)
  clear hc1 hc2 hc4 hlk hlk'
  have hx1 : Sat w1 (pt b (.cells (({ x with av := av } : Bx).cells (.iface T rv) 0) 54 (0, 0)) * (bookA 5 S x.wv x.ws W * (bookA 5 S x.tv x.ts D * (askA av * (pool S * (bs 5 dv l * (RI' * F))))))) :=
    (h1.front3.ansYes).to (by ac_rfl)
  have hr1 : Hid (Rd w1 dv l) := (hx1.front6).bsRd
  go_region_held3 (fun _ => True) (trivial)
    (first
      | (go_at_call 22; refine (clone_any w1.drew _ l (Rds.drew hr1.out) hbg).mono ?_; rintro e w2 ⟨v2, rfl, hs2, d2⟩)
      | (go_at_call 21; obtain ⟨S', hE, hV, _, hS⟩ := Sat.addVal (w := w1.drew) (x := { x with av := av }) hx1 hs2 hsm; refine (put_any _ S' b 4 _ _ _ D id v2 l (bookA 5 S' x.wv x.ws W * (askA av * (bs 5 dv l * (RI' * F)))) hS rfl rfl hV).mono ?_; rintro e w3 ⟨m, rfl, hs3, d3⟩))
  have hr3 : Hid (Rd w3 dv l) := (hs3.front6).bsRd
  go_wp2_with (go_at_call 22; refine (clone_any w3 _ l hr3.out hbg).mono ?_; rintro e w4 ⟨v4, rfl, hs4, d4⟩)
  go_ret2
  refine ⟨S', v4, hE, rfl, ?_, (((d1.trans (Side.refl w1).drew).trans d2).trans d3).trans d4⟩
  have h5 := (hs3.front6).right
  have h6 : Sat w3 (pt b (.cells ((({ x with av := av, tv := .map (some m), ts := false } : Bx)).cells (.iface T rv) 0) 54 (0, 0)) * (bookA 5 S' x.wv x.ws W * (bookA 5 S' (.map (some m)) false (SL.upd D id l) * (askA av * (pool S' * (RI' * F)))))) := h5.to (by ac_rfl)
  exact (hs4.under (Sat.batchShut { x with av := av, tv := .map (some m), ts := false } h6)).ansOf
set_option maxRecDepth 100000 in
set_option maxHeartbeats 1000000 in
theorem read_no (w : World) (S : Hp) (b : Nat) (T : TypeId) (rv : Value) (fr : FuncId) (W D : CB) (id : Int) (c : Int) (l : List UInt8) (RI RI' F : Assn)
    (hm : ∀ (k : Nat) (w : World), (method (k + 1) T rv "Read").run Try.prog w = .ok (fr, rv) w)
    (hcf : ∀ (args : Array Value) (w : World), (callFunc fr args).run Try.prog w = .ok (.enter fr args) w)
    (hR : ∀ (F : Assn) (w : World), Sat w (RI * F) → Calls Try.prog fr #[rv, .int .i64 id] w (ReadAns (c, l) RI' F w)) (hc : c ≠ 0)
    (h : Sat w (batchA 54 5 S b (.iface T rv) 0 W D * (pool S * (RI * F)))) (hn : kget W id = none) (hn' : kget D id = none) :
    Calls Try.prog 13 #[.pointer (some ⟨b, 0, none⟩), .int .i64 id] w (ReadQ b S (.iface T rv) (c, l) c W D (RI' * F) w) := by
  obtain ⟨x, hx⟩ := h.batchOpen
  have hc1 : w.cell? ⟨b, 1, none⟩ = some (.int .i64 0) := hx.cell 1
  have hc2 : w.cell? ⟨b, 2, none⟩ = some x.wv := hx.cell 2
  have hc4 : w.cell? ⟨b, 4, none⟩ = some x.tv := hx.cell 4
  have hb1 : ((0 : Int) != 0) = false := by decide
  have hcn : (c != 0) = true := by simpa using hc
  have hlk := ((hx.to (by ac_rfl : _ = bookA 5 S x.wv x.ws W * (pool S * (pt b (.cells (x.cells (.iface T rv) 0) 54 (0, 0)) * (bookA 5 S x.tv x.ts D * (askA x.av * (RI * F))))))).bookLook (P := Try.prog) Try.underlying49 Try.underlying3 (zero_bytes w) id).1 hn
  have hlk' := ((hx.to (by ac_rfl : _ = bookA 5 S x.tv x.ts D * (pool S * (pt b (.cells (x.cells (.iface T rv) 0) 54 (0, 0)) * (bookA 5 S x.wv x.ws W * (askA x.av * (RI * F))))))).bookLook (P := Try.prog) Try.underlying49 Try.underlying3 (zero_bytes w) id).1 hn'
  have h0 : Sat w (pt b (.cells (x.cells (.iface T rv) 0) 54 (0, 0)) * (askA x.av * (RI * (bookA 5 S x.wv x.ws W * (bookA 5 S x.tv x.ts D * (pool S * F)))))) := hx.to (by ac_rfl)
  have HR := SL.hid hR; have Hm := SL.hid hm; have Hcf := SL.hid hcf; have Hc := SL.hid hc
  clear hn hn' hR hm hcf hc
  go_enter Try.func13, Try.ntmps13
  go_wp2_with (go_at_call 23; refine (ask_any w b T rv fr 0 id x (c, l) RI RI' _ Hm.out Hcf.out HR.out h0).mono ?_; rintro e w1 ⟨dv, av, rfl, d1, h1⟩; clear hc1 hc2 hc4 hlk hlk'; have g1 : w1.cell? ⟨b, 1, none⟩ = some (.int .i64 0) := h1.cell 1; have f1 := h1.frozen 1)
  go_ret2
  obtain ⟨rfl, h2⟩ := h1.front3.ansNo Hc.out
  refine ⟨S, _, Ext.refl S, rfl, ?_, d1.setCell _ _⟩
  have h3 := h2.setCell 1 (.int .i64 c)
  have h4 : Sat (w1.setCell ⟨b, 1, none⟩ (.int .i64 c)) (pt b (.cells ((({ x with av := av } : Bx)).cells (.iface T rv) c) 54 (0, 0)) * (bookA 5 S x.wv x.ws W * (bookA 5 S x.tv x.ts D * (askA av * (pool S * (RI' * F)))))) := h3.to (by ac_rfl)
  exact (Sat.batchShut { x with av := av } h4).ansNil Hc.out
end Go.Proofs.Ytcgpegdnicnciaa

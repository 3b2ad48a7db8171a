/- Steps towards the statement StoreC. -/
import Derived.Test.YtdafdidmbeecfaaGreatDoorStoreCP7
import Derived.Deep.RegionLaw
section
namespace Go.Proofs.YtdafdidmbeecfaaGreatDoor
set_option linter.unusedVariables false
set_option linter.unusedSimpArgs false
open Go.RowKit Go.SL
def DevQ (S : Hp) (d : Nat) (D : Dev) (v : Value) (F : Assn) (w : World) (e : Ending) (w' : World) : Prop :=
 e = .returned v ∧ Sat w' (devA S d D * F) ∧ Side w w'
theorem keepR_own (x : Dx) (S : Hp) (d : Nat) (D : Dev) (F : Assn) (w : World) (hD : D.Ok) (h : Sat w (devX x S d D * F)) : KeepR x S d D F x.kv D.keep := by
 obtain ⟨a, c, hv⟩ := sl_shape h.devOpen.2.front5
 refine ⟨a, c, hv, by have := hD.keep; omega, fun i hi => ?_⟩
 obtain ⟨g, c2, hv2⟩ := sl_addr h.devOpen.2.front5 (by omega)
 refine ⟨g, 0, (Value.slice.inj (hv.symm.trans hv2)).1, fun w' Y D' hk hs => ?_⟩
 have h5 := hs.devOpen.2.front5
 rw [hk] at h5
 obtain ⟨_, hr⟩ := h5.rds
 rcases hr with ⟨hn, h0⟩ | ⟨ad, c', he, ha⟩
 ·rw [show ({ x with Y := Y } : Dx).kv = x.kv from rfl, hv2] at hn; cases hn
 ·rw [show ({ x with Y := Y } : Dx).kv = x.kv from rfl, hv2] at he
  have hea := (Value.slice.inj he).1
  cases hea
  have := ha i (.int .i64 (D.keep.getD i 0)) (by simp [i64v, List.getElem?_eq_getElem hi])
  rwa [Addr.add_lit] at this
set_option maxRecDepth 100000 in
set_option maxHeartbeats 2000000 in
theorem begin_any (w : World) (S : Hp) (d : Nat) (D : Dev) (F : Assn) (h : Sat w (devA S d D * F)) (hD : D.Ok) :
  Calls Tryz.prog 36 #[.pointer (some ⟨d, 0, none⟩)] w (DevQ S d D.begun (.int .i64 D.begins) F w) := by
 obtain ⟨x, hx⟩ := h.devEx
 have k6 : w.cell? ⟨d, 6, none⟩ = some (.bool D.down) := hx.devCell 6
 have k7 : w.cell? ⟨d, 7, none⟩ = some (.bool D.armed) := hx.devCell 7
 have k8 : w.cell? ⟨d, 8, none⟩ = some (.int .i64 D.left) := hx.devCell 8
 have k9 : w.cell? ⟨d, 9, none⟩ = some x.kv := hx.devCell 9
 have kf := hx.devFree
 by_cases hd : D.down = true
 ·have e1 : D.begins = 2 := by simp [Dev.begins, Dev.strike, hd]
  have e2 : D.begun = D := by simp [Dev.begun, Dev.strike, hd]
  rw [e1, e2]; rw [hd] at k6
  clear e1 e2 hd hD
  go_enter Tryz.func36, Tryz.ntmps36
  go_wp2
  go_ret
  exact ⟨rfl, h, Side.refl w⟩
 ·simp only [Bool.not_eq_true] at hd
  rw [hd] at k6
  by_cases ha : D.armed = true
  ·rw [ha] at k7
   by_cases hl : D.left = 0
   ·have e1 : D.begins = 2 := by simp [Dev.begins, Dev.strike, hd, ha, hl, Dev.crash]
    have e2 : D.begun = D.crash D.keep := by simp [Dev.begun, Dev.strike, hd, ha, hl, Dev.crash]
    rw [e1, e2]; rw [hl] at k8
    have hc := crash_any w S d D x D.keep x.kv F hx hD (keepR_own x S d D F w hD hx)
    clear e1 e2 hd ha hl hD hx h
    go_enter Tryz.func36, Tryz.ntmps36
    go_wp2_with fail
    refine hc.mono ?_
    rintro e w2 ⟨rfl, h2, d2⟩
    obtain ⟨x2, hx2⟩ := h2.devEx
    have k6' : w2.cell? ⟨d, 6, none⟩ = some (.bool true) := hx2.devCell 6
    clear hc k6 k7 k8 k9 kf hx2
    go_wp2
    go_ret
    exact ⟨rfl, h2, d2⟩
   ·have e1 : D.begins = 0 := by simp [Dev.begins, Dev.strike, hd, ha, hl]
    have e2 : D.begun = { D with left := i64w (D.left - 1) } := by simp [Dev.begun, Dev.strike, hd, ha, hl]
    rw [e1, e2]
    have hfit := hx.devOpen.1
    have h2 := hx.devOpen.2.setCell 8 (.int .i64 (i64w (D.left - 1)))
    have hlb : (D.left == 0) = false := by simpa using hl
    have H2 := SL.hid h2
    clear e1 e2 hd ha hl hD hx h k9 h2
    go_enter Tryz.func36, Tryz.ntmps36
    go_wp2
    go_ret
    refine ⟨rfl, Sat.devOf (x := x) (Sat.devShut ⟨hfit.sec, hfit.vals, hfit.wait, hfit.wvals⟩ ?_), (Side.refl w).setCell _ _⟩
    exact H2.out
  ·simp only [Bool.not_eq_true] at ha
   have e1 : D.begins = 0 := by simp [Dev.begins, Dev.strike, hd, ha]
   have e2 : D.begun = D := by simp [Dev.begun, Dev.strike, hd, ha]
   rw [e1, e2]; rw [ha] at k7
   clear e1 e2 hd ha hD
   go_enter Tryz.func36, Tryz.ntmps36
   go_wp2
   go_ret
   exact ⟨rfl, h, Side.refl w⟩
theorem info_waiting : (Tryz.prog.info? 80).map (fun i => (i.zero, i.size, i.bytes)) = some (some (.agg #[.int .i64 0, .slice none 0 0]), 2, 32) := by kernel_rfl
theorem bs_sector (T : TypeId) (g : Nat) {l : List UInt8} (hl : l.length = 512) : bs T (.slice (some ⟨g, 0, none⟩) 512 512) l = sl T 1 (.slice (some ⟨g, 0, none⟩) 512 512) 512 ((u8s (padTo 512 l)).toList.take (512 * 1)) := by
 have e : (u8s (padTo 512 l)).toList.take (512 * 1) = l.map u8 := by
  rw [padTo_self hl]
  exact List.take_of_length_le (by rw [u8s, List.toList_toArray, List.length_map, hl]; exact Nat.le_refl _)
 rw [e, bs, hl]
theorem append_wait {w1 w2 : World} {S : Hp} {d g : Nat} {D : Dev} {x : Dx} {a : Int} {l : List UInt8} {F : Assn} (hx : Sat w1 (devX x S d D * (pool S * F))) (hl : l.length = 512) (hm : D.wait.length ≤ 1000000)
  (h2 : Sat w2 (pt g (.cells (u8s (padTo 512 l)) 5 (0, 0)) * whole w1)) :
  ∃ va vn vc w3, (Builtin.append_ #[74, 74] 74 #[x.wv, .slice (some ⟨w2.heap.size, 0, none⟩) 1 1]).run Tryz.prog (w2.alloc (.cells #[.int .i64 a, .slice (some ⟨g, 0, none⟩) 512 512] 80 (0, 0))) = .ok (.slice va vn vc) w3 ∧
   w3.cell? ⟨d, 1, none⟩ = some x.wv ∧ (∀ o, w3.frozen? ⟨d, o, none⟩ = false) ∧ Side w2 w3 ∧
   ∃ S', Ext S S' ∧ Sat (w3.setCell ⟨d, 1, none⟩ (.slice va vn vc)) (devA S' d { D with wait := D.wait ++ [(a, l)] } * (pool S' * F)) := by
 obtain ⟨i0, hi, hz, hs0, hb0⟩ := info_parts info_waiting
 have h3 := h2.under hx
 obtain ⟨hfit, h4⟩ := (h3.to (star_left_comm _ _ _)).devOpen
 have hZ : x.Z.length = D.wait.length := by rw [← hfit.wait, List.length_map]
 have hA := h4.alloc (.cells #[.int .i64 a, .slice (some ⟨g, 0, none⟩) 512 512] 80 (0, 0))
 have hR : Rds (w2.alloc (.cells #[.int .i64 a, .slice (some ⟨g, 0, none⟩) 512 512] 80 (0, 0))) 2 (.slice (some ⟨w2.heap.size, 0, none⟩) 1 1) 1 [.int .i64 a, .slice (some ⟨g, 0, none⟩) 512 512] :=
  ⟨rfl, .inr ⟨_, _, rfl, fun j u hu => by
   rw [Addr.add_lit, Nat.zero_add]
   exact (hA.cell j).trans (by simpa using hu)⟩⟩
 obtain ⟨v', w3, hrun, h5, d5⟩ := Sat.append (P := Tryz.prog) (ty := 74) Tryz.underlying74 hi hz hs0 hb0 rfl (hA.right.front3) hR (by simp [Value.oneCell']) (by unfold maxLen; omega) (by omega)
 have h6 := h5.back3
 obtain ⟨va, vc, rfl⟩ := sl_shape h5
 refine ⟨_, _, _, w3, hrun, (h6.cell 1).trans rfl, h6.frozen, ((Side.refl w2).alloc _).trans d5, ?_⟩
 have h7 := h6.setCell 1 (.slice va (x.Z.length + 1) vc)
 have h8 := h7.front7.front7
 have hg : Sat (w3.setCell ⟨d, 1, none⟩ (.slice va (x.Z.length + 1) vc)) (pool S * (bs 5 (.slice (some ⟨g, 0, none⟩) 512 512) l * (pt d (.cells ((x.cells D).setIfInBounds 1 (.slice va (x.Z.length + 1) vc)) 76 (0, 0)) * (pt x.sg (.cells (x.Y.map Prod.fst).toArray 22 (0, 0)) * (sl 80 2 (.slice va (x.Z.length + 1) vc) (x.Z.length + 1) (flatW x.Z ++ [.int .i64 a, .slice (some ⟨g, 0, none⟩) 512 512]) * (mp x.tm (tornKV D.torn) * (sl 3 1 x.kv D.keep.length (i64v D.keep) * F))))))) := by
  have h9 : Sat _ (pt g (.cells (u8s (padTo 512 l)) 5 (0, 0)) * _) := h8
  have h10 := Sat.slOf (sz := 1) (n := 512) (cap := 512) h9 (by omega) (by unfold maxLen; omega) (by simp [size_u8s, padTo_length])
  refine h10.to ?_
  rw [bs_sector _ g hl]
  ac_rfl
 obtain ⟨S', hE, hV, h11⟩ := Sat.poolBs hg (by rw [small, hl]; omega)
 refine ⟨S', hE, ?_⟩
 have hfit2 : ({ x with wv := .slice va (x.Z.length + 1) vc, Z := x.Z ++ [(a, .slice (some ⟨g, 0, none⟩) 512 512, l)] } : Dx).Fit 5 S' { D with wait := D.wait ++ [(a, l)] } := by
  refine ⟨hfit.sec, fun y hy => (hfit.vals y hy).mono hE, ?_, fun z hz => ?_⟩
  ·show (x.Z ++ [_]).map _ = _
   rw [List.map_append, hfit.wait]; rfl
  ·rcases List.mem_append.1 hz with hz | hz
   ·exact (hfit.wvals z hz).mono hE
   ·rw [List.mem_singleton.1 hz]; exact hV
 refine Sat.devOf (Sat.devShut hfit2 (h11.to ?_))
 simp only [Dx.cells, flatW, List.flatMap_append, List.flatMap_cons, List.flatMap_nil, List.append_nil, List.length_append, List.length_cons, List.length_nil, List.setIfInBounds_toArray, List.set_cons_zero, List.set_cons_succ]
 ac_rfl
theorem copied_enters : ∀ args w, (callFunc 37 args).run Tryz.prog w = .ok (.enter 37 args) w := enters Tryz.func37 (by kernel_rfl) rfl
def WriteQ (S : Hp) (d : Nat) (D : Dev) (v : Value) (F : Assn) (w : World) (e : Ending) (w' : World) : Prop :=
 ∃ S', Ext S S' ∧ e = .returned v ∧ Sat w' (devA S' d D * (pool S' * F)) ∧ Side w w'
theorem WriteQ.of {S : Hp} {d : Nat} {D : Dev} {v : Value} {F : Assn} {w : World} {e : Ending} {w' : World} (h : DevQ S d D v (pool S * F) w e w') : WriteQ S d D v F w e w' :=
 ⟨S, Ext.refl S, h.1, h.2.1, h.2.2⟩
set_option maxRecDepth 100000 in
set_option maxHeartbeats 4000000 in
theorem write_any (w : World) (S : Hp) (d : Nat) (D : Dev) (a : Int) (bv : Value) (l : List UInt8) (F : Assn) (h : Sat w (devA S d D * (pool S * F))) (hD : D.Ok) (hr : Rd w bv l) (hK : ∀ w' D', Sat w' (devA S d D' * (pool S * F)) → Rd w' bv l) (hl63 : l.length ≤ 9223372036854775807) :
  Calls Tryz.prog 11 #[.pointer (some ⟨d, 0, none⟩), .int .i64 a, bv] w (WriteQ S d (D.write a l).2 (.int .i64 (D.write a l).1) F w) := by
 obtain ⟨ba, bc, rfl⟩ := hr.shape
 have ch := has_any w S d D a _ h
 by_cases hh : D.has a
 ·rw [show decide (D.has a) = true by simpa using hh] at ch
  by_cases hl : l.length = 512
  ·have hl' : ((l.length : Int) != 512) = false := by simp [hl]
   have cb := begin_any w S d D _ h hD
   rcases D.begins_cases with hb | hb
   ·have e : D.write a l = (0, { D.begun with cw := i64w (D.begun.cw + 1), wait := D.begun.wait ++ [(a, l)] }) := by simp [Dev.write, hh, hl, hb]
    rw [e]
    rw [hb] at cb
    have hok := hD.up hb
    have Hl := SL.hid hl
    clear e hb hl hr hh hD
    generalize D.begun = D1 at cb hok ⊢
    go_enter Tryz.func11, Tryz.ntmps11
    go_wp2_with (go_at_call 35; refine ch.mono ?_; rintro e w1 ⟨rfl, rfl⟩)
    refine cb.mono ?_
    rintro e w2 ⟨rfl, h2, d2⟩
    obtain ⟨x2, hx2⟩ := h2.devEx
    have hfit := hx2.devOpen.1
    have k4 : w2.cell? ⟨d, 4, none⟩ = some (.int .i64 D1.cw) := hx2.devCell 4
    have kf := hx2.devFree
    have hx3 : Sat (w2.setCell ⟨d, 4, none⟩ (.int .i64 (i64w (D1.cw + 1)))) (devX x2 S d { D1 with cw := i64w (D1.cw + 1) } * (pool S * F)) :=
     Sat.devShut ⟨hfit.sec, hfit.vals, hfit.wait, hfit.wvals⟩ (hx2.devOpen.2.setCell 4 (.int .i64 (i64w (D1.cw + 1))))
    have d3 := d2.setCell ⟨d, 4, none⟩ (.int .i64 (i64w (D1.cw + 1)))
    have hm : D1.wait.length ≤ 1000000 := hok.many
    have hr3 : Rd (w2.setCell ⟨d, 4, none⟩ (.int .i64 (i64w (D1.cw + 1)))) (.slice ba l.length bc) l := hK _ _ hx3.devOf
    clear cb ch h hx2 hok h2
    go_wp2_with fail
    generalize w2.setCell ⟨d, 4, none⟩ (.int .i64 (wrap64 (D1.cw + 1))) = w3 at hx3 d3 hr3 ⊢
    have k1 : w3.cell? ⟨d, 1, none⟩ = some x2.wv := hx3.devCell 1
    have hr4 : Rd w3.drew (.slice ba l.length bc) l := hr3
    clear k4 kf d2 hl'
    go_region_law (first
     | (refine step_call_run (copiedB_any w3.drew _ l hr4 hl63) copied_enters rfl _ _ rfl (by rfl) ?_; rintro e w4 ⟨g, rfl, h4, d4⟩; refine ⟨_, rfl, ?_⟩; have q4 : w4.cell? ⟨d, 1, none⟩ = some x2.wv := h4.cellOld (W := w3.drew) k1; have ql : d < w4.heap.size := World.block_lt_of_cell? w4 _ q4; obtain ⟨va, vn, vc, w5, hrun, q1, qf, d5, S5, E5, h5⟩ := append_wait (w1 := w3.drew) (a := a) (SL.Sat.drew hx3) Hl.out hm h4)
     | (refine step_append_run hrun rfl _ _ rfl rfl (by rfl) (by rfl) ?_))
    all_goals
     go_wp2
     go_ret
     exact ⟨S5, E5, rfl, h5, ((d3.drew.trans d4).trans d5).setCell _ _⟩
   ·have e : D.write a l = (2, D.begun) := by simp [Dev.write, hh, hl, hb]
    rw [e]
    rw [hb] at cb
    clear e hb hl hr hh hD hK
    go_enter Tryz.func11, Tryz.ntmps11
    go_wp2_with (first
     | (go_at_call 35; refine ch.mono ?_; rintro e w1 ⟨rfl, rfl⟩)
     | (go_at_call 36; refine cb.mono ?_; rintro e w2 ⟨rfl, h2, d2⟩))
    go_ret
    exact ⟨S, Ext.refl S, rfl, h2, d2⟩
  ·have hl' : ((l.length : Int) != 512) = true := by simp; omega
   have e : D.write a l = (1, D) := by simp [Dev.write, hl]
   rw [e]
   clear e hl hr hh hD hK
   go_enter Tryz.func11, Tryz.ntmps11
   go_wp2_with (go_at_call 35; refine ch.mono ?_; rintro e w1 ⟨rfl, rfl⟩)
   go_ret
   exact ⟨S, Ext.refl S, rfl, h, Side.refl w⟩
 ·rw [show decide (D.has a) = false by simpa using hh] at ch
  have e : D.write a l = (1, D) := by simp [Dev.write, hh]
  rw [e]
  clear e hr hh hD hK
  go_enter Tryz.func11, Tryz.ntmps11
  go_wp2_with (go_at_call 35; refine ch.mono ?_; rintro e w1 ⟨rfl, rfl⟩)
  go_ret
  exact ⟨S, Ext.refl S, rfl, h, Side.refl w⟩
def FlushRel (x : Dx) (S : Hp) (d : Nat) (D : Dev) (F : Assn) (w : World) (n : Nat) (u : Value) (wr : World) : Prop :=
 ∃ (k : Nat) (Y : List (Value × List UInt8)), k ≤ n ∧ u = .int .i64 k ∧ Sat wr (devX { x with Y := Y } S d (D.doneAll (D.wait.take k)) * F) ∧ Side w wr
theorem doneAll_keep (D : Dev) (l : List (Int × List UInt8)) : (D.doneAll l).keep = D.keep ∧ (D.doneAll l).wait = D.wait ∧ (D.doneAll l).sec.length = D.sec.length ∧ (D.doneAll l).left = D.left := by
 unfold Dev.doneAll
 induction l generalizing D with
 | nil => exact ⟨rfl, rfl, rfl, rfl⟩
 | cons p l ih =>
  obtain ⟨h1, h2, h3, h4⟩ := ih (D.done p)
  exact ⟨h1, h2, h3.trans (by simp [Dev.done]), h4⟩
set_option maxRecDepth 100000 in
set_option maxHeartbeats 4000000 in
theorem flush_any (w : World) (S : Hp) (d : Nat) (D : Dev) (F : Assn) (h : Sat w (devA S d D * F)) (hD : D.Ok) :
  Calls Tryz.prog 41 #[.pointer (some ⟨d, 0, none⟩)] w (DevQ S d D.flush.2 (.int .i64 D.flush.1) F w) := by
 have cb := begin_any w S d D _ h hD
 rcases D.begins_cases with hb | hb
 ·have e : D.flush = (0, D.begun.flushed) := by simp [Dev.flush, hb]
  rw [e]
  rw [hb] at cb
  have hok := hD.up hb
  clear e hb hD
  generalize D.begun = D1 at cb hok ⊢
  go_enter Tryz.func41, Tryz.ntmps41
  go_wp2_with fail
  refine cb.mono ?_
  rintro e w2 ⟨rfl, h2, d2⟩
  obtain ⟨x2, hx2⟩ := h2.devEx
  have hfit := hx2.devOpen.1
  have k5 : w2.cell? ⟨d, 5, none⟩ = some (.int .i64 D1.cf) := hx2.devCell 5
  have kf := hx2.devFree
  have hx3 : Sat (w2.setCell ⟨d, 5, none⟩ (.int .i64 (i64w (D1.cf + 1)))) (devX x2 S d { D1 with cf := i64w (D1.cf + 1) } * F) :=
   Sat.devShut ⟨hfit.sec, hfit.vals, hfit.wait, hfit.wvals⟩ (hx2.devOpen.2.setCell 5 (.int .i64 (i64w (D1.cf + 1))))
  have d3 := d2.setCell ⟨d, 5, none⟩ (.int .i64 (i64w (D1.cf + 1)))
  have hok2 : ({ D1 with cf := i64w (D1.cf + 1) } : Dev).Ok := ⟨hok.n, hok.wait, hok.many, hok.keep⟩
  obtain ⟨wa, wc, hwv⟩ := hx3.devW
  have k1 : (w2.setCell ⟨d, 5, none⟩ (.int .i64 (i64w (D1.cf + 1)))).cell? ⟨d, 1, none⟩ = some (.slice wa D1.wait.length wc) := (hx3.devCell 1).trans (by simp only [Dx.cells, hwv]; rfl)
  have hn : (D1.wait.length : Int) ≤ 1000000 := by have := hok.many; omega
  have Hwv := SL.hid hwv
  clear cb hx2 hok h2 h hwv
  go_wp2_with fail
  generalize w2.setCell ⟨d, 5, none⟩ (.int .i64 (wrap64 (D1.cf + 1))) = w3 at hx3 d3 k1 ⊢
  change Sat w3 (devX x2 S d { D1 with cf := i64w (D1.cf + 1) } * F) at hx3
  obtain ⟨D2, hD2⟩ : ∃ D2, D2 = ({ D1 with cf := i64w (D1.cf + 1) } : Dev) := ⟨_, rfl⟩
  have hw2 : D1.wait = D2.wait := by rw [hD2]
  have hq : D1.flushed = { D2.doneAll D2.wait with wait := [] } := by rw [hD2]; rfl
  have Hq := SL.hid hq
  rw [← hD2] at hx3 hok2
  rw [hw2] at k1 hn ⊢
  have Hwv2 : Hid (x2.wv = .slice wa D2.wait.length wc) := by rw [← hw2]; exact Hwv.out
  clear hD2 hw2 k5 kf d2 hq Hwv
  go_loopw [27] (fun u wr => FlushRel x2 S d D2 F w D2.wait.length u wr) (fun u _ => D2.wait.length - (intOf u).toNat)
  case atStart => exact ⟨0, x2.Y, Nat.zero_le _, rfl, hx3, d3⟩
  case round =>
   obtain ⟨k, Y, hkn, rfl, hsat, hside⟩ := hrel
   clear k1 hx3 d3
   obtain ⟨e1, e2, e3, e4⟩ := doneAll_keep D2 (D2.wait.take k)
   by_cases hlt : k < D2.wait.length
   ·have hlt' : (k : Int) < (D2.wait.length : Int) := by omega
    have hzn : x2.Z.length = D2.wait.length := hsat.devWaits.trans (by rw [e2])
    have hzl : k < x2.Z.length := by omega
    obtain ⟨g, hwa⟩ : ∃ g, wa = some ⟨g, 0, none⟩ := by
     have hpos : 0 < x2.Z.length := by omega
     have := sl_addr hsat.devOpen.2.front3 hpos
     obtain ⟨g, c, hh⟩ := this
     rw [Hwv2.out] at hh
     exact ⟨_, (Value.slice.inj hh).1⟩
    subst hwa
    have hcz : wr.cell? ⟨g, k * 2, none⟩ = some (.int .i64 x2.Z[k].1) ∧ wr.cell? ⟨g, k * 2 + 1, none⟩ = some x2.Z[k].2.1 := by
     have := hsat.devOpen.2.front3
     simp only [Hwv2.out] at this
     exact this.writeCells hzl
    obtain ⟨hc0, hc1⟩ := hcz
    have hwk : D2.wait[k]? = some (x2.Z[k].1, x2.Z[k].2.2) := by
     rw [← e2, ← hsat.devOpen.1.wait]
     simp [hzl]
    have hval : Val 5 S x2.Z[k].2.1 x2.Z[k].2.2 := hsat.devOpen.1.wvals _ (List.getElem_mem hzl)
    obtain ⟨da, dc, hdv⟩ := val_shape hval
    rw [hdv] at hc1 hval
    have hhas : (D2.doneAll (D2.wait.take k)).has x2.Z[k].1 := by
     have := hok2.wait _ (List.mem_of_getElem? hwk)
     unfold Dev.has at this ⊢
     rw [e3]; exact this
    generalize x2.Z[k].1 = at' at hc0 hwk hhas
    generalize x2.Z[k].2.2 = dl at hc1 hwk hval
    have Hwk := SL.hid hwk
    clear hwk hdv e1 e2 e3 e4
    have hgl : g < wr.heap.size := World.block_lt_of_cell? wr _ hc0
    have hA := hsat.alloc (.cells #[.int .i64 at', .slice da dl.length dc] 80 (0, 0))
    have hsA := hside.alloc (.cells #[.int .i64 at', .slice da dl.length dc] 80 (0, 0))
    go_wp2_with (go_at_call 62; refine (done_any _ S d _ _ (at', dl) _ _ hA.right hval hhas).mono ?_; rintro e w2 ⟨rfl, h2, d2⟩)
    go_roundw
    case rel =>
     refine ⟨k + 1, Y.set at'.toNat (.slice da dl.length dc, dl), by omega, by go_num, ?_, hsA.trans d2⟩
     have e : D2.doneAll (D2.wait.take (k + 1)) = (D2.doneAll (D2.wait.take k)).done (at', dl) := by
      rw [List.take_add_one, Hwk.out]; simp [Dev.doneAll]
     rw [e]; exact h2
    case measure => simp [intOf]; omega
   ·obtain rfl : k = D2.wait.length := by omega
    have k1 := hsat.devCell 1
    have kf := hsat.devFree
    simp only [Dx.cells] at k1
    have hfit := hsat.devOpen.1
    have H2 := hsat.devOpen.2.setCell 1 (.slice none 0 0)
    rw [List.take_length] at H2 hfit
    clear e1 e2 e3 e4
    go_wp2
    go_ret
    refine ⟨rfl, ?_, hside.setCell _ _⟩
    rw [Hq.out]
    have H3 := (H2.drop3).slNil 80 2
    refine Sat.devOf (x := { x2 with Y := Y, wv := .slice none 0 0, Z := [] }) (Sat.devShut ⟨hfit.sec, hfit.vals, rfl, by simp⟩ ?_)
    exact H3.to (by
     simp only [Dx.cells, List.length_nil, flatW, List.flatMap_nil, List.setIfInBounds_toArray, List.set_cons_zero, List.set_cons_succ]
     ac_rfl)
 ·have e : D.flush = (2, D.begun) := by simp [Dev.flush, hb]
  rw [e]
  rw [hb] at cb
  clear e hb hD
  go_enter Tryz.func41, Tryz.ntmps41
  go_wp2_with (go_at_call 36; refine cb.mono ?_; rintro e w2 ⟨rfl, h2, d2⟩)
  go_ret
  exact ⟨rfl, h2, d2⟩
end Go.Proofs.YtdafdidmbeecfaaGreatDoor
end

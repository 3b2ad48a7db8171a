/- batch: share, Fork, Join. -/
import Derived.Test.YtcgpegdnicnciaaW8
import Derived.LaidEqlPtr
namespace Go.Proofs.Ytcgpegdnicnciaa
set_option linter.unusedVariables false
set_option linter.unusedSimpArgs false
open Go.RowKit Go.SL
def ShareQ (b o : Nat) (cs : Array Value) (bv : Value) (G : Assn) (w : World) (e : Ending) (w' : World) : Prop :=
  e = .returned (.agg #[bv, .bool true]) ∧ Sat w' (pt b (.cells (cs.setIfInBounds (o + 1) (.bool true)) 54 (0, 0)) * G) ∧ Side w w'
set_option maxRecDepth 100000 in
set_option maxHeartbeats 1000000 in
theorem share_any (w : World) (b o : Nat) (cs : Array Value) (r : Option Nat) (sh : Bool) (G : Assn) (h : Sat w (pt b (.cells cs 54 (0, 0)) * G)) (h0 : cs[o]? = some (.map r)) (h1 : cs[o + 1]? = some (.bool sh)) :
    Calls Try.prog 24 #[.pointer (some ⟨b, o, none⟩)] w (ShareQ b o cs (.map r) G w) := by
  have hc0 : w.cell? ⟨b, o, none⟩ = some (.map r) := (h.cell o).trans h0
  have hc1 : w.cell? ⟨b, o + 1, none⟩ = some (.bool sh) := (h.cell (o + 1)).trans h1
  have hf0 : ∀ o, w.frozen? ⟨b, o, none⟩ = false := h.frozen
  have hlt : b < w.heap.size := h.lt
  have hne : ¬ (w.heap.size = b) := by omega
  have hne' : ¬ (b = w.heap.size) := by omega
  have ho : ¬ (o = o + 1) := by omega
  have H0 := SL.hid h0; have H1 := SL.hid h1; clear h0 h1
  go_enter Try.func24, Try.ntmps24
  go_wp2
  refine bodyPost_ret (v := .agg #[.map r, .bool true]) (by simp [results, Try.results24, go_sem]) rfl ?_
  exact ⟨rfl, ((h.setCell (o + 1) (.bool true)).alloc _).right, ((Side.refl w).setCell _ _).alloc _⟩
def ForkQ (b : Nat) (S : Hp) (rd : Value) (err : Int) (W D : CB) (F : Assn) (w : World) (e : Ending) (w' : World) : Prop :=
  ∃ S' f, Ext S S' ∧ e = .returned (.pointer (some ⟨f, 0, none⟩)) ∧ Sat w' (batchA 54 5 S' f rd err W D * (batchA 54 5 S' b rd err W D * (pool S' * F))) ∧ Side w w'
set_option maxRecDepth 100000 in
set_option maxHeartbeats 2000000 in
theorem fork_any (w : World) (S : Hp) (b : Nat) (rd : Value) (err : Int) (W D : CB) (F : Assn)
    (h : Sat w (batchA 54 5 S b rd err W D * (pool S * F))) (hrd : ∃ T v, rd = .iface T v) :
    Calls Try.prog 16 #[.pointer (some ⟨b, 0, none⟩)] w (ForkQ b S rd err W D F w) := by
  obtain ⟨T, rv, rfl⟩ := hrd
  obtain ⟨x, hx⟩ := h.batchOpen
  obtain ⟨rw, hwv⟩ := hx.front2.bookVal
  obtain ⟨rt, htv⟩ := hx.front3.bookVal
  obtain ⟨wv, ws, tv, ts, av⟩ := x
  simp only at hwv htv
  subst hwv htv
  have hc0 : w.cell? ⟨b, 0, none⟩ = some (.iface T rv) := hx.cell 0
  have hc1 : w.cell? ⟨b, 1, none⟩ = some (.int .i64 err) := hx.cell 1
  go_enter Try.func16, Try.ntmps16
  go_wp2
  go_region_held3 (fun w' => w'.cell? ⟨b, 0, none⟩ = some (.iface T rv) ∧ w'.cell? ⟨b, 1, none⟩ = some (.int .i64 err)) (go_keep)
    (first
      | (go_at_call_of 24 (Value.pointer (some ⟨b, 2, none⟩)); refine (share_any w.drew b 2 _ rw ws _ hx rfl rfl).mono ?_; rintro e w1 ⟨rfl, h1, d1⟩; have g0 := h1.cell 0; have g1 := h1.cell 1; simp [Bx.cells] at g0 g1)
      | (go_at_call_of 24 (Value.pointer (some ⟨b, 4, none⟩)); refine (share_any w1 b 4 _ rt ts _ h1 rfl rfl).mono ?_; rintro e w2 ⟨rfl, h2, d2⟩; have k0 := h2.cell 0; have k1 := h2.cell 1; simp [Bx.cells] at k0 k1))
  go_wp2
  go_ret
  have h3 := h2.alloc (.cells #[.iface T rv, .int .i64 err, .map rw, .bool true, .map rt, .bool true, .map none] 54 (0, 0))
  obtain ⟨S', hE, h4⟩ := Sat.shareTwo (T := 5) (S := S) (v := .map rw) (sh := ws) (C := W) (v' := .map rt) (sh' := ts) (C' := D) (F := pt w2.heap.size (.cells #[.iface T rv, .int .i64 err, .map rw, .bool true, .map rt, .bool true, .map none] 54 (0, 0)) * (pt b (.cells #[.iface T rv, .int .i64 err, .map rw, .bool true, .map rt, .bool true, av] 54 (0, 0)) * (askA av * F))) (h3.to (by
    show _ * (pt b (.cells #[.iface T rv, .int .i64 err, .map rw, .bool true, .map rt, .bool true, av] 54 (0, 0)) * _) = _
    ac_rfl))
  refine ⟨S', _, hE, rfl, ?_, (((Side.refl w).drew.trans d1).trans d2).alloc _⟩
  have e2 : ∀ {w : World} {F : Assn}, Sat w F → Sat w (askA (.map none) * F) := fun h => (h.to (emp_star _).symm).weak fun k hk => .inl ⟨rfl, hk⟩
  have h5 := e2 h4
  refine Sat.batchShut ⟨.map rw, true, .map rt, true, .map none⟩ ?_
  have h6 : Sat (w2.alloc (.cells #[.iface T rv, .int .i64 err, .map rw, .bool true, .map rt, .bool true, .map none] 54 (0, 0))) (batchA 54 5 S' b (.iface T rv) err W D * (pt w2.heap.size (.cells #[.iface T rv, .int .i64 err, .map rw, .bool true, .map rt, .bool true, .map none] 54 (0, 0)) * (bookA 5 S' (.map rw) true W * (bookA 5 S' (.map rt) true D * (askA (.map none) * (pool S' * F)))))) :=
    Sat.batchShut ⟨.map rw, true, .map rt, true, av⟩ (h5.to (by simp only [Bx.cells]; ac_rfl))
  exact h6.to (by simp only [Bx.cells]; ac_rfl)
def JoinQ (b f : Nat) (S : Hp) (rd : Value) (err : Int) (W D : CB) (F : Assn) (w : World) (e : Ending) (w' : World) : Prop :=
  ∃ S', Ext S S' ∧ e = .returned (.tuple #[]) ∧ Sat w' (batchA 54 5 S' b rd err W D * (batchA 54 5 S' f rd err W D * (pool S' * F))) ∧ Side w w'
set_option maxRecDepth 100000 in
set_option maxHeartbeats 2000000 in
theorem join_any (w : World) (S : Hp) (b f : Nat) (rd rd' : Value) (err err' : Int) (W D W' D' : CB) (F : Assn)
    (h : Sat w (batchA 54 5 S b rd' err' W' D' * (batchA 54 5 S f rd err W D * (pool S * F)))) (hrd : ∃ T v, rd = .iface T v) :
    Calls Try.prog 19 #[.pointer (some ⟨b, 0, none⟩), .pointer (some ⟨f, 0, none⟩)] w (JoinQ b f S rd err W D F w) := by
  obtain ⟨T, rv, rfl⟩ := hrd
  obtain ⟨y, hy⟩ := h.batchOpen
  have hy' : Sat w (batchA 54 5 S f (.iface T rv) err W D * (pt b (.cells (y.cells rd' err') 54 (0, 0)) * (askA y.av * (pool S * F)))) :=
    (hy.drop2.drop2).to (by ac_rfl)
  obtain ⟨x, hx⟩ := hy'.batchOpen
  obtain ⟨rw, hwv⟩ := hx.front2.bookVal
  obtain ⟨rt, htv⟩ := hx.front3.bookVal
  obtain ⟨wv, ws, tv, ts, av⟩ := x
  simp only at hwv htv
  subst hwv htv
  obtain ⟨yw, yws, yt, yts, yav⟩ := y
  clear h hy hy'
  have hne : f ≠ b := Sat.ne (hx.front5.front2)
  have hn1 : ¬ (f = b) := hne
  have hn2 : ¬ (b = f) := fun e => hne e.symm
  have hc0 : w.cell? ⟨f, 0, none⟩ = some (.iface T rv) := hx.cell 0
  have hc1 : w.cell? ⟨f, 1, none⟩ = some (.int .i64 err) := hx.cell 1
  have hb0 : w.cell? ⟨b, 0, none⟩ = some rd' := hx.front5.cell 0
  have hb1 : w.cell? ⟨b, 1, none⟩ = some (.int .i64 err') := hx.front5.cell 1
  have hbf : ∀ o, w.frozen? ⟨b, o, none⟩ = false := hx.front5.frozen
  obtain ⟨j, hj, hj7⟩ := Option.map_eq_some_iff.1 (show (Try.prog.info? 54).map (·.size) = some 7 by kernel_rfl)
  have heq : (binOp .eql 24 (.pointer (some ⟨f, 0, none⟩)) (.pointer (some ⟨b, 0, none⟩))).run Try.prog w = .ok (.bool false) w :=
    run_eql_ptr_other w Try.underlying24 hj (by rw [hj7]; decide) (by simp [hne]) hx.heap hx.front5.heap
  clear hne hj hj7
  have h1 := ((hx.front5.setCell 0 (.iface T rv)).setCell 1 (.int .i64 err)).back5
  go_enter Try.func19, Try.ntmps19
  go_wp2_with fail
  refine (share_any _ f 2 _ rw ws _ h1 rfl rfl).mono ?_
  rintro e w1 ⟨rfl, h2, d1⟩
  clear hc0 hc1 hb0 hb1 hbf heq
  have k2 := h2.front5.cell 2; have k3 := h2.front5.cell 3; have kf : ∀ o, w1.frozen? ⟨b, o, none⟩ = false := h2.front5.frozen
  simp [Bx.cells] at k2 k3
  go_wp2_with fail
  have h3 := ((h2.front5.setCell 2 (.map rw)).setCell 3 (.bool true)).back5
  refine (share_any _ f 4 _ rt ts _ h3 rfl rfl).mono ?_
  rintro e w2 ⟨rfl, h4, d2⟩
  clear k2 k3 kf
  have k4 := h4.front5.cell 4; have k5 := h4.front5.cell 5; have kf : ∀ o, w2.frozen? ⟨b, o, none⟩ = false := h4.front5.frozen
  simp [Bx.cells] at k4 k5
  go_wp2
  go_end0
  have h5 := ((h4.front5.setCell 4 (.map rt)).setCell 5 (.bool true)).back5
  change Sat _ (pt f (.cells #[.iface T rv, .int .i64 err, .map rw, .bool true, .map rt, .bool true, av] 54 (0, 0)) * (_ * (_ * (_ * (pt b (.cells #[.iface T rv, .int .i64 err, .map rw, .bool true, .map rt, .bool true, yav] 54 (0, 0)) * _))))) at h5
  obtain ⟨S', hE, h6⟩ := Sat.shareTwo (T := 5) (S := S) (v := .map rw) (sh := ws) (C := W) (v' := .map rt) (sh' := ts) (C' := D)
    (F := pt f (.cells #[.iface T rv, .int .i64 err, .map rw, .bool true, .map rt, .bool true, av] 54 (0, 0)) * (pt b (.cells #[.iface T rv, .int .i64 err, .map rw, .bool true, .map rt, .bool true, yav] 54 (0, 0)) * (askA av * (askA yav * F)))) (h5.to (by ac_rfl))
  refine ⟨S', hE, rfl, ?_, (((((((Side.refl w).setCell _ _).setCell _ _).trans d1).setCell _ _).setCell _ _).trans d2).setCell _ _ |>.setCell _ _⟩
  refine Sat.batchShut ⟨.map rw, true, .map rt, true, yav⟩ ?_
  generalize ((w2.setCell _ _).setCell _ _) = w3 at h6 ⊢
  have h7 : Sat w3 (batchA 54 5 S' f (.iface T rv) err W D * (pt b (.cells #[.iface T rv, .int .i64 err, .map rw, .bool true, .map rt, .bool true, yav] 54 (0, 0)) * (bookA 5 S' (.map rw) true W * (bookA 5 S' (.map rt) true D * (askA yav * (pool S' * F)))))) :=
    Sat.batchShut ⟨.map rw, true, .map rt, true, av⟩ (h6.to (by simp only [Bx.cells]; ac_rfl))
  exact h7.to (by simp only [Bx.cells]; ac_rfl)
end Go.Proofs.Ytcgpegdnicnciaa

/- file: run of a job that answers a number. file: run of a job that answers bytes (printed by mkrun2.py from XFq). file: run of a job that answers nothing (printed by mkrun3.py from XFq). file: run of a job that answers a node (printed by mkrun4.py from XFs). file: do. -/
import Derived.Test.YtaoohjeaaccnfaaGreatFp
import Derived.Recover
import Derived.Deep.MidRow
import Derived.Laws.Rows
import Derived.Laws.Tables
namespace Go.SL
set_option linter.unusedVariables false
set_option linter.unusedSimpArgs false
open Go.RowKit
section
variable {σ α : Type}
def wflush : WM σ Unit := fun st => if st.dt = true then wwrite 0 (st.bits.getD []) st else (.ok (), st)
/-- What run makes of a job's end. -/
def wrunE (M : Bst σ) : Rs α × Wst σ → Rs α × Bst σ
  | (.ok a, st) => (.ok a, st.b)
  | (.bad c, st) => (.bad c, { M with s := st.b.s })
def wrun (m : WM σ α) (M : Bst σ) : Rs α × Bst σ := wrunE M ((WM.bind m fun a => WM.bind wflush fun _ => WM.pure a) ⟨M, none, false⟩)
theorem wrun_bad {m : WM σ α} {M : Bst σ} {st : Wst σ} {c : Int} (h : m ⟨M, none, false⟩ = (.bad c, st)) : wrun m M = (.bad c, { M with s := st.b.s }) := by
  unfold wrun; rw [WM.bind_bad h]; rfl
theorem wrun_ok {m : WM σ α} {M : Bst σ} {st : Wst σ} {a : α} (h : m ⟨M, none, false⟩ = (.ok a, st)) (hd : st.dt = false) : wrun m M = (.ok a, st.b) := by
  have e : (WM.bind wflush fun _ => WM.pure a) st = (.ok a, st) := WM.bind_ok (if_neg (by rw [hd]; decide))
  unfold wrun; rw [WM.bind_ok h, e]; rfl
theorem wrun_wr {m : WM σ α} {M : Bst σ} {st st' : Wst σ} {a : α} (h : m ⟨M, none, false⟩ = (.ok a, st)) (hd : st.dt = true) (hw : wwrite 0 (st.bits.getD []) st = (.ok (), st')) : wrun m M = (.ok a, st'.b) := by
  have e : (WM.bind wflush fun _ => WM.pure a) st = (.ok a, st') := WM.bind_ok ((if_pos hd).trans hw)
  unfold wrun; rw [WM.bind_ok h, e]; rfl
theorem wrun_wb {m : WM σ α} {M : Bst σ} {st st' : Wst σ} {a : α} {c : Int} (h : m ⟨M, none, false⟩ = (.ok a, st)) (hd : st.dt = true) (hw : wwrite 0 (st.bits.getD []) st = (.bad c, st')) : wrun m M = (.bad c, { M with s := st'.b.s }) := by
  have e : (WM.bind wflush fun _ => WM.pure a) st = (.bad c, st') := WM.bind_bad ((if_pos hd).trans hw)
  unfold wrun; rw [WM.bind_ok h, e]; rfl
end
end Go.SL
namespace Go.Proofs.YtaoohjeaaccnfaaGreat.Fs
set_option linter.unusedVariables false
set_option linter.unusedSimpArgs false
open Go.RowKit Go.SL Go.Proofs.YtaoohjeaaccnfaaGreat.Ba
theorem assert_fault (v : Value) (w : World) : (Instr.typeAssert (.iface 123 v) 20 123 true).run Tryz.prog w = .ok (.tuple #[v, .bool true]) w := by
  simp [Instr.typeAssert, run_underlying Tryz.underlying123, go_sem, Result.andThen]
section
variable {σ α : Type}
set_option maxRecDepth 100000 in
set_option maxHeartbeats 1000000 in
theorem runI_ret (w : World) (pa pe : Addr) :
    CallsD Tryz.prog 78 #[.pointer (some pa), .pointer (some pe)] .returning w fun e u w' => e = .returned (.tuple #[]) ∧ u = .returning ∧ w = w' := by
  refine callsD_of_wpS Tryz.func78 rfl fun c₀ cs hu => ?_
  apply wpS_seq
  refine wpS_of_wp ?_
  simp only [Tryz.ntmps78, List.size_toArray, List.length_cons, List.length_nil, Nat.reduceAdd, Nat.reduceSub, Array.replicate_succ,
     Array.replicate_zero, List.push_toArray, List.append_toArray, List.nil_append, List.cons_append]
  go_wp2
  simp only [Exit.thenS]
  apply wpS_seq
  apply wpS_region
  simp [wpOpsS, go_sem, recoverD, hu, Exit.thenS]
  refine wpS_of_wp ?_
  go_wp2
  cases c₀
  simp_all [bodyPostS, results, Tryz.results78]
set_option maxRecDepth 100000 in
set_option maxHeartbeats 1000000 in
theorem runI_pan (w : World) (pa pe : Addr) (c x y : Int) (older : List PanicEntry) (ha : w.cell? pa = some (.int .i64 x)) (he : w.cell? pe = some (.int .i64 y)) (fa : w.frozen? pa = false) (fe : w.frozen? pe = false) (hne : pa ≠ pe) :
    CallsD Tryz.prog 78 #[.pointer (some pa), .pointer (some pe)] (.panicking ({ v := .iface 123 (.int .i64 c), recovered := false } :: older)) w fun e u w' =>
      e = .returned (.tuple #[]) ∧ u = .panicking ({ v := .iface 123 (.int .i64 c), recovered := true } :: older) ∧ w' = (w.setCell pa (.int .i64 0)).setCell pe (.int .i64 c) := by
  refine callsD_of_wpS Tryz.func78 rfl fun c₀ cs hu => ?_
  apply wpS_seq
  refine wpS_of_wp ?_
  simp only [Tryz.ntmps78, List.size_toArray, List.length_cons, List.length_nil, Nat.reduceAdd, Nat.reduceSub, Array.replicate_succ,
     Array.replicate_zero, List.push_toArray, List.append_toArray, List.nil_append, List.cons_append]
  go_wp2
  simp only [Exit.thenS]
  apply wpS_seq
  apply wpS_region
  simp [wpOpsS, go_sem, recoverD, hu, Exit.thenS]
  refine wpS_of_wp ?_
  have hne2 : ¬ pa = pe := hne
  have hta := assert_fault (.int .i64 c)
  go_wp2
  exact ⟨rfl, _, rfl, _, results_none rfl _ _ _, rfl, rfl, rfl⟩
/-- What run comes to. -/
def RunQ (c : Cx σ) (mb : Nat) (zero : Value) (R : α → Value → Assn) (S : Hp) (F : Assn) (w : World) : Rs α × Bst σ → Ending → World → Prop
  | (.ok a, M'), e, w' => ∃ S' v, Ext S S' ∧ Side w w' ∧ e = .returned (.tuple #[v, .int .i64 0]) ∧ Sat w' (R a v * (btA c S' mb M' * (pool S' * F)))
  | (.bad n, M'), e, w' => ∃ S', Ext S S' ∧ Side w w' ∧ e = .returned (.tuple #[zero, .int .i64 n]) ∧ Sat w' (btA c S' mb M' * (pool S' * F))
/-- What a job does to a work that has just begun. -/
def Job (c : Cx σ) (n : Nat) (jf : FuncId) (caps : Array Value) (R : α → Value → Assn) (G : Assn) (m : WM σ α) : Prop :=
  ∀ (x : Wk σ) (w : World) (S : Hp) (st : Wst σ) (F : Assn), x.c = c → x.n = n → Sat w (workA x S st * (pool S * (G * F))) → Calls Tryz.prog jf (#[.pointer (some ⟨x.k, 0, none⟩)] ++ caps) w (WQ x R S (G * F) w (m st))
def spV (mb n : Nat) : Value := .agg #[.pointer (some ⟨mb, 0, none⟩), .int .i64 (n : Int)]
theorem runI_results {w : World} {tmps : Array Value} {a b : Nat} {v e : Value} (h4 : tmps[4]? = some (ptV a)) (h5 : tmps[5]? = some (ptV b)) (ha : w.cell? ⟨a, 0, none⟩ = some v) (hb : w.cell? ⟨b, 0, none⟩ = some e) :
    (results Tryz.f36 tmps).run Tryz.prog w = .ok (.tuple #[v, e]) w := by
  simp [results, Tryz.results36, h4, h5, go_sem, ha, hb]
theorem workOut {w : World} {x : Wk σ} {S : Hp} {st : Wst σ} {F : Assn} (h : Sat w (workA x S st * F)) : Sat w (x.c.RI st.b.s * F) := by
  obtain ⟨v, h1⟩ := Sat.workOpen h
  have h2 : Sat w ((pt x.k (.cells (x.cells v st.dt) 81 (0, 0)) * (batchA 113 5 S x.b x.c.rd st.b.err st.b.W st.b.D * bitsA st.bits v)) * (x.c.RI st.b.s * F)) := h1.to (by unfold workX btA; ac_rfl)
  exact h2.right
theorem btMain {w : World} {c : Cx σ} {S S' : Hp} {mb : Nat} {M : Bst σ} {s : σ} {F : Assn} (hE : Ext S S') (h : Sat w (c.RI s * (batchA 113 5 S mb c.rd M.err M.W M.D * F))) : Sat w (btA c S' mb { M with s := s } * F) :=
  ((h.front2).weak (batchA_mono hE)).to (by unfold btA; ac_rfl)
theorem workNew {w : World} {c : Cx σ} {n k f : Nat} {S : Hp} {M : Bst σ} {F : Assn} (h : Sat w (pt k (.cells #[.pointer (some ⟨f, 0, none⟩), .int .i64 (n : Int), .slice none 0 0, .bool false] 81 (0, 0)) * (batchA 113 5 S f c.rd M.err M.W M.D * (c.RI M.s * F)))) :
    Sat w (workA (⟨c, n, k, f⟩ : Wk σ) S ⟨M, none, false⟩ * F) :=
  Sat.workShut (.slice none 0 0) ((Sat.bitsNil h).to (by unfold workX btA Wk.cells; ac_rfl))
theorem doorI_pan {w : World} {tmps : Array Value} {ab eb : Nat} {y z c : Int} {P : Assn} {R : Ending → World → Prop} (h4 : tmps[4]? = some (ptV ab)) (h5 : tmps[5]? = some (ptV eb))
    (h : Sat w (pt ab (.cells #[.int .i64 y] 3 (0, 0)) * (pt eb (.cells #[.int .i64 z] 29 (0, 0)) * P))) (hR : ∀ w', Sat w' P → Side w w' → R (.returned (.tuple #[.int .i64 0, .int .i64 c])) w') :
    bodyPostD Tryz.prog Tryz.f36 R (Exit.panic (flt c)) { tmps := tmps, defers := [{ target := .fn (.func 78) #[.pointer (some ⟨ab, 0, none⟩), .pointer (some ⟨eb, 0, none⟩)], args := #[] }] } w := by
  have hne : ab ≠ eb := Sat.ne h
  refine leaves_cons (f := 78) (args := #[.pointer (some ⟨ab, 0, none⟩), .pointer (some ⟨eb, 0, none⟩)]) (by simp) (by simp [go_sem]) ?_
  refine (runI_pan w ⟨ab, 0, none⟩ ⟨eb, 0, none⟩ c y z [] (h.cell 0) (h.front2.cell 0) (h.frozen 0) (h.front2.frozen 0) (by intro h; injection h with h; exact hne h)).mono ?_
  rintro e u w7 ⟨rfl, rfl, rfl⟩
  have h11 := ((h.setCell 0 (.int .i64 0)).front2.setCell 0 (.int .i64 c))
  exact ⟨_, runI_results h4 h5 (h11.front2.cell 0) (h11.cell 0), hR _ h11.right.right (((Side.refl w).setCell _ _).setCell _ _)⟩
theorem doorI_ret {w : World} {tmps : Array Value} {ab eb : Nat} {v z : Value} {R : Ending → World → Prop} (h4 : tmps[4]? = some (ptV ab)) (h5 : tmps[5]? = some (ptV eb))
    (ha : w.cell? ⟨ab, 0, none⟩ = some v) (hb : w.cell? ⟨eb, 0, none⟩ = some z) (hR : R (.returned (.tuple #[v, z])) w) :
    bodyPostD Tryz.prog Tryz.f36 R Exit.ret { tmps := tmps, defers := [{ target := .fn (.func 78) #[.pointer (some ⟨ab, 0, none⟩), .pointer (some ⟨eb, 0, none⟩)], args := #[] }] } w := by
  refine leaves_cons (f := 78) (args := #[.pointer (some ⟨ab, 0, none⟩), .pointer (some ⟨eb, 0, none⟩)]) (by simp) (by simp [go_sem]) ?_
  refine (runI_ret w ⟨ab, 0, none⟩ ⟨eb, 0, none⟩).mono ?_
  rintro e u w7 ⟨rfl, rfl, rfl⟩
  exact ⟨_, runI_results h4 h5 ha hb, hR⟩
theorem bitsRd {w : World} {o : Option (List UInt8)} {v : Value} {F : Assn} (h : Sat w (bitsA o v * F)) : Rd w v (o.getD []) := by
  rcases Sat.bitsCases h with ⟨rfl, rfl, _⟩ | ⟨l, rfl, _, h2⟩
  · exact ⟨rfl, .inl ⟨rfl, rfl⟩⟩
  · exact h2.rds
set_option maxRecDepth 100000 in
set_option maxHeartbeats 4000000 in
theorem runI_any (c : Cx σ) (hc : c.Ok) (n : Nat) (hn1 : 4 ≤ n) (hn2 : n ≤ 3840) (jf : FuncId) (caps : Array Value) (G : Assn) (m : WM σ Nat)
    (hcf : ∀ (args : Array Value) (w : World), (callFunc jf args).run Tryz.prog w = .ok (.enter jf args) w) (hj : Job c n jf caps natR G m)
    (mb : Nat) (M : Bst σ) (w : World) (S : Hp) (F : Assn) (h : Sat w (btA c S mb M * (pool S * (G * F)))) (Q : Ending → World → Prop)
    (hQ : ∀ e w', RunQ c mb (.int .i64 0) natR S (G * F) w (wrun m M) e w' → Q e w') :
    Calls Tryz.prog 36 #[spV mb n, .func (.func jf) #[] caps] w Q := by
  have HQ := SL.hid hQ
  clear hQ
  have hmf : ∀ (fn : Fn) (first cap : Array Value) (w : World), (Instr.makeFunc fn first cap).run Tryz.prog w = .ok (.func fn first cap) w := fun _ _ _ _ => rfl
  have hn1' : ¬ ((n : Int) < 4) := by omega
  have hn2' : ¬ ((n : Int) > 3840) := by omega
  have Hj := SL.hid hj
  unfold spV
  go_enter_defers Tryz.func36, Tryz.ntmps36
  have H3 := ((h.alloc (.cells #[.pointer (some ⟨mb, 0, none⟩), .int .i64 (n : Int)] 26 (0, 0))).alloc (.cells #[.int .i64 0] 3 (0, 0))).alloc (.cells #[.int .i64 0] 29 (0, 0))
  have D3 := (((Side.refl w).alloc (.cells #[.pointer (some ⟨mb, 0, none⟩), .int .i64 (n : Int)] 26 (0, 0))).alloc (.cells #[.int .i64 0] 3 (0, 0))).alloc (.cells #[.int .i64 0] 29 (0, 0))
  simp only [World.size_alloc] at H3
  go_wp2_with fail
  generalize ((w.alloc (.cells #[.pointer (some ⟨mb, 0, none⟩), .int .i64 (n : Int)] 26 (0, 0))).alloc (.cells #[.int .i64 0] 3 (0, 0))).alloc (.cells #[.int .i64 0] 29 (0, 0)) = w3 at H3 D3 ⊢
  clear h
  generalize w.heap.size + 1 + 1 = eb at *
  generalize w.heap.size + 1 = ab at *
  generalize w.heap.size = sp at *
  have s0 : w3.cell? ⟨sp, 0, none⟩ = some (.pointer (some ⟨mb, 0, none⟩)) := H3.front3.cell 0
  have s1 : w3.cell? ⟨sp, 1, none⟩ = some (.int .i64 (n : Int)) := H3.front3.cell 1
  have h9 : Sat w3 (batchA 113 5 S mb c.rd M.err M.W M.D * (pool S * (c.RI M.s * (pt eb (.cells #[.int .i64 0] 29 (0, 0)) * (pt ab (.cells #[.int .i64 0] 3 (0, 0)) * (pt sp (.cells #[.pointer (some ⟨mb, 0, none⟩), .int .i64 (n : Int)] 26 (0, 0)) * (G * F))))))) := H3.to (by unfold btA; ac_rfl)
  have hfk := fork_any w3.drew S mb c.rd M.err M.W M.D _ h9.drew ⟨_, _, rfl⟩
  have Hfk := SL.hid hfk
  clear hfk
  go_region_held3 (fun w' => w'.cell? ⟨sp, 0, none⟩ = some (.pointer (some ⟨mb, 0, none⟩)) ∧ w'.cell? ⟨sp, 1, none⟩ = some (.int .i64 (n : Int)))
    (first | exact ⟨s0, s1⟩ | exact k01 | go_keep)
    (first | (go_at_call 28; refine (Hfk.out).mono ?_; rintro e w4 ⟨S1, f, hS1, rfl, h4, d4⟩; have k01 : w4.cell? ⟨sp, 0, none⟩ = some (.pointer (some ⟨mb, 0, none⟩)) ∧ w4.cell? ⟨sp, 1, none⟩ = some (.int .i64 (n : Int)) := ⟨h4.front7.cell 0, h4.front7.cell 1⟩))
  have D5 := (D3.drew.trans d4).alloc (.cells #[.pointer (some ⟨f, 0, none⟩), .int .i64 (n : Int), .slice none 0 0, .bool false] 81 (0, 0))
  have H5 := h4.alloc (.cells #[.pointer (some ⟨f, 0, none⟩), .int .i64 (n : Int), .slice none 0 0, .bool false] 81 (0, 0))
  have H5' : Sat (w4.alloc (.cells #[.pointer (some ⟨f, 0, none⟩), .int .i64 (n : Int), .slice none 0 0, .bool false] 81 (0, 0))) (workA (⟨c, n, w4.heap.size, f⟩ : Wk σ) S1 ⟨M, none, false⟩ * (pool S1 * (G * (batchA 113 5 S1 mb c.rd M.err M.W M.D * (pt eb (.cells #[.int .i64 0] 29 (0, 0)) * (pt ab (.cells #[.int .i64 0] 3 (0, 0)) * (pt sp (.cells #[.pointer (some ⟨mb, 0, none⟩), .int .i64 (n : Int)] 26 (0, 0)) * F))))))) :=
    workNew (H5.to (by ac_rfl))
  have hjb := Hj.out ⟨c, n, w4.heap.size, f⟩ _ S1 ⟨M, none, false⟩ _ rfl rfl H5'
  rename_i hHeld
  clear s0 s1 h9 Hfk k01 hHeld D3 d4 h4 H5 H5' Hj hj H3
  generalize w4.alloc (.cells #[.pointer (some ⟨f, 0, none⟩), .int .i64 (n : Int), .slice none 0 0, .bool false] 81 (0, 0)) = w5 at *
  generalize w4.heap.size = k at *
  obtain ⟨⟨r, st1⟩, hp⟩ : ∃ p, m ⟨M, none, false⟩ = p := ⟨_, rfl⟩
  rw [hp] at hjb
  cases r with
  | bad cN =>
    have HE := SL.hid (wrun_bad hp)
    clear hp
    go_wp2_with fail
    (with_reducible refine hjb.mono ?_)
    rintro e w6 ⟨S2, hS2, d6, rfl, h6⟩
    have h7 := workOut h6
    have h8 : Sat w6 (c.RI st1.b.s * (batchA 113 5 S1 mb c.rd M.err M.W M.D * (pt eb (.cells #[.int .i64 0] 29 (0, 0)) * (pt ab (.cells #[.int .i64 0] 3 (0, 0)) * (pool S2 * (G * F)))))) :=
      (h7.to (by ac_rfl : _ = pt sp (.cells #[.pointer (some ⟨mb, 0, none⟩), .int .i64 (n : Int)] 26 (0, 0)) * (c.RI st1.b.s * (batchA 113 5 S1 mb c.rd M.err M.W M.D * (pt eb (.cells #[.int .i64 0] 29 (0, 0)) * (pt ab (.cells #[.int .i64 0] 3 (0, 0)) * (pool S2 * (G * F)))))))).right
    have h9 := btMain hS2 h8
    have h10 : Sat w6 (pt ab (.cells #[.int .i64 0] 3 (0, 0)) * (pt eb (.cells #[.int .i64 0] 29 (0, 0)) * (btA c S2 mb { M with s := st1.b.s } * (pool S2 * (G * F))))) := h9.to (by ac_rfl)
    go_wp2_with fail
    exact doorI_pan rfl rfl h10 fun w' h11 d11 => HQ.out _ _ (by rw [HE.out]; exact ⟨S2, hS1.trans hS2, (D5.trans d6).trans d11, rfl, h11⟩)
  | ok a =>
    go_wp2_with fail
    (with_reducible refine hjb.mono ?_)
    rintro e w6 ⟨S2, v6, hS2, d6, rfl, h6⟩
    obtain ⟨rfl, h7⟩ := Sat.fact_iff.1 h6
    obtain ⟨bv, h8⟩ := Sat.workOpen h7
    clear hjb h6 h7
    have h9 : Sat w6 (pt ab (.cells #[.int .i64 0] 3 (0, 0)) * (pt eb (.cells #[.int .i64 0] 29 (0, 0)) * (pt sp (.cells #[.pointer (some ⟨mb, 0, none⟩), .int .i64 (n : Int)] 26 (0, 0)) * (pt k (.cells #[.pointer (some ⟨f, 0, none⟩), .int .i64 (n : Int), bv, .bool st1.dt] 81 (0, 0)) * (btA c S2 f st1.b * (bitsA st1.bits bv * (pool S2 * (batchA 113 5 S1 mb c.rd M.err M.W M.D * (G * F))))))))) := h8.to (by unfold workX Wk.cells; ac_rfl)
    have c9 : w6.cell? ⟨ab, 0, none⟩ = some (.int .i64 0) := h9.cell 0
    have f9 : w6.frozen? ⟨ab, 0, none⟩ = false := h9.frozen 0
    have h10 := h9.setCell 0 (.int .i64 (a : Int))
    simp only [List.setIfInBounds_toArray, List.set_cons_zero] at h10
    have D10 := (D5.trans d6).setCell ⟨ab, 0, none⟩ (.int .i64 (a : Int))
    have k3 : (w6.setCell ⟨ab, 0, none⟩ (.int .i64 (a : Int))).cell? ⟨k, 3, none⟩ = some (.bool st1.dt) := h10.front4.cell 3
    clear h8 h9 D5 d6
    cases hdt : st1.dt with
    | false =>
      have HE := SL.hid (wrun_ok hp hdt)
      rw [hdt] at k3 h10
      clear hp hdt
      go_wp2_with fail
      generalize w6.setCell ⟨ab, 0, none⟩ (.int .i64 (a : Int)) = w7 at *
      have hj9 : Sat w7 (batchA 113 5 S1 mb c.rd M.err M.W M.D * (batchA 113 5 S2 f c.rd st1.b.err st1.b.W st1.b.D * (pool S2 * (c.RI st1.b.s * (pt ab (.cells #[.int .i64 (a : Int)] 3 (0, 0)) * (pt eb (.cells #[.int .i64 0] 29 (0, 0)) * (pt sp (.cells #[.pointer (some ⟨mb, 0, none⟩), .int .i64 (n : Int)] 26 (0, 0)) * (pt k (.cells #[.pointer (some ⟨f, 0, none⟩), .int .i64 (n : Int), bv, .bool false] 81 (0, 0)) * (bitsA st1.bits bv * (G * F)))))))))) := h10.to (by unfold btA; ac_rfl)
      have hj10 := hj9.weak (batchA_mono hS2)
      have s0 : w7.cell? ⟨sp, 0, none⟩ = some (.pointer (some ⟨mb, 0, none⟩)) := hj10.front7.cell 0
      have k0 : w7.cell? ⟨k, 0, none⟩ = some (.pointer (some ⟨f, 0, none⟩)) := hj10.front8.cell 0
      have hjn := SL.hid (join_any w7.drew S2 mb f c.rd c.rd st1.b.err M.err st1.b.W st1.b.D M.W M.D _ hj10.drew ⟨_, _, rfl⟩)
      clear hj9 hj10 h10
      go_region_held3 (fun w' => w'.cell? ⟨sp, 0, none⟩ = some (.pointer (some ⟨mb, 0, none⟩)) ∧ w'.cell? ⟨k, 0, none⟩ = some (.pointer (some ⟨f, 0, none⟩)))
        (first | exact ⟨s0, k0⟩ | exact k01 | go_keep)
        (first | (go_at_call 31; refine (hjn.out).mono ?_; rintro e w8 ⟨S3, hS3, rfl, h8, d8⟩; have k01 : w8.cell? ⟨sp, 0, none⟩ = some (.pointer (some ⟨mb, 0, none⟩)) ∧ w8.cell? ⟨k, 0, none⟩ = some (.pointer (some ⟨f, 0, none⟩)) := ⟨h8.front7.cell 0, h8.front8.cell 0⟩))
      all_goals
        rename_i hHeld
        have h9 : Sat w8 (pt ab (.cells #[.int .i64 (a : Int)] 3 (0, 0)) * (pt eb (.cells #[.int .i64 0] 29 (0, 0)) * ((btA c S3 mb st1.b * (pool S3 * (G * F))) * (pt sp (.cells #[.pointer (some ⟨mb, 0, none⟩), .int .i64 (n : Int)] 26 (0, 0)) * (pt k (.cells #[.pointer (some ⟨f, 0, none⟩), .int .i64 (n : Int), bv, .bool false] 81 (0, 0)) * (batchA 113 5 S3 f c.rd st1.b.err st1.b.W st1.b.D * bitsA st1.bits bv)))))) := h8.to (by unfold btA; ac_rfl)
        have c9 : w8.cell? ⟨ab, 0, none⟩ = some (.int .i64 (a : Int)) := h9.cell 0
        have f9 : w8.frozen? ⟨ab, 0, none⟩ = false := h9.frozen 0
        have e9 : w8.cell? ⟨eb, 0, none⟩ = some (.int .i64 0) := h9.front2.cell 0
        have g9 : w8.frozen? ⟨eb, 0, none⟩ = false := h9.front2.frozen 0
        have hne : ¬ (ab = eb) := Sat.ne h9
        have hne2 : ¬ (eb = ab) := fun h => hne h.symm
        have h10 := ((h9.setCell 0 (.int .i64 (a : Int))).front2.setCell 0 (.int .i64 0))
        have ca := h10.front2.cell 0
        have ce := h10.cell 0
        have D9 := (((D10).drew.trans d8).setCell ⟨ab, 0, none⟩ (.int .i64 (a : Int))).setCell ⟨eb, 0, none⟩ (.int .i64 0)
        have hF : Sat _ ((btA c S3 mb st1.b * (pool S3 * (G * F)))) := h10.right.right.left
        have HD := SL.hid D9; have HF := SL.hid hF; have Ca := SL.hid ca; have Ce := SL.hid ce
        clear hjn s0 k0 k01 h8 h9 h10 D9 hF hHeld d8 ca ce
        go_wp2_with fail
        exact doorI_ret rfl rfl Ca.out Ce.out (HQ.out _ _ (by rw [HE.out]; exact ⟨S3, _, hS1.trans (hS2.trans hS3), HD.out, rfl, Sat.fact_iff.2 ⟨rfl, HF.out.to (by ac_rfl)⟩⟩))
    | true =>
      have HE1 := fun st' => wrun_wr (st' := st') hp hdt
      have HE2 := fun st' c => wrun_wb (st' := st') (c := c) hp hdt
      have HE1 := SL.hid HE1; have HE2 := SL.hid HE2
      rw [hdt] at k3 h10
      have k2 : (w6.setCell ⟨ab, 0, none⟩ (.int .i64 (a : Int))).cell? ⟨k, 2, none⟩ = some bv := h10.front4.cell 2
      have hrb : Rd (w6.setCell ⟨ab, 0, none⟩ (.int .i64 (a : Int))) bv (st1.bits.getD []) := bitsRd h10.front6
      have h11 : Sat (w6.setCell ⟨ab, 0, none⟩ (.int .i64 (a : Int))) (workX (⟨c, n, k, f⟩ : Wk σ) bv S2 st1 * (pool S2 * (pt ab (.cells #[.int .i64 (a : Int)] 3 (0, 0)) * (pt eb (.cells #[.int .i64 0] 29 (0, 0)) * (pt sp (.cells #[.pointer (some ⟨mb, 0, none⟩), .int .i64 (n : Int)] 26 (0, 0)) * (bitsA st1.bits bv * (batchA 113 5 S1 mb c.rd M.err M.W M.D * (G * F)))))))) :=
        h10.to (by unfold workX Wk.cells; rw [hdt]; ac_rfl)
      have hwr := writeX_any (⟨c, n, k, f⟩ : Wk σ) _ bv S2 st1 0 bv (st1.bits.getD []) _ h11 hrb
      obtain ⟨va, vl, vc, rfl⟩ : ∃ a l c, bv = .slice a l c := by
        obtain ⟨a, c, e⟩ := hrb.shape; exact ⟨_, _, _, e⟩
      have hdt2 : ∀ st' r, wwrite 0 (st1.bits.getD []) st1 = (r, st') → st'.dt = true := fun st' r h => by
        unfold wwrite at h
        split at h
        · simp only [Prod.mk.injEq] at h; rw [← h.2]; exact hdt
        · simp only [Prod.mk.injEq] at h; rw [← h.2]; exact hdt
      obtain ⟨⟨r2, st2⟩, hp2⟩ : ∃ p, wwrite 0 (st1.bits.getD []) st1 = p := ⟨_, rfl⟩
      rw [hp2] at hwr
      have hdt3 := hdt2 _ _ hp2
      have Hdt3 := SL.hid hdt3
      clear hp hdt h11 hrb hdt2 hdt3
      cases r2 with
      | bad cN =>
        have HE := SL.hid (HE2.out _ _ hp2)
        clear hp2 HE1 HE2
        go_wp2_with fail
        (with_reducible refine hwr.mono ?_)
        rintro e w8 ⟨S3, hS3, d8, rfl, h12⟩
        have h13 : Sat w8 (c.RI st2.b.s * (batchA 113 5 S1 mb c.rd M.err M.W M.D * (pt ab (.cells #[.int .i64 (a : Int)] 3 (0, 0)) * (pt eb (.cells #[.int .i64 0] 29 (0, 0)) * (pool S3 * (G * F)))))) :=
          (h12.to (by unfold workX btA; ac_rfl : _ = (pt k (.cells ((⟨c, n, k, f⟩ : Wk σ).cells (.slice va vl vc) st2.dt) 81 (0, 0)) * (batchA 113 5 S3 f c.rd st2.b.err st2.b.W st2.b.D * (pt sp (.cells #[.pointer (some ⟨mb, 0, none⟩), .int .i64 (n : Int)] 26 (0, 0)) * bitsA st1.bits (.slice va vl vc)))) * (c.RI st2.b.s * (batchA 113 5 S1 mb c.rd M.err M.W M.D * (pt ab (.cells #[.int .i64 (a : Int)] 3 (0, 0)) * (pt eb (.cells #[.int .i64 0] 29 (0, 0)) * (pool S3 * (G * F)))))))).right
        have h14 := btMain (hS2.trans hS3) h13
        have h15 : Sat w8 (pt ab (.cells #[.int .i64 (a : Int)] 3 (0, 0)) * (pt eb (.cells #[.int .i64 0] 29 (0, 0)) * (btA c S3 mb { M with s := st2.b.s } * (pool S3 * (G * F))))) := h14.to (by ac_rfl)
        go_wp2_with fail
        exact doorI_pan rfl rfl h15 fun w' h11 d11 => HQ.out _ _ (by rw [HE.out]; exact ⟨S3, hS1.trans (hS2.trans hS3), (D10.trans d8).trans d11, rfl, h11⟩)
      | ok u =>
        have HE := SL.hid (HE1.out _ hp2)
        clear hp2 HE1 HE2
        go_wp2_with fail
        (with_reducible refine hwr.mono ?_)
        rintro e w7 ⟨S3, v8, hS3, d8, rfl, h12⟩
        obtain ⟨rfl, h13⟩ := Sat.fact_iff.1 h12
        have h14 : Sat w7 (pt ab (.cells #[.int .i64 (a : Int)] 3 (0, 0)) * (pt eb (.cells #[.int .i64 0] 29 (0, 0)) * (pt sp (.cells #[.pointer (some ⟨mb, 0, none⟩), .int .i64 (n : Int)] 26 (0, 0)) * (pt k (.cells #[.pointer (some ⟨f, 0, none⟩), .int .i64 (n : Int), (.slice va vl vc), .bool true] 81 (0, 0)) * (btA c S3 f st2.b * (bitsA st1.bits (.slice va vl vc) * (pool S3 * (batchA 113 5 S1 mb c.rd M.err M.W M.D * (G * F))))))))) := h13.to (by unfold workX Wk.cells; rw [Hdt3.out]; ac_rfl)
        have D14 := D10.trans d8
        have hE3 := hS2.trans hS3
        clear hwr h12 h13 D10 d8 h10 k2 k3
        go_wp2_with fail
        have hj9 : Sat w7 (batchA 113 5 S1 mb c.rd M.err M.W M.D * (batchA 113 5 S3 f c.rd st2.b.err st2.b.W st2.b.D * (pool S3 * (c.RI st2.b.s * (pt ab (.cells #[.int .i64 (a : Int)] 3 (0, 0)) * (pt eb (.cells #[.int .i64 0] 29 (0, 0)) * (pt sp (.cells #[.pointer (some ⟨mb, 0, none⟩), .int .i64 (n : Int)] 26 (0, 0)) * (pt k (.cells #[.pointer (some ⟨f, 0, none⟩), .int .i64 (n : Int), (.slice va vl vc), .bool true] 81 (0, 0)) * (bitsA st1.bits (.slice va vl vc) * (G * F)))))))))) := h14.to (by unfold btA; ac_rfl)
        have hj10 := hj9.weak (batchA_mono hE3)
        have s0 : w7.cell? ⟨sp, 0, none⟩ = some (.pointer (some ⟨mb, 0, none⟩)) := hj10.front7.cell 0
        have k0 : w7.cell? ⟨k, 0, none⟩ = some (.pointer (some ⟨f, 0, none⟩)) := hj10.front8.cell 0
        have hjn := SL.hid (join_any w7.drew S3 mb f c.rd c.rd st2.b.err M.err st2.b.W st2.b.D M.W M.D _ hj10.drew ⟨_, _, rfl⟩)
        clear hj9 hj10 h14
        go_region_held3 (fun w' => w'.cell? ⟨sp, 0, none⟩ = some (.pointer (some ⟨mb, 0, none⟩)) ∧ w'.cell? ⟨k, 0, none⟩ = some (.pointer (some ⟨f, 0, none⟩)))
          (first | exact ⟨s0, k0⟩ | exact k01 | go_keep)
          (first | (go_at_call 31; refine (hjn.out).mono ?_; rintro e w8 ⟨S5, hS5, rfl, h8, d8⟩; have k01 : w8.cell? ⟨sp, 0, none⟩ = some (.pointer (some ⟨mb, 0, none⟩)) ∧ w8.cell? ⟨k, 0, none⟩ = some (.pointer (some ⟨f, 0, none⟩)) := ⟨h8.front7.cell 0, h8.front8.cell 0⟩))
        all_goals
          rename_i hHeld
          have h9 : Sat w8 (pt ab (.cells #[.int .i64 (a : Int)] 3 (0, 0)) * (pt eb (.cells #[.int .i64 0] 29 (0, 0)) * ((btA c S5 mb st2.b * (pool S5 * (G * F))) * (pt sp (.cells #[.pointer (some ⟨mb, 0, none⟩), .int .i64 (n : Int)] 26 (0, 0)) * (pt k (.cells #[.pointer (some ⟨f, 0, none⟩), .int .i64 (n : Int), (.slice va vl vc), .bool true] 81 (0, 0)) * (batchA 113 5 S5 f c.rd st2.b.err st2.b.W st2.b.D * bitsA st1.bits (.slice va vl vc))))))) := h8.to (by unfold btA; ac_rfl)
          have c9 : w8.cell? ⟨ab, 0, none⟩ = some (.int .i64 (a : Int)) := h9.cell 0
          have f9 : w8.frozen? ⟨ab, 0, none⟩ = false := h9.frozen 0
          have e9 : w8.cell? ⟨eb, 0, none⟩ = some (.int .i64 0) := h9.front2.cell 0
          have g9 : w8.frozen? ⟨eb, 0, none⟩ = false := h9.front2.frozen 0
          have hne : ¬ (ab = eb) := Sat.ne h9
          have hne2 : ¬ (eb = ab) := fun h => hne h.symm
          have h10 := ((h9.setCell 0 (.int .i64 (a : Int))).front2.setCell 0 (.int .i64 0))
          have ca := h10.front2.cell 0
          have ce := h10.cell 0
          have D9 := (((D14).drew.trans d8).setCell ⟨ab, 0, none⟩ (.int .i64 (a : Int))).setCell ⟨eb, 0, none⟩ (.int .i64 0)
          have hF : Sat _ ((btA c S5 mb st2.b * (pool S5 * (G * F)))) := h10.right.right.left
          have HD := SL.hid D9; have HF := SL.hid hF; have Ca := SL.hid ca; have Ce := SL.hid ce
          clear hjn s0 k0 k01 h8 h9 h10 D9 hF hHeld d8 ca ce
          go_wp2_with fail
          exact doorI_ret rfl rfl Ca.out Ce.out (HQ.out _ _ (by rw [HE.out]; exact ⟨S5, _, hS1.trans (hE3.trans hS5), HD.out, rfl, Sat.fact_iff.2 ⟨rfl, HF.out.to (by ac_rfl)⟩⟩))
end
end Go.Proofs.YtaoohjeaaccnfaaGreat.Fs
namespace Go.Proofs.YtaoohjeaaccnfaaGreat.Fs
set_option linter.unusedVariables false
set_option linter.unusedSimpArgs false
open Go.RowKit Go.SL Go.Proofs.YtaoohjeaaccnfaaGreat.Ba
section
variable {σ α : Type}
set_option maxRecDepth 100000 in
set_option maxHeartbeats 1000000 in
theorem runB_ret (w : World) (pa pe : Addr) :
    CallsD Tryz.prog 119 #[.pointer (some pa), .pointer (some pe)] .returning w fun e u w' => e = .returned (.tuple #[]) ∧ u = .returning ∧ w = w' := by
  refine callsD_of_wpS Tryz.func119 rfl fun c₀ cs hu => ?_
  apply wpS_seq
  refine wpS_of_wp ?_
  simp only [Tryz.ntmps119, List.size_toArray, List.length_cons, List.length_nil, Nat.reduceAdd, Nat.reduceSub, Array.replicate_succ,
     Array.replicate_zero, List.push_toArray, List.append_toArray, List.nil_append, List.cons_append]
  go_wp2
  simp only [Exit.thenS]
  apply wpS_seq
  apply wpS_region
  simp [wpOpsS, go_sem, recoverD, hu, Exit.thenS]
  refine wpS_of_wp ?_
  go_wp2
  cases c₀
  simp_all [bodyPostS, results, Tryz.results119]
set_option maxRecDepth 100000 in
set_option maxHeartbeats 1000000 in
theorem runB_pan (w : World) (pa pe : Addr) (c y : Int) (x : Value) (older : List PanicEntry) (ha : w.cell? pa = some x) (hx : x = .slice none 0 0 ∨ ∃ a n c, x = .slice a n c) (he : w.cell? pe = some (.int .i64 y)) (fa : w.frozen? pa = false) (fe : w.frozen? pe = false) (hne : pa ≠ pe) :
    CallsD Tryz.prog 119 #[.pointer (some pa), .pointer (some pe)] (.panicking ({ v := .iface 123 (.int .i64 c), recovered := false } :: older)) w fun e u w' =>
      e = .returned (.tuple #[]) ∧ u = .panicking ({ v := .iface 123 (.int .i64 c), recovered := true } :: older) ∧ w' = (w.setCell pa (.slice none 0 0)).setCell pe (.int .i64 c) := by
  obtain ⟨xa, xn, xc, rfl⟩ : ∃ a n c, x = .slice a n c := by
    rcases hx with rfl | h
    · exact ⟨_, _, _, rfl⟩
    · exact h
  refine callsD_of_wpS Tryz.func119 rfl fun c₀ cs hu => ?_
  apply wpS_seq
  refine wpS_of_wp ?_
  simp only [Tryz.ntmps119, List.size_toArray, List.length_cons, List.length_nil, Nat.reduceAdd, Nat.reduceSub, Array.replicate_succ,
     Array.replicate_zero, List.push_toArray, List.append_toArray, List.nil_append, List.cons_append]
  go_wp2
  simp only [Exit.thenS]
  apply wpS_seq
  apply wpS_region
  simp [wpOpsS, go_sem, recoverD, hu, Exit.thenS]
  refine wpS_of_wp ?_
  have hne2 : ¬ pa = pe := hne
  have hta := assert_fault (.int .i64 c)
  go_wp2
  exact ⟨rfl, _, rfl, _, results_none rfl _ _ _, rfl, rfl, rfl⟩
theorem runB_results {w : World} {tmps : Array Value} {a b : Nat} {v e : Value} (h4 : tmps[4]? = some (ptV a)) (h5 : tmps[5]? = some (ptV b)) (ha : w.cell? ⟨a, 0, none⟩ = some v) (hb : w.cell? ⟨b, 0, none⟩ = some e) :
    (results Tryz.f85 tmps).run Tryz.prog w = .ok (.tuple #[v, e]) w := by
  simp [results, Tryz.results85, h4, h5, go_sem, ha, hb]
theorem doorB_pan {w : World} {tmps : Array Value} {ab eb : Nat} {y : Value} {z c : Int} {P : Assn} {R : Ending → World → Prop} (h4 : tmps[4]? = some (ptV ab)) (h5 : tmps[5]? = some (ptV eb))
    (h : Sat w (pt ab (.cells #[y] 48 (0, 0)) * (pt eb (.cells #[.int .i64 z] 29 (0, 0)) * P))) (hy : y = .slice none 0 0 ∨ ∃ a n c, y = .slice a n c) (hR : ∀ w', Sat w' P → Side w w' → R (.returned (.tuple #[.slice none 0 0, .int .i64 c])) w') :
    bodyPostD Tryz.prog Tryz.f85 R (Exit.panic (flt c)) { tmps := tmps, defers := [{ target := .fn (.func 119) #[.pointer (some ⟨ab, 0, none⟩), .pointer (some ⟨eb, 0, none⟩)], args := #[] }] } w := by
  have hne : ab ≠ eb := Sat.ne h
  refine leaves_cons (f := 119) (args := #[.pointer (some ⟨ab, 0, none⟩), .pointer (some ⟨eb, 0, none⟩)]) (by simp) (by simp [go_sem]) ?_
  refine (runB_pan w ⟨ab, 0, none⟩ ⟨eb, 0, none⟩ c z y [] (h.cell 0) hy (h.front2.cell 0) (h.frozen 0) (h.front2.frozen 0) (by intro h; injection h with h; exact hne h)).mono ?_
  rintro e u w7 ⟨rfl, rfl, rfl⟩
  have h11 := ((h.setCell 0 (.slice none 0 0)).front2.setCell 0 (.int .i64 c))
  exact ⟨_, runB_results h4 h5 (h11.front2.cell 0) (h11.cell 0), hR _ h11.right.right (((Side.refl w).setCell _ _).setCell _ _)⟩
theorem doorB_ret {w : World} {tmps : Array Value} {ab eb : Nat} {v z : Value} {R : Ending → World → Prop} (h4 : tmps[4]? = some (ptV ab)) (h5 : tmps[5]? = some (ptV eb))
    (ha : w.cell? ⟨ab, 0, none⟩ = some v) (hb : w.cell? ⟨eb, 0, none⟩ = some z) (hR : R (.returned (.tuple #[v, z])) w) :
    bodyPostD Tryz.prog Tryz.f85 R Exit.ret { tmps := tmps, defers := [{ target := .fn (.func 119) #[.pointer (some ⟨ab, 0, none⟩), .pointer (some ⟨eb, 0, none⟩)], args := #[] }] } w := by
  refine leaves_cons (f := 119) (args := #[.pointer (some ⟨ab, 0, none⟩), .pointer (some ⟨eb, 0, none⟩)]) (by simp) (by simp [go_sem]) ?_
  refine (runB_ret w ⟨ab, 0, none⟩ ⟨eb, 0, none⟩).mono ?_
  rintro e u w7 ⟨rfl, rfl, rfl⟩
  exact ⟨_, runB_results h4 h5 ha hb, hR⟩
set_option maxRecDepth 100000 in
set_option maxHeartbeats 4000000 in
theorem runB_any (c : Cx σ) (hc : c.Ok) (n : Nat) (hn1 : 4 ≤ n) (hn2 : n ≤ 3840) (jf : FuncId) (caps : Array Value) (G : Assn) (m : WM σ (List UInt8))
    (hcf : ∀ (args : Array Value) (w : World), (callFunc jf args).run Tryz.prog w = .ok (.enter jf args) w) (hj : Job c n jf caps bytesR G m)
    (mb : Nat) (M : Bst σ) (w : World) (S : Hp) (F : Assn) (h : Sat w (btA c S mb M * (pool S * (G * F)))) (Q : Ending → World → Prop)
    (hQ : ∀ e w', RunQ c mb (.slice none 0 0) bytesR S (G * F) w (wrun m M) e w' → Q e w') :
    Calls Tryz.prog 85 #[spV mb n, .func (.func jf) #[] caps] w Q := by
  have HQ := SL.hid hQ
  clear hQ
  have hmf : ∀ (fn : Fn) (first cap : Array Value) (w : World), (Instr.makeFunc fn first cap).run Tryz.prog w = .ok (.func fn first cap) w := fun _ _ _ _ => rfl
  have hn1' : ¬ ((n : Int) < 4) := by omega
  have hn2' : ¬ ((n : Int) > 3840) := by omega
  have Hj := SL.hid hj
  unfold spV
  go_enter_defers Tryz.func85, Tryz.ntmps85
  have H3 := ((h.alloc (.cells #[.pointer (some ⟨mb, 0, none⟩), .int .i64 (n : Int)] 26 (0, 0))).alloc (.cells #[.slice none 0 0] 48 (0, 0))).alloc (.cells #[.int .i64 0] 29 (0, 0))
  have D3 := (((Side.refl w).alloc (.cells #[.pointer (some ⟨mb, 0, none⟩), .int .i64 (n : Int)] 26 (0, 0))).alloc (.cells #[.slice none 0 0] 48 (0, 0))).alloc (.cells #[.int .i64 0] 29 (0, 0))
  simp only [World.size_alloc] at H3
  go_wp2_with fail
  change Code.wp _ _ _ _ (((w.alloc (.cells #[.pointer (some ⟨mb, 0, none⟩), .int .i64 (n : Int)] 26 (0, 0))).alloc (.cells #[.slice none 0 0] 48 (0, 0))).alloc (.cells #[.int .i64 0] 29 (0, 0)))
  generalize ((w.alloc (.cells #[.pointer (some ⟨mb, 0, none⟩), .int .i64 (n : Int)] 26 (0, 0))).alloc (.cells #[.slice none 0 0] 48 (0, 0))).alloc (.cells #[.int .i64 0] 29 (0, 0)) = w3 at H3 D3 ⊢
  clear h
  generalize w.heap.size + 1 + 1 = eb at *
  generalize w.heap.size + 1 = ab at *
  generalize w.heap.size = sp at *
  have s0 : w3.cell? ⟨sp, 0, none⟩ = some (.pointer (some ⟨mb, 0, none⟩)) := H3.front3.cell 0
  have s1 : w3.cell? ⟨sp, 1, none⟩ = some (.int .i64 (n : Int)) := H3.front3.cell 1
  have h9 : Sat w3 (batchA 113 5 S mb c.rd M.err M.W M.D * (pool S * (c.RI M.s * (pt eb (.cells #[.int .i64 0] 29 (0, 0)) * (pt ab (.cells #[.slice none 0 0] 48 (0, 0)) * (pt sp (.cells #[.pointer (some ⟨mb, 0, none⟩), .int .i64 (n : Int)] 26 (0, 0)) * (G * F))))))) := H3.to (by unfold btA; ac_rfl)
  have hfk := fork_any w3.drew S mb c.rd M.err M.W M.D _ h9.drew ⟨_, _, rfl⟩
  have Hfk := SL.hid hfk
  clear hfk
  go_region_held3 (fun w' => w'.cell? ⟨sp, 0, none⟩ = some (.pointer (some ⟨mb, 0, none⟩)) ∧ w'.cell? ⟨sp, 1, none⟩ = some (.int .i64 (n : Int)))
    (first | exact ⟨s0, s1⟩ | exact k01 | go_keep)
    (first | (go_at_call 28; refine (Hfk.out).mono ?_; rintro e w4 ⟨S1, f, hS1, rfl, h4, d4⟩; have k01 : w4.cell? ⟨sp, 0, none⟩ = some (.pointer (some ⟨mb, 0, none⟩)) ∧ w4.cell? ⟨sp, 1, none⟩ = some (.int .i64 (n : Int)) := ⟨h4.front7.cell 0, h4.front7.cell 1⟩))
  have D5 := (D3.drew.trans d4).alloc (.cells #[.pointer (some ⟨f, 0, none⟩), .int .i64 (n : Int), .slice none 0 0, .bool false] 81 (0, 0))
  have H5 := h4.alloc (.cells #[.pointer (some ⟨f, 0, none⟩), .int .i64 (n : Int), .slice none 0 0, .bool false] 81 (0, 0))
  have H5' : Sat (w4.alloc (.cells #[.pointer (some ⟨f, 0, none⟩), .int .i64 (n : Int), .slice none 0 0, .bool false] 81 (0, 0))) (workA (⟨c, n, w4.heap.size, f⟩ : Wk σ) S1 ⟨M, none, false⟩ * (pool S1 * (G * (batchA 113 5 S1 mb c.rd M.err M.W M.D * (pt eb (.cells #[.int .i64 0] 29 (0, 0)) * (pt ab (.cells #[.slice none 0 0] 48 (0, 0)) * (pt sp (.cells #[.pointer (some ⟨mb, 0, none⟩), .int .i64 (n : Int)] 26 (0, 0)) * F))))))) :=
    workNew (H5.to (by ac_rfl))
  have hjb := Hj.out ⟨c, n, w4.heap.size, f⟩ _ S1 ⟨M, none, false⟩ _ rfl rfl H5'
  rename_i hHeld
  clear s0 s1 h9 Hfk k01 hHeld D3 d4 h4 H5 H5' Hj hj H3
  generalize w4.alloc (.cells #[.pointer (some ⟨f, 0, none⟩), .int .i64 (n : Int), .slice none 0 0, .bool false] 81 (0, 0)) = w5 at *
  generalize w4.heap.size = k at *
  obtain ⟨⟨r, st1⟩, hp⟩ : ∃ p, m ⟨M, none, false⟩ = p := ⟨_, rfl⟩
  rw [hp] at hjb
  cases r with
  | bad cN =>
    have HE := SL.hid (wrun_bad hp)
    clear hp
    go_wp2_with fail
    (with_reducible refine hjb.mono ?_)
    rintro e w6 ⟨S2, hS2, d6, rfl, h6⟩
    have h7 := workOut h6
    have h8 : Sat w6 (c.RI st1.b.s * (batchA 113 5 S1 mb c.rd M.err M.W M.D * (pt eb (.cells #[.int .i64 0] 29 (0, 0)) * (pt ab (.cells #[.slice none 0 0] 48 (0, 0)) * (pool S2 * (G * F)))))) :=
      (h7.to (by ac_rfl : _ = pt sp (.cells #[.pointer (some ⟨mb, 0, none⟩), .int .i64 (n : Int)] 26 (0, 0)) * (c.RI st1.b.s * (batchA 113 5 S1 mb c.rd M.err M.W M.D * (pt eb (.cells #[.int .i64 0] 29 (0, 0)) * (pt ab (.cells #[.slice none 0 0] 48 (0, 0)) * (pool S2 * (G * F)))))))).right
    have h9 := btMain hS2 h8
    have h10 : Sat w6 (pt ab (.cells #[.slice none 0 0] 48 (0, 0)) * (pt eb (.cells #[.int .i64 0] 29 (0, 0)) * (btA c S2 mb { M with s := st1.b.s } * (pool S2 * (G * F))))) := h9.to (by ac_rfl)
    go_wp2_with fail
    exact doorB_pan rfl rfl h10 (.inl rfl) fun w' h11 d11 => HQ.out _ _ (by rw [HE.out]; exact ⟨S2, hS1.trans hS2, (D5.trans d6).trans d11, rfl, h11⟩)
  | ok a =>
    go_wp2_with fail
    (with_reducible refine hjb.mono ?_)
    rintro e w6 ⟨S2, v6, hS2, d6, rfl, h6⟩
    unfold bytesR at h6
    obtain ⟨aa, ac, rfl⟩ := sl_shape h6
    generalize a.length = al at h6 ⊢
    have h7 : Sat w6 (workA (⟨c, n, k, f⟩ : Wk σ) S2 st1 * (pool S2 * ((bs 5 (.slice aa al ac) a * G) * (batchA 113 5 S1 mb c.rd M.err M.W M.D * (pt eb (.cells #[.int .i64 0] 29 (0, 0)) * (pt ab (.cells #[.slice none 0 0] 48 (0, 0)) * (pt sp (.cells #[.pointer (some ⟨mb, 0, none⟩), .int .i64 (n : Int)] 26 (0, 0)) * F))))))) := h6.to (by ac_rfl)
    obtain ⟨bv, h8⟩ := Sat.workOpen h7
    clear hjb h6 h7
    have h9 : Sat w6 (pt ab (.cells #[.slice none 0 0] 48 (0, 0)) * (pt eb (.cells #[.int .i64 0] 29 (0, 0)) * (pt sp (.cells #[.pointer (some ⟨mb, 0, none⟩), .int .i64 (n : Int)] 26 (0, 0)) * (pt k (.cells #[.pointer (some ⟨f, 0, none⟩), .int .i64 (n : Int), bv, .bool st1.dt] 81 (0, 0)) * (btA c S2 f st1.b * (bitsA st1.bits bv * (pool S2 * (batchA 113 5 S1 mb c.rd M.err M.W M.D * ((bs 5 (.slice aa al ac) a * G) * F))))))))) := h8.to (by unfold workX Wk.cells; ac_rfl)
    have c9 : w6.cell? ⟨ab, 0, none⟩ = some (.slice none 0 0) := h9.cell 0
    have f9 : w6.frozen? ⟨ab, 0, none⟩ = false := h9.frozen 0
    have h10 := h9.setCell 0 (.slice aa al ac)
    simp only [List.setIfInBounds_toArray, List.set_cons_zero] at h10
    have D10 := (D5.trans d6).setCell ⟨ab, 0, none⟩ (.slice aa al ac)
    have k3 : (w6.setCell ⟨ab, 0, none⟩ (.slice aa al ac)).cell? ⟨k, 3, none⟩ = some (.bool st1.dt) := h10.front4.cell 3
    clear h8 h9 D5 d6
    cases hdt : st1.dt with
    | false =>
      have HE := SL.hid (wrun_ok hp hdt)
      rw [hdt] at k3 h10
      clear hp hdt
      go_wp2_with fail
      generalize w6.setCell ⟨ab, 0, none⟩ (.slice aa al ac) = w7 at *
      have hj9 : Sat w7 (batchA 113 5 S1 mb c.rd M.err M.W M.D * (batchA 113 5 S2 f c.rd st1.b.err st1.b.W st1.b.D * (pool S2 * (c.RI st1.b.s * (pt ab (.cells #[.slice aa al ac] 48 (0, 0)) * (pt eb (.cells #[.int .i64 0] 29 (0, 0)) * (pt sp (.cells #[.pointer (some ⟨mb, 0, none⟩), .int .i64 (n : Int)] 26 (0, 0)) * (pt k (.cells #[.pointer (some ⟨f, 0, none⟩), .int .i64 (n : Int), bv, .bool false] 81 (0, 0)) * (bitsA st1.bits bv * ((bs 5 (.slice aa al ac) a * G) * F)))))))))) := h10.to (by unfold btA; ac_rfl)
      have hj10 := hj9.weak (batchA_mono hS2)
      have s0 : w7.cell? ⟨sp, 0, none⟩ = some (.pointer (some ⟨mb, 0, none⟩)) := hj10.front7.cell 0
      have k0 : w7.cell? ⟨k, 0, none⟩ = some (.pointer (some ⟨f, 0, none⟩)) := hj10.front8.cell 0
      have hjn := SL.hid (join_any w7.drew S2 mb f c.rd c.rd st1.b.err M.err st1.b.W st1.b.D M.W M.D _ hj10.drew ⟨_, _, rfl⟩)
      clear hj9 hj10 h10
      go_region_held3 (fun w' => w'.cell? ⟨sp, 0, none⟩ = some (.pointer (some ⟨mb, 0, none⟩)) ∧ w'.cell? ⟨k, 0, none⟩ = some (.pointer (some ⟨f, 0, none⟩)))
        (first | exact ⟨s0, k0⟩ | exact k01 | go_keep)
        (first | (go_at_call 31; refine (hjn.out).mono ?_; rintro e w8 ⟨S3, hS3, rfl, h8, d8⟩; have k01 : w8.cell? ⟨sp, 0, none⟩ = some (.pointer (some ⟨mb, 0, none⟩)) ∧ w8.cell? ⟨k, 0, none⟩ = some (.pointer (some ⟨f, 0, none⟩)) := ⟨h8.front7.cell 0, h8.front8.cell 0⟩))
      all_goals
        rename_i hHeld
        have h9 : Sat w8 (pt ab (.cells #[.slice aa al ac] 48 (0, 0)) * (pt eb (.cells #[.int .i64 0] 29 (0, 0)) * ((btA c S3 mb st1.b * (pool S3 * ((bs 5 (.slice aa al ac) a * G) * F))) * (pt sp (.cells #[.pointer (some ⟨mb, 0, none⟩), .int .i64 (n : Int)] 26 (0, 0)) * (pt k (.cells #[.pointer (some ⟨f, 0, none⟩), .int .i64 (n : Int), bv, .bool false] 81 (0, 0)) * (batchA 113 5 S3 f c.rd st1.b.err st1.b.W st1.b.D * bitsA st1.bits bv)))))) := h8.to (by unfold btA; ac_rfl)
        have c9 : w8.cell? ⟨ab, 0, none⟩ = some (.slice aa al ac) := h9.cell 0
        have f9 : w8.frozen? ⟨ab, 0, none⟩ = false := h9.frozen 0
        have e9 : w8.cell? ⟨eb, 0, none⟩ = some (.int .i64 0) := h9.front2.cell 0
        have g9 : w8.frozen? ⟨eb, 0, none⟩ = false := h9.front2.frozen 0
        have hne : ¬ (ab = eb) := Sat.ne h9
        have hne2 : ¬ (eb = ab) := fun h => hne h.symm
        have h10 := ((h9.setCell 0 (.slice aa al ac)).front2.setCell 0 (.int .i64 0))
        have ca := h10.front2.cell 0
        have ce := h10.cell 0
        have D9 := (((D10).drew.trans d8).setCell ⟨ab, 0, none⟩ (.slice aa al ac)).setCell ⟨eb, 0, none⟩ (.int .i64 0)
        have hF : Sat _ ((btA c S3 mb st1.b * (pool S3 * ((bs 5 (.slice aa al ac) a * G) * F)))) := h10.right.right.left
        have HD := SL.hid D9; have HF := SL.hid hF; have Ca := SL.hid ca; have Ce := SL.hid ce
        clear hjn s0 k0 k01 h8 h9 h10 D9 hF hHeld d8 ca ce
        go_wp2_with fail
        exact doorB_ret rfl rfl Ca.out Ce.out (HQ.out _ _ (by rw [HE.out]; exact ⟨S3, _, hS1.trans (hS2.trans hS3), HD.out, rfl, HF.out.to (by unfold bytesR; ac_rfl)⟩))
    | true =>
      have HE1 := fun st' => wrun_wr (st' := st') hp hdt
      have HE2 := fun st' c => wrun_wb (st' := st') (c := c) hp hdt
      have HE1 := SL.hid HE1; have HE2 := SL.hid HE2
      rw [hdt] at k3 h10
      have k2 : (w6.setCell ⟨ab, 0, none⟩ (.slice aa al ac)).cell? ⟨k, 2, none⟩ = some bv := h10.front4.cell 2
      have hrb : Rd (w6.setCell ⟨ab, 0, none⟩ (.slice aa al ac)) bv (st1.bits.getD []) := bitsRd h10.front6
      have h11 : Sat (w6.setCell ⟨ab, 0, none⟩ (.slice aa al ac)) (workX (⟨c, n, k, f⟩ : Wk σ) bv S2 st1 * (pool S2 * (pt ab (.cells #[.slice aa al ac] 48 (0, 0)) * (pt eb (.cells #[.int .i64 0] 29 (0, 0)) * (pt sp (.cells #[.pointer (some ⟨mb, 0, none⟩), .int .i64 (n : Int)] 26 (0, 0)) * (bitsA st1.bits bv * (batchA 113 5 S1 mb c.rd M.err M.W M.D * ((bs 5 (.slice aa al ac) a * G) * F)))))))) :=
        h10.to (by unfold workX Wk.cells; rw [hdt]; ac_rfl)
      have hwr := writeX_any (⟨c, n, k, f⟩ : Wk σ) _ bv S2 st1 0 bv (st1.bits.getD []) _ h11 hrb
      obtain ⟨va, vl, vc, rfl⟩ : ∃ a l c, bv = .slice a l c := by
        obtain ⟨a, c, e⟩ := hrb.shape; exact ⟨_, _, _, e⟩
      have hdt2 : ∀ st' r, wwrite 0 (st1.bits.getD []) st1 = (r, st') → st'.dt = true := fun st' r h => by
        unfold wwrite at h
        split at h
        · simp only [Prod.mk.injEq] at h; rw [← h.2]; exact hdt
        · simp only [Prod.mk.injEq] at h; rw [← h.2]; exact hdt
      obtain ⟨⟨r2, st2⟩, hp2⟩ : ∃ p, wwrite 0 (st1.bits.getD []) st1 = p := ⟨_, rfl⟩
      rw [hp2] at hwr
      have hdt3 := hdt2 _ _ hp2
      have Hdt3 := SL.hid hdt3
      clear hp hdt h11 hrb hdt2 hdt3
      cases r2 with
      | bad cN =>
        have HE := SL.hid (HE2.out _ _ hp2)
        clear hp2 HE1 HE2
        go_wp2_with fail
        (with_reducible refine hwr.mono ?_)
        rintro e w8 ⟨S3, hS3, d8, rfl, h12⟩
        have h13 : Sat w8 (c.RI st2.b.s * (batchA 113 5 S1 mb c.rd M.err M.W M.D * (pt ab (.cells #[.slice aa al ac] 48 (0, 0)) * (pt eb (.cells #[.int .i64 0] 29 (0, 0)) * (pool S3 * ((bs 5 (.slice aa al ac) a * G) * F)))))) :=
          (h12.to (by unfold workX btA; ac_rfl : _ = (pt k (.cells ((⟨c, n, k, f⟩ : Wk σ).cells (.slice va vl vc) st2.dt) 81 (0, 0)) * (batchA 113 5 S3 f c.rd st2.b.err st2.b.W st2.b.D * (pt sp (.cells #[.pointer (some ⟨mb, 0, none⟩), .int .i64 (n : Int)] 26 (0, 0)) * bitsA st1.bits (.slice va vl vc)))) * (c.RI st2.b.s * (batchA 113 5 S1 mb c.rd M.err M.W M.D * (pt ab (.cells #[.slice aa al ac] 48 (0, 0)) * (pt eb (.cells #[.int .i64 0] 29 (0, 0)) * (pool S3 * ((bs 5 (.slice aa al ac) a * G) * F)))))))).right
        have h14 := btMain (hS2.trans hS3) h13
        have h15 : Sat w8 (pt ab (.cells #[.slice aa al ac] 48 (0, 0)) * (pt eb (.cells #[.int .i64 0] 29 (0, 0)) * (btA c S3 mb { M with s := st2.b.s } * (pool S3 * ((bs 5 (.slice aa al ac) a * G) * F))))) := h14.to (by ac_rfl)
        go_wp2_with fail
        exact doorB_pan rfl rfl h15 (.inr ⟨_, _, _, rfl⟩) fun w' h11 d11 => HQ.out _ _ (by rw [HE.out]; exact ⟨S3, hS1.trans (hS2.trans hS3), (D10.trans d8).trans d11, rfl, (h11.to (by ac_rfl : _ = bs 5 (.slice aa al ac) a * (btA c S3 mb { M with s := st2.b.s } * (pool S3 * (G * F))))).right⟩)
      | ok u =>
        have HE := SL.hid (HE1.out _ hp2)
        clear hp2 HE1 HE2
        go_wp2_with fail
        (with_reducible refine hwr.mono ?_)
        rintro e w7 ⟨S3, v8, hS3, d8, rfl, h12⟩
        obtain ⟨rfl, h13⟩ := Sat.fact_iff.1 h12
        have h14 : Sat w7 (pt ab (.cells #[.slice aa al ac] 48 (0, 0)) * (pt eb (.cells #[.int .i64 0] 29 (0, 0)) * (pt sp (.cells #[.pointer (some ⟨mb, 0, none⟩), .int .i64 (n : Int)] 26 (0, 0)) * (pt k (.cells #[.pointer (some ⟨f, 0, none⟩), .int .i64 (n : Int), (.slice va vl vc), .bool true] 81 (0, 0)) * (btA c S3 f st2.b * (bitsA st1.bits (.slice va vl vc) * (pool S3 * (batchA 113 5 S1 mb c.rd M.err M.W M.D * ((bs 5 (.slice aa al ac) a * G) * F))))))))) := h13.to (by unfold workX Wk.cells; rw [Hdt3.out]; ac_rfl)
        have D14 := D10.trans d8
        have hE3 := hS2.trans hS3
        clear hwr h12 h13 D10 d8 h10 k2 k3
        go_wp2_with fail
        have hj9 : Sat w7 (batchA 113 5 S1 mb c.rd M.err M.W M.D * (batchA 113 5 S3 f c.rd st2.b.err st2.b.W st2.b.D * (pool S3 * (c.RI st2.b.s * (pt ab (.cells #[.slice aa al ac] 48 (0, 0)) * (pt eb (.cells #[.int .i64 0] 29 (0, 0)) * (pt sp (.cells #[.pointer (some ⟨mb, 0, none⟩), .int .i64 (n : Int)] 26 (0, 0)) * (pt k (.cells #[.pointer (some ⟨f, 0, none⟩), .int .i64 (n : Int), (.slice va vl vc), .bool true] 81 (0, 0)) * (bitsA st1.bits (.slice va vl vc) * ((bs 5 (.slice aa al ac) a * G) * F)))))))))) := h14.to (by unfold btA; ac_rfl)
        have hj10 := hj9.weak (batchA_mono hE3)
        have s0 : w7.cell? ⟨sp, 0, none⟩ = some (.pointer (some ⟨mb, 0, none⟩)) := hj10.front7.cell 0
        have k0 : w7.cell? ⟨k, 0, none⟩ = some (.pointer (some ⟨f, 0, none⟩)) := hj10.front8.cell 0
        have hjn := SL.hid (join_any w7.drew S3 mb f c.rd c.rd st2.b.err M.err st2.b.W st2.b.D M.W M.D _ hj10.drew ⟨_, _, rfl⟩)
        clear hj9 hj10 h14
        go_region_held3 (fun w' => w'.cell? ⟨sp, 0, none⟩ = some (.pointer (some ⟨mb, 0, none⟩)) ∧ w'.cell? ⟨k, 0, none⟩ = some (.pointer (some ⟨f, 0, none⟩)))
          (first | exact ⟨s0, k0⟩ | exact k01 | go_keep)
          (first | (go_at_call 31; refine (hjn.out).mono ?_; rintro e w8 ⟨S5, hS5, rfl, h8, d8⟩; have k01 : w8.cell? ⟨sp, 0, none⟩ = some (.pointer (some ⟨mb, 0, none⟩)) ∧ w8.cell? ⟨k, 0, none⟩ = some (.pointer (some ⟨f, 0, none⟩)) := ⟨h8.front7.cell 0, h8.front8.cell 0⟩))
        all_goals
          rename_i hHeld
          have h9 : Sat w8 (pt ab (.cells #[.slice aa al ac] 48 (0, 0)) * (pt eb (.cells #[.int .i64 0] 29 (0, 0)) * ((btA c S5 mb st2.b * (pool S5 * ((bs 5 (.slice aa al ac) a * G) * F))) * (pt sp (.cells #[.pointer (some ⟨mb, 0, none⟩), .int .i64 (n : Int)] 26 (0, 0)) * (pt k (.cells #[.pointer (some ⟨f, 0, none⟩), .int .i64 (n : Int), (.slice va vl vc), .bool true] 81 (0, 0)) * (batchA 113 5 S5 f c.rd st2.b.err st2.b.W st2.b.D * bitsA st1.bits (.slice va vl vc))))))) := h8.to (by unfold btA; ac_rfl)
          have c9 : w8.cell? ⟨ab, 0, none⟩ = some (.slice aa al ac) := h9.cell 0
          have f9 : w8.frozen? ⟨ab, 0, none⟩ = false := h9.frozen 0
          have e9 : w8.cell? ⟨eb, 0, none⟩ = some (.int .i64 0) := h9.front2.cell 0
          have g9 : w8.frozen? ⟨eb, 0, none⟩ = false := h9.front2.frozen 0
          have hne : ¬ (ab = eb) := Sat.ne h9
          have hne2 : ¬ (eb = ab) := fun h => hne h.symm
          have h10 := ((h9.setCell 0 (.slice aa al ac)).front2.setCell 0 (.int .i64 0))
          have ca := h10.front2.cell 0
          have ce := h10.cell 0
          have D9 := (((D14).drew.trans d8).setCell ⟨ab, 0, none⟩ (.slice aa al ac)).setCell ⟨eb, 0, none⟩ (.int .i64 0)
          have hF : Sat _ ((btA c S5 mb st2.b * (pool S5 * ((bs 5 (.slice aa al ac) a * G) * F)))) := h10.right.right.left
          have HD := SL.hid D9; have HF := SL.hid hF; have Ca := SL.hid ca; have Ce := SL.hid ce
          clear hjn s0 k0 k01 h8 h9 h10 D9 hF hHeld d8 ca ce
          go_wp2_with fail
          exact doorB_ret rfl rfl Ca.out Ce.out (HQ.out _ _ (by rw [HE.out]; exact ⟨S5, _, hS1.trans (hE3.trans hS5), HD.out, rfl, HF.out.to (by unfold bytesR; ac_rfl)⟩))
end
end Go.Proofs.YtaoohjeaaccnfaaGreat.Fs
namespace Go.Proofs.YtaoohjeaaccnfaaGreat.Fs
set_option linter.unusedVariables false
set_option linter.unusedSimpArgs false
open Go.RowKit Go.SL Go.Proofs.YtaoohjeaaccnfaaGreat.Ba
theorem info_unit : (Tryz.prog.info? 144).map (·.size) = some 0 := by kernel_rfl
section
variable {σ α : Type}
set_option maxRecDepth 100000 in
set_option maxHeartbeats 1000000 in
theorem runU_ret (w : World) (pa : Nat) (pe : Addr) :
    CallsD Tryz.prog 123 #[.pointer (some ⟨pa, 0, none⟩), .pointer (some pe)] .returning w fun e u w' => e = .returned (.tuple #[]) ∧ u = .returning ∧ w' = w.alloc (.cells #[] 144 (0, 0)) := by
  refine callsD_of_wpS Tryz.func123 rfl fun c₀ cs hu => ?_
  apply wpS_seq
  refine wpS_of_wp ?_
  simp only [Tryz.ntmps123, List.size_toArray, List.length_cons, List.length_nil, Nat.reduceAdd, Nat.reduceSub, Array.replicate_succ,
     Array.replicate_zero, List.push_toArray, List.append_toArray, List.nil_append, List.cons_append]
  go_wp2
  simp only [Exit.thenS]
  apply wpS_seq
  apply wpS_region
  simp [wpOpsS, go_sem, recoverD, hu, Exit.thenS]
  refine wpS_of_wp ?_
  go_wp2
  cases c₀
  simp_all [bodyPostS, results, Tryz.results123]
  try rfl
set_option maxRecDepth 100000 in
set_option maxHeartbeats 1000000 in
theorem runU_pan (w : World) (pa eb : Nat) (c y : Int) (older : List PanicEntry) (he : w.cell? ⟨eb, 0, none⟩ = some (.int .i64 y)) (fe : w.frozen? ⟨eb, 0, none⟩ = false) (hlt : eb < w.heap.size) :
    CallsD Tryz.prog 123 #[.pointer (some ⟨pa, 0, none⟩), .pointer (some ⟨eb, 0, none⟩)] (.panicking ({ v := .iface 123 (.int .i64 c), recovered := false } :: older)) w fun e u w' =>
      e = .returned (.tuple #[]) ∧ u = .panicking ({ v := .iface 123 (.int .i64 c), recovered := true } :: older) ∧ w' = (w.setCell ⟨eb, 0, none⟩ (.int .i64 c)).alloc (.cells #[] 144 (0, 0)) := by
  refine callsD_of_wpS Tryz.func123 rfl fun c₀ cs hu => ?_
  apply wpS_seq
  refine wpS_of_wp ?_
  simp only [Tryz.ntmps123, List.size_toArray, List.length_cons, List.length_nil, Nat.reduceAdd, Nat.reduceSub, Array.replicate_succ,
     Array.replicate_zero, List.push_toArray, List.append_toArray, List.nil_append, List.cons_append]
  go_wp2
  simp only [Exit.thenS]
  apply wpS_seq
  apply wpS_region
  simp [wpOpsS, go_sem, recoverD, hu, Exit.thenS]
  refine wpS_of_wp ?_
  have hta := assert_fault (.int .i64 c)
  have hne : ¬ (eb = w.heap.size) := by omega
  go_wp2_with (first | (refine wpList_load_mid (by exact rfl) 144 (.tmp 2) (by exact rfl) w.heap.size 0 (by exact rfl) [] _ (by exact fun j v h => by cases h) Tryz.underlying144 rfl (by exact info_unit) ?_) | (refine wpList_store_mid (by exact rfl) 144 (.tmp 0) (.tmp 12) (by exact rfl) pa 0 #[] (by exact rfl) (by exact rfl) (by exact fun j h => absurd h (Nat.not_lt_zero _)) (by exact info_unit) (by exact rfl) ?_))
  exact ⟨rfl, _, rfl, _, results_none rfl _ _ _, rfl, rfl, rfl⟩
theorem runU_results {w : World} {tmps : Array Value} {a b : Nat} {e : Value} {F : Assn} (h4 : tmps[4]? = some (ptV a)) (h5 : tmps[5]? = some (ptV b)) (ha : Sat w (pt a (.cells #[] 144 (0, 0)) * F)) (hb : w.cell? ⟨b, 0, none⟩ = some e) :
    (results Tryz.f93 tmps).run Tryz.prog w = .ok (.tuple #[.agg #[], e]) w := by
  have hl := run_loadVar_row (P := Tryz.prog) w a 144 144 #[] (0, 0) _ ha.heap Tryz.underlying144 rfl info_unit
  have hp : tmps.getD 4 undef = .pointer (some ⟨a, 0, none⟩) := by simp [h4]
  simp [results, Tryz.results93, h4, h5, go_sem, asAddr, hl, hb]
theorem doorU_pan {w : World} {tmps : Array Value} {ab eb : Nat} {z c : Int} {P : Assn} {R : Ending → World → Prop} (h4 : tmps[4]? = some (ptV ab)) (h5 : tmps[5]? = some (ptV eb))
    (h : Sat w (pt ab (.cells #[] 144 (0, 0)) * (pt eb (.cells #[.int .i64 z] 29 (0, 0)) * P))) (hR : ∀ w', Sat w' P → Side w w' → R (.returned (.tuple #[.agg #[], .int .i64 c])) w') :
    bodyPostD Tryz.prog Tryz.f93 R (Exit.panic (flt c)) { tmps := tmps, defers := [{ target := .fn (.func 123) #[.pointer (some ⟨ab, 0, none⟩), .pointer (some ⟨eb, 0, none⟩)], args := #[] }] } w := by
  refine leaves_cons (f := 123) (args := #[.pointer (some ⟨ab, 0, none⟩), .pointer (some ⟨eb, 0, none⟩)]) (by simp) (by simp [go_sem]) ?_
  refine (runU_pan w ab eb c z [] (h.front2.cell 0) (h.front2.frozen 0) h.front2.lt).mono ?_
  rintro e u w7 ⟨rfl, rfl, rfl⟩
  have h11 := ((h.front2.setCell 0 (.int .i64 c)).alloc (.cells #[] 144 (0, 0))).right
  exact ⟨_, runU_results h4 h5 h11.front2 (h11.cell 0), hR _ h11.right.right (((Side.refl w).setCell _ _).alloc _)⟩
theorem doorU_ret {w : World} {tmps : Array Value} {ab eb : Nat} {z : Int} {P : Assn} {R : Ending → World → Prop} (h4 : tmps[4]? = some (ptV ab)) (h5 : tmps[5]? = some (ptV eb))
    (h : Sat w (pt ab (.cells #[] 144 (0, 0)) * (pt eb (.cells #[.int .i64 z] 29 (0, 0)) * P))) (hR : ∀ w', Sat w' P → Side w w' → R (.returned (.tuple #[.agg #[], .int .i64 z])) w') :
    bodyPostD Tryz.prog Tryz.f93 R Exit.ret { tmps := tmps, defers := [{ target := .fn (.func 123) #[.pointer (some ⟨ab, 0, none⟩), .pointer (some ⟨eb, 0, none⟩)], args := #[] }] } w := by
  refine leaves_cons (f := 123) (args := #[.pointer (some ⟨ab, 0, none⟩), .pointer (some ⟨eb, 0, none⟩)]) (by simp) (by simp [go_sem]) ?_
  refine (runU_ret w ab ⟨eb, 0, none⟩).mono ?_
  rintro e u w7 ⟨rfl, rfl, rfl⟩
  have h11 := (h.alloc (.cells #[] 144 (0, 0))).right
  exact ⟨_, runU_results h4 h5 h11 (h11.front2.cell 0), hR _ h11.right.right ((Side.refl w).alloc _)⟩
def voidR (a : Unit) (v : Value) : Assn := fact (v = .agg #[])
set_option maxRecDepth 100000 in
set_option maxHeartbeats 4000000 in
theorem runU_any (c : Cx σ) (hc : c.Ok) (n : Nat) (hn1 : 4 ≤ n) (hn2 : n ≤ 3840) (jf : FuncId) (caps : Array Value) (G : Assn) (m : WM σ Unit)
    (hcf : ∀ (args : Array Value) (w : World), (callFunc jf args).run Tryz.prog w = .ok (.enter jf args) w) (hj : Job c n jf caps voidR G m)
    (mb : Nat) (M : Bst σ) (w : World) (S : Hp) (F : Assn) (h : Sat w (btA c S mb M * (pool S * (G * F)))) (Q : Ending → World → Prop)
    (hQ : ∀ e w', RunQ c mb (.agg #[]) voidR S (G * F) w (wrun m M) e w' → Q e w') :
    Calls Tryz.prog 93 #[spV mb n, .func (.func jf) #[] caps] w Q := by
  have HQ := SL.hid hQ
  clear hQ
  have hmf : ∀ (fn : Fn) (first cap : Array Value) (w : World), (Instr.makeFunc fn first cap).run Tryz.prog w = .ok (.func fn first cap) w := fun _ _ _ _ => rfl
  have hn1' : ¬ ((n : Int) < 4) := by omega
  have hn2' : ¬ ((n : Int) > 3840) := by omega
  have Hj := SL.hid hj
  unfold spV
  go_enter_defers Tryz.func93, Tryz.ntmps93
  have H3 := ((h.alloc (.cells #[.pointer (some ⟨mb, 0, none⟩), .int .i64 (n : Int)] 26 (0, 0))).alloc (.cells #[] 144 (0, 0))).alloc (.cells #[.int .i64 0] 29 (0, 0))
  have D3 := (((Side.refl w).alloc (.cells #[.pointer (some ⟨mb, 0, none⟩), .int .i64 (n : Int)] 26 (0, 0))).alloc (.cells #[] 144 (0, 0))).alloc (.cells #[.int .i64 0] 29 (0, 0))
  simp only [World.size_alloc] at H3
  go_wp2_with fail
  generalize ((w.alloc (.cells #[.pointer (some ⟨mb, 0, none⟩), .int .i64 (n : Int)] 26 (0, 0))).alloc (.cells #[] 144 (0, 0))).alloc (.cells #[.int .i64 0] 29 (0, 0)) = w3 at H3 D3 ⊢
  clear h
  generalize w.heap.size + 1 + 1 = eb at *
  generalize w.heap.size + 1 = ab at *
  generalize w.heap.size = sp at *
  have s0 : w3.cell? ⟨sp, 0, none⟩ = some (.pointer (some ⟨mb, 0, none⟩)) := H3.front3.cell 0
  have s1 : w3.cell? ⟨sp, 1, none⟩ = some (.int .i64 (n : Int)) := H3.front3.cell 1
  have h9 : Sat w3 (batchA 113 5 S mb c.rd M.err M.W M.D * (pool S * (c.RI M.s * (pt eb (.cells #[.int .i64 0] 29 (0, 0)) * (pt ab (.cells #[] 144 (0, 0)) * (pt sp (.cells #[.pointer (some ⟨mb, 0, none⟩), .int .i64 (n : Int)] 26 (0, 0)) * (G * F))))))) := H3.to (by unfold btA; ac_rfl)
  have hfk := fork_any w3.drew S mb c.rd M.err M.W M.D _ h9.drew ⟨_, _, rfl⟩
  have Hfk := SL.hid hfk
  clear hfk
  go_region_held3 (fun w' => w'.cell? ⟨sp, 0, none⟩ = some (.pointer (some ⟨mb, 0, none⟩)) ∧ w'.cell? ⟨sp, 1, none⟩ = some (.int .i64 (n : Int)))
    (first | exact ⟨s0, s1⟩ | exact k01 | go_keep)
    (first | (go_at_call 28; refine (Hfk.out).mono ?_; rintro e w4 ⟨S1, f, hS1, rfl, h4, d4⟩; have k01 : w4.cell? ⟨sp, 0, none⟩ = some (.pointer (some ⟨mb, 0, none⟩)) ∧ w4.cell? ⟨sp, 1, none⟩ = some (.int .i64 (n : Int)) := ⟨h4.front7.cell 0, h4.front7.cell 1⟩))
  have D5 := (D3.drew.trans d4).alloc (.cells #[.pointer (some ⟨f, 0, none⟩), .int .i64 (n : Int), .slice none 0 0, .bool false] 81 (0, 0))
  have H5 := h4.alloc (.cells #[.pointer (some ⟨f, 0, none⟩), .int .i64 (n : Int), .slice none 0 0, .bool false] 81 (0, 0))
  have H5' : Sat (w4.alloc (.cells #[.pointer (some ⟨f, 0, none⟩), .int .i64 (n : Int), .slice none 0 0, .bool false] 81 (0, 0))) (workA (⟨c, n, w4.heap.size, f⟩ : Wk σ) S1 ⟨M, none, false⟩ * (pool S1 * (G * (batchA 113 5 S1 mb c.rd M.err M.W M.D * (pt eb (.cells #[.int .i64 0] 29 (0, 0)) * (pt ab (.cells #[] 144 (0, 0)) * (pt sp (.cells #[.pointer (some ⟨mb, 0, none⟩), .int .i64 (n : Int)] 26 (0, 0)) * F))))))) :=
    workNew (H5.to (by ac_rfl))
  have hjb := Hj.out ⟨c, n, w4.heap.size, f⟩ _ S1 ⟨M, none, false⟩ _ rfl rfl H5'
  rename_i hHeld
  clear s0 s1 h9 Hfk k01 hHeld D3 d4 h4 H5 H5' Hj hj H3
  generalize w4.alloc (.cells #[.pointer (some ⟨f, 0, none⟩), .int .i64 (n : Int), .slice none 0 0, .bool false] 81 (0, 0)) = w5 at *
  generalize w4.heap.size = k at *
  obtain ⟨⟨r, st1⟩, hp⟩ : ∃ p, m ⟨M, none, false⟩ = p := ⟨_, rfl⟩
  rw [hp] at hjb
  cases r with
  | bad cN =>
    have HE := SL.hid (wrun_bad hp)
    clear hp
    go_wp2_with fail
    (with_reducible refine hjb.mono ?_)
    rintro e w6 ⟨S2, hS2, d6, rfl, h6⟩
    have h7 := workOut h6
    have h8 : Sat w6 (c.RI st1.b.s * (batchA 113 5 S1 mb c.rd M.err M.W M.D * (pt eb (.cells #[.int .i64 0] 29 (0, 0)) * (pt ab (.cells #[] 144 (0, 0)) * (pool S2 * (G * F)))))) :=
      (h7.to (by ac_rfl : _ = pt sp (.cells #[.pointer (some ⟨mb, 0, none⟩), .int .i64 (n : Int)] 26 (0, 0)) * (c.RI st1.b.s * (batchA 113 5 S1 mb c.rd M.err M.W M.D * (pt eb (.cells #[.int .i64 0] 29 (0, 0)) * (pt ab (.cells #[] 144 (0, 0)) * (pool S2 * (G * F)))))))).right
    have h9 := btMain hS2 h8
    have h10 : Sat w6 (pt ab (.cells #[] 144 (0, 0)) * (pt eb (.cells #[.int .i64 0] 29 (0, 0)) * (btA c S2 mb { M with s := st1.b.s } * (pool S2 * (G * F))))) := h9.to (by ac_rfl)
    go_wp2_with fail
    exact doorU_pan rfl rfl h10 fun w' h11 d11 => HQ.out _ _ (by rw [HE.out]; exact ⟨S2, hS1.trans hS2, (D5.trans d6).trans d11, rfl, h11⟩)
  | ok a =>
    go_wp2_with fail
    (with_reducible refine hjb.mono ?_)
    rintro e w6 ⟨S2, v6, hS2, d6, rfl, h6⟩
    obtain ⟨rfl, h7⟩ := Sat.fact_iff.1 h6
    obtain ⟨bv, h8⟩ := Sat.workOpen h7
    clear hjb h6 h7
    have h9 : Sat w6 (pt ab (.cells #[] 144 (0, 0)) * (pt eb (.cells #[.int .i64 0] 29 (0, 0)) * (pt sp (.cells #[.pointer (some ⟨mb, 0, none⟩), .int .i64 (n : Int)] 26 (0, 0)) * (pt k (.cells #[.pointer (some ⟨f, 0, none⟩), .int .i64 (n : Int), bv, .bool st1.dt] 81 (0, 0)) * (btA c S2 f st1.b * (bitsA st1.bits bv * (pool S2 * (batchA 113 5 S1 mb c.rd M.err M.W M.D * (G * F))))))))) := h8.to (by unfold workX Wk.cells; ac_rfl)
    have h10 := h9
    have D10 := D5.trans d6
    have k3 : w6.cell? ⟨k, 3, none⟩ = some (.bool st1.dt) := h10.front4.cell 3
    clear h8 h9 D5 d6
    cases hdt : st1.dt with
    | false =>
      have HE := SL.hid (wrun_ok hp hdt)
      rw [hdt] at k3 h10
      clear hp hdt
      go_wp2_with (refine wpList_store_mid (by exact rfl) 144 (.tmp 4) (.tmp 31) (by exact rfl) ab 0 #[] (by exact rfl) (by exact rfl) (by exact fun j h => absurd h (Nat.not_lt_zero _)) (by exact info_unit) (by exact rfl) ?_)
      have e67 : ∃ w7, w7 = w6 := ⟨_, rfl⟩
      obtain ⟨w7, rfl⟩ := e67
      have hj9 : Sat w7 (batchA 113 5 S1 mb c.rd M.err M.W M.D * (batchA 113 5 S2 f c.rd st1.b.err st1.b.W st1.b.D * (pool S2 * (c.RI st1.b.s * (pt ab (.cells #[] 144 (0, 0)) * (pt eb (.cells #[.int .i64 0] 29 (0, 0)) * (pt sp (.cells #[.pointer (some ⟨mb, 0, none⟩), .int .i64 (n : Int)] 26 (0, 0)) * (pt k (.cells #[.pointer (some ⟨f, 0, none⟩), .int .i64 (n : Int), bv, .bool false] 81 (0, 0)) * (bitsA st1.bits bv * (G * F)))))))))) := h10.to (by unfold btA; ac_rfl)
      have hj10 := hj9.weak (batchA_mono hS2)
      have s0 : w7.cell? ⟨sp, 0, none⟩ = some (.pointer (some ⟨mb, 0, none⟩)) := hj10.front7.cell 0
      have k0 : w7.cell? ⟨k, 0, none⟩ = some (.pointer (some ⟨f, 0, none⟩)) := hj10.front8.cell 0
      have hjn := SL.hid (join_any w7.drew S2 mb f c.rd c.rd st1.b.err M.err st1.b.W st1.b.D M.W M.D _ hj10.drew ⟨_, _, rfl⟩)
      clear hj9 hj10 h10
      go_region_held3 (fun w' => w'.cell? ⟨sp, 0, none⟩ = some (.pointer (some ⟨mb, 0, none⟩)) ∧ w'.cell? ⟨k, 0, none⟩ = some (.pointer (some ⟨f, 0, none⟩)))
        (first | exact ⟨s0, k0⟩ | exact k01 | go_keep)
        (first | (go_at_call 31; refine (hjn.out).mono ?_; rintro e w8 ⟨S3, hS3, rfl, h8, d8⟩; have k01 : w8.cell? ⟨sp, 0, none⟩ = some (.pointer (some ⟨mb, 0, none⟩)) ∧ w8.cell? ⟨k, 0, none⟩ = some (.pointer (some ⟨f, 0, none⟩)) := ⟨h8.front7.cell 0, h8.front8.cell 0⟩))
      all_goals
        rename_i hHeld
        have h9 : Sat w8 (pt ab (.cells #[] 144 (0, 0)) * (pt eb (.cells #[.int .i64 0] 29 (0, 0)) * ((btA c S3 mb st1.b * (pool S3 * (G * F))) * (pt sp (.cells #[.pointer (some ⟨mb, 0, none⟩), .int .i64 (n : Int)] 26 (0, 0)) * (pt k (.cells #[.pointer (some ⟨f, 0, none⟩), .int .i64 (n : Int), bv, .bool false] 81 (0, 0)) * (batchA 113 5 S3 f c.rd st1.b.err st1.b.W st1.b.D * bitsA st1.bits bv)))))) := h8.to (by unfold btA; ac_rfl)
        have e9 : w8.cell? ⟨eb, 0, none⟩ = some (.int .i64 0) := h9.front2.cell 0
        have g9 : w8.frozen? ⟨eb, 0, none⟩ = false := h9.front2.frozen 0
        have h10 := ((h9.front2.setCell 0 (.int .i64 0)).front2)
        have D9 := ((D10).drew.trans d8).setCell ⟨eb, 0, none⟩ (.int .i64 0)
        have HD := SL.hid D9; have H10 := SL.hid h10
        clear hjn s0 k0 k01 h8 h9 h10 D9 hHeld d8
        go_wp2_with (first | (refine wpList_load_mid (by exact rfl) 144 (.tmp 4) (by exact rfl) ab 0 (by exact rfl) [] _ (by exact fun j v h => by cases h) Tryz.underlying144 rfl (by exact info_unit) ?_) | (refine wpList_store_mid (by exact rfl) 144 (.tmp 4) (.tmp 49) (by exact rfl) ab 0 #[] (by exact rfl) (by exact rfl) (by exact fun j h => absurd h (Nat.not_lt_zero _)) (by exact info_unit) (by exact rfl) ?_))
        exact doorU_ret rfl rfl H10.out fun w' h11 d11 => HQ.out _ _ (by rw [HE.out]; exact ⟨S3, _, hS1.trans (hS2.trans hS3), HD.out.trans d11, rfl, Sat.fact_iff.2 ⟨rfl, (h11.left).to (by ac_rfl)⟩⟩)
    | true =>
      have HE1 := fun st' => wrun_wr (st' := st') hp hdt
      have HE2 := fun st' c => wrun_wb (st' := st') (c := c) hp hdt
      have HE1 := SL.hid HE1; have HE2 := SL.hid HE2
      rw [hdt] at k3 h10
      have k2 : w6.cell? ⟨k, 2, none⟩ = some bv := h10.front4.cell 2
      have hrb : Rd w6 bv (st1.bits.getD []) := bitsRd h10.front6
      have h11 : Sat w6 (workX (⟨c, n, k, f⟩ : Wk σ) bv S2 st1 * (pool S2 * (pt ab (.cells #[] 144 (0, 0)) * (pt eb (.cells #[.int .i64 0] 29 (0, 0)) * (pt sp (.cells #[.pointer (some ⟨mb, 0, none⟩), .int .i64 (n : Int)] 26 (0, 0)) * (bitsA st1.bits bv * (batchA 113 5 S1 mb c.rd M.err M.W M.D * (G * F)))))))) :=
        h10.to (by unfold workX Wk.cells; rw [hdt]; ac_rfl)
      have hwr := writeX_any (⟨c, n, k, f⟩ : Wk σ) _ bv S2 st1 0 bv (st1.bits.getD []) _ h11 hrb
      obtain ⟨va, vl, vc, rfl⟩ : ∃ a l c, bv = .slice a l c := by
        obtain ⟨a, c, e⟩ := hrb.shape; exact ⟨_, _, _, e⟩
      have hdt2 : ∀ st' r, wwrite 0 (st1.bits.getD []) st1 = (r, st') → st'.dt = true := fun st' r h => by
        unfold wwrite at h
        split at h
        · simp only [Prod.mk.injEq] at h; rw [← h.2]; exact hdt
        · simp only [Prod.mk.injEq] at h; rw [← h.2]; exact hdt
      obtain ⟨⟨r2, st2⟩, hp2⟩ : ∃ p, wwrite 0 (st1.bits.getD []) st1 = p := ⟨_, rfl⟩
      rw [hp2] at hwr
      have hdt3 := hdt2 _ _ hp2
      have Hdt3 := SL.hid hdt3
      clear hp hdt h11 hrb hdt2 hdt3
      cases r2 with
      | bad cN =>
        have HE := SL.hid (HE2.out _ _ hp2)
        clear hp2 HE1 HE2
        go_wp2_with (refine wpList_store_mid (by exact rfl) 144 (.tmp 4) (.tmp 31) (by exact rfl) ab 0 #[] (by exact rfl) (by exact rfl) (by exact fun j h => absurd h (Nat.not_lt_zero _)) (by exact info_unit) (by exact rfl) ?_)
        (with_reducible refine hwr.mono ?_)
        rintro e w8 ⟨S3, hS3, d8, rfl, h12⟩
        have h13 : Sat w8 (c.RI st2.b.s * (batchA 113 5 S1 mb c.rd M.err M.W M.D * (pt ab (.cells #[] 144 (0, 0)) * (pt eb (.cells #[.int .i64 0] 29 (0, 0)) * (pool S3 * (G * F)))))) :=
          (h12.to (by unfold workX btA; ac_rfl : _ = (pt k (.cells ((⟨c, n, k, f⟩ : Wk σ).cells (.slice va vl vc) st2.dt) 81 (0, 0)) * (batchA 113 5 S3 f c.rd st2.b.err st2.b.W st2.b.D * (pt sp (.cells #[.pointer (some ⟨mb, 0, none⟩), .int .i64 (n : Int)] 26 (0, 0)) * bitsA st1.bits (.slice va vl vc)))) * (c.RI st2.b.s * (batchA 113 5 S1 mb c.rd M.err M.W M.D * (pt ab (.cells #[] 144 (0, 0)) * (pt eb (.cells #[.int .i64 0] 29 (0, 0)) * (pool S3 * (G * F)))))))).right
        have h14 := btMain (hS2.trans hS3) h13
        have h15 : Sat w8 (pt ab (.cells #[] 144 (0, 0)) * (pt eb (.cells #[.int .i64 0] 29 (0, 0)) * (btA c S3 mb { M with s := st2.b.s } * (pool S3 * (G * F))))) := h14.to (by ac_rfl)
        go_wp2_with fail
        exact doorU_pan rfl rfl h15 fun w' h11 d11 => HQ.out _ _ (by rw [HE.out]; exact ⟨S3, hS1.trans (hS2.trans hS3), (D10.trans d8).trans d11, rfl, h11⟩)
      | ok u =>
        have HE := SL.hid (HE1.out _ hp2)
        clear hp2 HE1 HE2
        go_wp2_with (refine wpList_store_mid (by exact rfl) 144 (.tmp 4) (.tmp 31) (by exact rfl) ab 0 #[] (by exact rfl) (by exact rfl) (by exact fun j h => absurd h (Nat.not_lt_zero _)) (by exact info_unit) (by exact rfl) ?_)
        (with_reducible refine hwr.mono ?_)
        rintro e w7 ⟨S3, v8, hS3, d8, rfl, h12⟩
        obtain ⟨rfl, h13⟩ := Sat.fact_iff.1 h12
        have h14 : Sat w7 (pt ab (.cells #[] 144 (0, 0)) * (pt eb (.cells #[.int .i64 0] 29 (0, 0)) * (pt sp (.cells #[.pointer (some ⟨mb, 0, none⟩), .int .i64 (n : Int)] 26 (0, 0)) * (pt k (.cells #[.pointer (some ⟨f, 0, none⟩), .int .i64 (n : Int), (.slice va vl vc), .bool true] 81 (0, 0)) * (btA c S3 f st2.b * (bitsA st1.bits (.slice va vl vc) * (pool S3 * (batchA 113 5 S1 mb c.rd M.err M.W M.D * (G * F))))))))) := h13.to (by unfold workX Wk.cells; rw [Hdt3.out]; ac_rfl)
        have D14 := D10.trans d8
        have hE3 := hS2.trans hS3
        clear hwr h12 h13 D10 d8 h10 k2 k3
        go_wp2_with fail
        have hj9 : Sat w7 (batchA 113 5 S1 mb c.rd M.err M.W M.D * (batchA 113 5 S3 f c.rd st2.b.err st2.b.W st2.b.D * (pool S3 * (c.RI st2.b.s * (pt ab (.cells #[] 144 (0, 0)) * (pt eb (.cells #[.int .i64 0] 29 (0, 0)) * (pt sp (.cells #[.pointer (some ⟨mb, 0, none⟩), .int .i64 (n : Int)] 26 (0, 0)) * (pt k (.cells #[.pointer (some ⟨f, 0, none⟩), .int .i64 (n : Int), (.slice va vl vc), .bool true] 81 (0, 0)) * (bitsA st1.bits (.slice va vl vc) * (G * F)))))))))) := h14.to (by unfold btA; ac_rfl)
        have hj10 := hj9.weak (batchA_mono hE3)
        have s0 : w7.cell? ⟨sp, 0, none⟩ = some (.pointer (some ⟨mb, 0, none⟩)) := hj10.front7.cell 0
        have k0 : w7.cell? ⟨k, 0, none⟩ = some (.pointer (some ⟨f, 0, none⟩)) := hj10.front8.cell 0
        have hjn := SL.hid (join_any w7.drew S3 mb f c.rd c.rd st2.b.err M.err st2.b.W st2.b.D M.W M.D _ hj10.drew ⟨_, _, rfl⟩)
        clear hj9 hj10 h14
        go_region_held3 (fun w' => w'.cell? ⟨sp, 0, none⟩ = some (.pointer (some ⟨mb, 0, none⟩)) ∧ w'.cell? ⟨k, 0, none⟩ = some (.pointer (some ⟨f, 0, none⟩)))
          (first | exact ⟨s0, k0⟩ | exact k01 | go_keep)
          (first | (go_at_call 31; refine (hjn.out).mono ?_; rintro e w8 ⟨S5, hS5, rfl, h8, d8⟩; have k01 : w8.cell? ⟨sp, 0, none⟩ = some (.pointer (some ⟨mb, 0, none⟩)) ∧ w8.cell? ⟨k, 0, none⟩ = some (.pointer (some ⟨f, 0, none⟩)) := ⟨h8.front7.cell 0, h8.front8.cell 0⟩))
        all_goals
          rename_i hHeld
          have h9 : Sat w8 (pt ab (.cells #[] 144 (0, 0)) * (pt eb (.cells #[.int .i64 0] 29 (0, 0)) * ((btA c S5 mb st2.b * (pool S5 * (G * F))) * (pt sp (.cells #[.pointer (some ⟨mb, 0, none⟩), .int .i64 (n : Int)] 26 (0, 0)) * (pt k (.cells #[.pointer (some ⟨f, 0, none⟩), .int .i64 (n : Int), (.slice va vl vc), .bool true] 81 (0, 0)) * (batchA 113 5 S5 f c.rd st2.b.err st2.b.W st2.b.D * bitsA st1.bits (.slice va vl vc))))))) := h8.to (by unfold btA; ac_rfl)
          have e9 : w8.cell? ⟨eb, 0, none⟩ = some (.int .i64 0) := h9.front2.cell 0
          have g9 : w8.frozen? ⟨eb, 0, none⟩ = false := h9.front2.frozen 0
          have h10 := ((h9.front2.setCell 0 (.int .i64 0)).front2)
          have D9 := ((D14).drew.trans d8).setCell ⟨eb, 0, none⟩ (.int .i64 0)
          have HD := SL.hid D9; have H10 := SL.hid h10
          clear hjn s0 k0 k01 h8 h9 h10 D9 hHeld d8
          go_wp2_with (first | (refine wpList_load_mid (by exact rfl) 144 (.tmp 4) (by exact rfl) ab 0 (by exact rfl) [] _ (by exact fun j v h => by cases h) Tryz.underlying144 rfl (by exact info_unit) ?_) | (refine wpList_store_mid (by exact rfl) 144 (.tmp 4) (.tmp 49) (by exact rfl) ab 0 #[] (by exact rfl) (by exact rfl) (by exact fun j h => absurd h (Nat.not_lt_zero _)) (by exact info_unit) (by exact rfl) ?_))
          exact doorU_ret rfl rfl H10.out fun w' h11 d11 => HQ.out _ _ (by rw [HE.out]; exact ⟨S5, _, hS1.trans (hE3.trans hS5), HD.out.trans d11, rfl, Sat.fact_iff.2 ⟨rfl, (h11.left).to (by ac_rfl)⟩⟩)
end
end Go.Proofs.YtaoohjeaaccnfaaGreat.Fs
namespace Go.Proofs.YtaoohjeaaccnfaaGreat.Fs
set_option linter.unusedVariables false
set_option linter.unusedSimpArgs false
open Go.RowKit Go.SL Go.Proofs.YtaoohjeaaccnfaaGreat.Ba
section
variable {σ α : Type}
set_option maxRecDepth 100000 in
set_option maxHeartbeats 2000000 in
theorem runN_ret (w : World) (pa : Nat) (pe : Addr) :
    CallsD Tryz.prog 72 #[.pointer (some ⟨pa, 0, none⟩), .pointer (some pe)] .returning w fun e u w' => e = .returned (.tuple #[]) ∧ u = .returning ∧ w' = w.alloc (.cells #[.int .i64 0, .int .i64 0, .int .i64 0, .int .i64 0, .int .i64 0, .int .i64 0, .int .i64 0, .int .i64 0, .int .i64 0, .int .i64 0, .int .i64 0, .int .i64 0, .int .i64 0, .int .i64 0, .int .i64 0, .int .i64 0, .int .i64 0, .int .i64 0, .int .i64 0, .int .i64 0] 35 (0, 0)) := by
  refine callsD_of_wpS Tryz.func72 rfl fun c₀ cs hu => ?_
  apply wpS_seq
  refine wpS_of_wp ?_
  simp only [Tryz.ntmps72, List.size_toArray, List.length_cons, List.length_nil, Nat.reduceAdd, Nat.reduceSub, Array.replicate_succ,
     Array.replicate_zero, List.push_toArray, List.append_toArray, List.nil_append, List.cons_append]
  go_wp2
  simp only [Exit.thenS]
  apply wpS_seq
  apply wpS_region
  simp [wpOpsS, go_sem, recoverD, hu, Exit.thenS]
  refine wpS_of_wp ?_
  go_wp2
  cases c₀
  simp_all [bodyPostS, results, Tryz.results72]
  try rfl
set_option maxRecDepth 100000 in
set_option maxHeartbeats 2000000 in
theorem runN_pan (w : World) (ab eb : Nat) (Y : Array Value) (hY : Y.size = 20) (c y : Int) (older : List PanicEntry) (P : Assn) (h : Sat w (pt ab (.cells Y 35 (0, 0)) * (pt eb (.cells #[.int .i64 y] 29 (0, 0)) * P))) :
    CallsD Tryz.prog 72 #[.pointer (some ⟨ab, 0, none⟩), .pointer (some ⟨eb, 0, none⟩)] (.panicking ({ v := .iface 123 (.int .i64 c), recovered := false } :: older)) w fun e u w' =>
      e = .returned (.tuple #[]) ∧ u = .panicking ({ v := .iface 123 (.int .i64 c), recovered := true } :: older) ∧ Sat w' (pt ab (.cells #[.int .i64 0, .int .i64 0, .int .i64 0, .int .i64 0, .int .i64 0, .int .i64 0, .int .i64 0, .int .i64 0, .int .i64 0, .int .i64 0, .int .i64 0, .int .i64 0, .int .i64 0, .int .i64 0, .int .i64 0, .int .i64 0, .int .i64 0, .int .i64 0, .int .i64 0, .int .i64 0] 35 (0, 0)) * (pt eb (.cells #[.int .i64 c] 29 (0, 0)) * P)) ∧ Side w w' := by
  refine callsD_of_wpS Tryz.func72 rfl fun c₀ cs hu => ?_
  apply wpS_seq
  refine wpS_of_wp ?_
  simp only [Tryz.ntmps72, List.size_toArray, List.length_cons, List.length_nil, Nat.reduceAdd, Nat.reduceSub, Array.replicate_succ,
     Array.replicate_zero, List.push_toArray, List.append_toArray, List.nil_append, List.cons_append]
  go_wp2
  simp only [Exit.thenS]
  apply wpS_seq
  apply wpS_region
  simp [wpOpsS, go_sem, recoverD, hu, Exit.thenS]
  refine wpS_of_wp ?_
  have hta := assert_fault (.int .i64 c)
  have hA := h.alloc (.cells #[.int .i64 0, .int .i64 0, .int .i64 0, .int .i64 0, .int .i64 0, .int .i64 0, .int .i64 0, .int .i64 0, .int .i64 0, .int .i64 0, .int .i64 0, .int .i64 0, .int .i64 0, .int .i64 0, .int .i64 0, .int .i64 0, .int .i64 0, .int .i64 0, .int .i64 0, .int .i64 0] 35 (0, 0))
  have D1 := (Side.refl w).alloc (.cells #[.int .i64 0, .int .i64 0, .int .i64 0, .int .i64 0, .int .i64 0, .int .i64 0, .int .i64 0, .int .i64 0, .int .i64 0, .int .i64 0, .int .i64 0, .int .i64 0, .int .i64 0, .int .i64 0, .int .i64 0, .int .i64 0, .int .i64 0, .int .i64 0, .int .i64 0, .int .i64 0] 35 (0, 0))
  have hx := hA.heap
  have hx2 := hA.front2.heap
  have hB := hA.front2.setRow (cs' := #[.int .i64 0, .int .i64 0, .int .i64 0, .int .i64 0, .int .i64 0, .int .i64 0, .int .i64 0, .int .i64 0, .int .i64 0, .int .i64 0, .int .i64 0, .int .i64 0, .int .i64 0, .int .i64 0, .int .i64 0, .int .i64 0, .int .i64 0, .int .i64 0, .int .i64 0, .int .i64 0])
  have D2 := SL.hid (((D1.setRow ab #[.int .i64 0, .int .i64 0, .int .i64 0, .int .i64 0, .int .i64 0, .int .i64 0, .int .i64 0, .int .i64 0, .int .i64 0, .int .i64 0, .int .i64 0, .int .i64 0, .int .i64 0, .int .i64 0, .int .i64 0, .int .i64 0, .int .i64 0, .int .i64 0, .int .i64 0, .int .i64 0])).setCell ⟨eb, 0, none⟩ (.int .i64 c))
  have hC := (hB.front3.setCell 0 (.int .i64 c))
  generalize w.alloc (.cells #[.int .i64 0, .int .i64 0, .int .i64 0, .int .i64 0, .int .i64 0, .int .i64 0, .int .i64 0, .int .i64 0, .int .i64 0, .int .i64 0, .int .i64 0, .int .i64 0, .int .i64 0, .int .i64 0, .int .i64 0, .int .i64 0, .int .i64 0, .int .i64 0, .int .i64 0, .int .i64 0] 35 (0, 0)) = w1 at *
  generalize w.heap.size = nb at *
  have e1 := hB.front3.cell 0
  have f1 := hB.front3.frozen 0
  have Hx := SL.hid hx; have Hx2 := SL.hid hx2; have HC := SL.hid hC
  clear h hA hB hC D1 hx hx2
  go_wp2_with (first | (refine wpList_load_row (by exact rfl) 35 (.tmp 2) (by exact rfl) nb (by exact rfl) 35 #[.int .i64 0, .int .i64 0, .int .i64 0, .int .i64 0, .int .i64 0, .int .i64 0, .int .i64 0, .int .i64 0, .int .i64 0, .int .i64 0, .int .i64 0, .int .i64 0, .int .i64 0, .int .i64 0, .int .i64 0, .int .i64 0, .int .i64 0, .int .i64 0, .int .i64 0, .int .i64 0] (0, 0) _ (by with_reducible exact Hx.out) Tryz.underlying35 rfl info_node0 ?_) | (refine wpList_store_row (by exact rfl) 35 (.tmp 0) (.tmp 12) (by exact rfl) ab #[.int .i64 0, .int .i64 0, .int .i64 0, .int .i64 0, .int .i64 0, .int .i64 0, .int .i64 0, .int .i64 0, .int .i64 0, .int .i64 0, .int .i64 0, .int .i64 0, .int .i64 0, .int .i64 0, .int .i64 0, .int .i64 0, .int .i64 0, .int .i64 0, .int .i64 0, .int .i64 0] (by exact rfl) (by exact rfl) 35 Y (by with_reducible exact Hx2.out) info_node0 hY one20 ?_))
  exact ⟨rfl, _, rfl, _, results_none rfl _ _ _, rfl, rfl, (HC.out.to (by ac_rfl : _ = pt nb (.cells #[.int .i64 0, .int .i64 0, .int .i64 0, .int .i64 0, .int .i64 0, .int .i64 0, .int .i64 0, .int .i64 0, .int .i64 0, .int .i64 0, .int .i64 0, .int .i64 0, .int .i64 0, .int .i64 0, .int .i64 0, .int .i64 0, .int .i64 0, .int .i64 0, .int .i64 0, .int .i64 0] 35 (0, 0)) * (pt ab (.cells #[.int .i64 0, .int .i64 0, .int .i64 0, .int .i64 0, .int .i64 0, .int .i64 0, .int .i64 0, .int .i64 0, .int .i64 0, .int .i64 0, .int .i64 0, .int .i64 0, .int .i64 0, .int .i64 0, .int .i64 0, .int .i64 0, .int .i64 0, .int .i64 0, .int .i64 0, .int .i64 0] 35 (0, 0)) * (pt eb (.cells #[.int .i64 c] 29 (0, 0)) * P)))).right, D2.out⟩
theorem runN_results {w : World} {tmps : Array Value} {a b : Nat} {e : Value} {X : Array Value} {F : Assn} (h4 : tmps[4]? = some (ptV a)) (h5 : tmps[5]? = some (ptV b)) (ha : Sat w (pt a (.cells X 35 (0, 0)) * F)) (hX : X.size = 20) (hb : w.cell? ⟨b, 0, none⟩ = some e) :
    (results Tryz.f33 tmps).run Tryz.prog w = .ok (.tuple #[.agg X, e]) w := by
  have hl := run_loadVar_row (P := Tryz.prog) w a 35 35 X (0, 0) _ ha.heap Tryz.underlying35 rfl (by rw [hX]; exact info_node0)
  have hp : tmps.getD 4 undef = .pointer (some ⟨a, 0, none⟩) := by simp [h4]
  have hp5 : tmps.getD 5 undef = .pointer (some ⟨b, 0, none⟩) := by simp [h5]
  have hl5 : (loadVar 29 ⟨b, 0, none⟩).run Tryz.prog w = .ok e w := by simp [go_sem, hb]
  simp [results, Tryz.results33, h4, h5, asAddr, hl, hl5]
theorem doorN_pan {w : World} {tmps : Array Value} {ab eb : Nat} {Y : Array Value} {z c : Int} {P : Assn} {R : Ending → World → Prop} (h4 : tmps[4]? = some (ptV ab)) (h5 : tmps[5]? = some (ptV eb))
    (h : Sat w (pt ab (.cells Y 35 (0, 0)) * (pt eb (.cells #[.int .i64 z] 29 (0, 0)) * P))) (hY : Y.size = 20) (hR : ∀ w', Sat w' P → Side w w' → R (.returned (.tuple #[.agg #[.int .i64 0, .int .i64 0, .int .i64 0, .int .i64 0, .int .i64 0, .int .i64 0, .int .i64 0, .int .i64 0, .int .i64 0, .int .i64 0, .int .i64 0, .int .i64 0, .int .i64 0, .int .i64 0, .int .i64 0, .int .i64 0, .int .i64 0, .int .i64 0, .int .i64 0, .int .i64 0], .int .i64 c])) w') :
    bodyPostD Tryz.prog Tryz.f33 R (Exit.panic (flt c)) { tmps := tmps, defers := [{ target := .fn (.func 72) #[.pointer (some ⟨ab, 0, none⟩), .pointer (some ⟨eb, 0, none⟩)], args := #[] }] } w := by
  refine leaves_cons (f := 72) (args := #[.pointer (some ⟨ab, 0, none⟩), .pointer (some ⟨eb, 0, none⟩)]) (by simp) (by simp [go_sem]) ?_
  refine (runN_pan w ab eb Y hY c z [] P h).mono ?_
  rintro e u w7 ⟨rfl, rfl, h11, d11⟩
  exact ⟨_, runN_results h4 h5 h11 rfl (h11.front2.cell 0), hR _ h11.right.right d11⟩
theorem doorN_ret {w : World} {tmps : Array Value} {ab eb : Nat} {X : Array Value} {z : Int} {P : Assn} {R : Ending → World → Prop} (h4 : tmps[4]? = some (ptV ab)) (h5 : tmps[5]? = some (ptV eb))
    (h : Sat w (pt ab (.cells X 35 (0, 0)) * (pt eb (.cells #[.int .i64 z] 29 (0, 0)) * P))) (hX : X.size = 20) (hR : ∀ w', Sat w' P → Side w w' → R (.returned (.tuple #[.agg X, .int .i64 z])) w') :
    bodyPostD Tryz.prog Tryz.f33 R Exit.ret { tmps := tmps, defers := [{ target := .fn (.func 72) #[.pointer (some ⟨ab, 0, none⟩), .pointer (some ⟨eb, 0, none⟩)], args := #[] }] } w := by
  refine leaves_cons (f := 72) (args := #[.pointer (some ⟨ab, 0, none⟩), .pointer (some ⟨eb, 0, none⟩)]) (by simp) (by simp [go_sem]) ?_
  refine (runN_ret w ab ⟨eb, 0, none⟩).mono ?_
  rintro e u w7 ⟨rfl, rfl, rfl⟩
  have h11 := (h.alloc (.cells #[.int .i64 0, .int .i64 0, .int .i64 0, .int .i64 0, .int .i64 0, .int .i64 0, .int .i64 0, .int .i64 0, .int .i64 0, .int .i64 0, .int .i64 0, .int .i64 0, .int .i64 0, .int .i64 0, .int .i64 0, .int .i64 0, .int .i64 0, .int .i64 0, .int .i64 0, .int .i64 0] 35 (0, 0))).right
  exact ⟨_, runN_results h4 h5 h11 hX (h11.front2.cell 0), hR _ h11.right.right ((Side.refl w).alloc _)⟩
def nodeR (a : Nd) (v : Value) : Assn := fact (v = a.v ∧ a.dr.length = 16)
set_option maxRecDepth 100000 in
set_option maxHeartbeats 4000000 in
theorem runN_any (c : Cx σ) (hc : c.Ok) (n : Nat) (hn1 : 4 ≤ n) (hn2 : n ≤ 3840) (jf : FuncId) (caps : Array Value) (G : Assn) (m : WM σ Nd)
    (hcf : ∀ (args : Array Value) (w : World), (callFunc jf args).run Tryz.prog w = .ok (.enter jf args) w) (hj : Job c n jf caps nodeR G m)
    (mb : Nat) (M : Bst σ) (w : World) (S : Hp) (F : Assn) (h : Sat w (btA c S mb M * (pool S * (G * F)))) (Q : Ending → World → Prop)
    (hQ : ∀ e w', RunQ c mb (.agg #[.int .i64 0, .int .i64 0, .int .i64 0, .int .i64 0, .int .i64 0, .int .i64 0, .int .i64 0, .int .i64 0, .int .i64 0, .int .i64 0, .int .i64 0, .int .i64 0, .int .i64 0, .int .i64 0, .int .i64 0, .int .i64 0, .int .i64 0, .int .i64 0, .int .i64 0, .int .i64 0]) nodeR S (G * F) w (wrun m M) e w' → Q e w') :
    Calls Tryz.prog 33 #[spV mb n, .func (.func jf) #[] caps] w Q := by
  have HQ := SL.hid hQ
  clear hQ
  have hmf : ∀ (fn : Fn) (first cap : Array Value) (w : World), (Instr.makeFunc fn first cap).run Tryz.prog w = .ok (.func fn first cap) w := fun _ _ _ _ => rfl
  have hn1' : ¬ ((n : Int) < 4) := by omega
  have hn2' : ¬ ((n : Int) > 3840) := by omega
  have Hj := SL.hid hj
  unfold spV
  go_enter_defers Tryz.func33, Tryz.ntmps33
  have H3 := ((h.alloc (.cells #[.pointer (some ⟨mb, 0, none⟩), .int .i64 (n : Int)] 26 (0, 0))).alloc (.cells #[.int .i64 0, .int .i64 0, .int .i64 0, .int .i64 0, .int .i64 0, .int .i64 0, .int .i64 0, .int .i64 0, .int .i64 0, .int .i64 0, .int .i64 0, .int .i64 0, .int .i64 0, .int .i64 0, .int .i64 0, .int .i64 0, .int .i64 0, .int .i64 0, .int .i64 0, .int .i64 0] 35 (0, 0))).alloc (.cells #[.int .i64 0] 29 (0, 0))
  have D3 := (((Side.refl w).alloc (.cells #[.pointer (some ⟨mb, 0, none⟩), .int .i64 (n : Int)] 26 (0, 0))).alloc (.cells #[.int .i64 0, .int .i64 0, .int .i64 0, .int .i64 0, .int .i64 0, .int .i64 0, .int .i64 0, .int .i64 0, .int .i64 0, .int .i64 0, .int .i64 0, .int .i64 0, .int .i64 0, .int .i64 0, .int .i64 0, .int .i64 0, .int .i64 0, .int .i64 0, .int .i64 0, .int .i64 0] 35 (0, 0))).alloc (.cells #[.int .i64 0] 29 (0, 0))
  simp only [World.size_alloc] at H3
  go_wp2_with fail
  generalize ((w.alloc (.cells #[.pointer (some ⟨mb, 0, none⟩), .int .i64 (n : Int)] 26 (0, 0))).alloc (.cells #[.int .i64 0, .int .i64 0, .int .i64 0, .int .i64 0, .int .i64 0, .int .i64 0, .int .i64 0, .int .i64 0, .int .i64 0, .int .i64 0, .int .i64 0, .int .i64 0, .int .i64 0, .int .i64 0, .int .i64 0, .int .i64 0, .int .i64 0, .int .i64 0, .int .i64 0, .int .i64 0] 35 (0, 0))).alloc (.cells #[.int .i64 0] 29 (0, 0)) = w3 at H3 D3 ⊢
  clear h
  generalize w.heap.size + 1 + 1 = eb at *
  generalize w.heap.size + 1 = ab at *
  generalize w.heap.size = sp at *
  have s0 : w3.cell? ⟨sp, 0, none⟩ = some (.pointer (some ⟨mb, 0, none⟩)) := H3.front3.cell 0
  have s1 : w3.cell? ⟨sp, 1, none⟩ = some (.int .i64 (n : Int)) := H3.front3.cell 1
  have h9 : Sat w3 (batchA 113 5 S mb c.rd M.err M.W M.D * (pool S * (c.RI M.s * (pt eb (.cells #[.int .i64 0] 29 (0, 0)) * (pt ab (.cells #[.int .i64 0, .int .i64 0, .int .i64 0, .int .i64 0, .int .i64 0, .int .i64 0, .int .i64 0, .int .i64 0, .int .i64 0, .int .i64 0, .int .i64 0, .int .i64 0, .int .i64 0, .int .i64 0, .int .i64 0, .int .i64 0, .int .i64 0, .int .i64 0, .int .i64 0, .int .i64 0] 35 (0, 0)) * (pt sp (.cells #[.pointer (some ⟨mb, 0, none⟩), .int .i64 (n : Int)] 26 (0, 0)) * (G * F))))))) := H3.to (by unfold btA; ac_rfl)
  have hfk := fork_any w3.drew S mb c.rd M.err M.W M.D _ h9.drew ⟨_, _, rfl⟩
  have Hfk := SL.hid hfk
  clear hfk
  go_region_held3 (fun w' => w'.cell? ⟨sp, 0, none⟩ = some (.pointer (some ⟨mb, 0, none⟩)) ∧ w'.cell? ⟨sp, 1, none⟩ = some (.int .i64 (n : Int)))
    (first | exact ⟨s0, s1⟩ | exact k01 | go_keep)
    (first | (go_at_call 28; refine (Hfk.out).mono ?_; rintro e w4 ⟨S1, f, hS1, rfl, h4, d4⟩; have k01 : w4.cell? ⟨sp, 0, none⟩ = some (.pointer (some ⟨mb, 0, none⟩)) ∧ w4.cell? ⟨sp, 1, none⟩ = some (.int .i64 (n : Int)) := ⟨h4.front7.cell 0, h4.front7.cell 1⟩))
  have D5 := (D3.drew.trans d4).alloc (.cells #[.pointer (some ⟨f, 0, none⟩), .int .i64 (n : Int), .slice none 0 0, .bool false] 81 (0, 0))
  have H5 := h4.alloc (.cells #[.pointer (some ⟨f, 0, none⟩), .int .i64 (n : Int), .slice none 0 0, .bool false] 81 (0, 0))
  have H5' : Sat (w4.alloc (.cells #[.pointer (some ⟨f, 0, none⟩), .int .i64 (n : Int), .slice none 0 0, .bool false] 81 (0, 0))) (workA (⟨c, n, w4.heap.size, f⟩ : Wk σ) S1 ⟨M, none, false⟩ * (pool S1 * (G * (batchA 113 5 S1 mb c.rd M.err M.W M.D * (pt eb (.cells #[.int .i64 0] 29 (0, 0)) * (pt ab (.cells #[.int .i64 0, .int .i64 0, .int .i64 0, .int .i64 0, .int .i64 0, .int .i64 0, .int .i64 0, .int .i64 0, .int .i64 0, .int .i64 0, .int .i64 0, .int .i64 0, .int .i64 0, .int .i64 0, .int .i64 0, .int .i64 0, .int .i64 0, .int .i64 0, .int .i64 0, .int .i64 0] 35 (0, 0)) * (pt sp (.cells #[.pointer (some ⟨mb, 0, none⟩), .int .i64 (n : Int)] 26 (0, 0)) * F))))))) :=
    workNew (H5.to (by ac_rfl))
  have hjb := Hj.out ⟨c, n, w4.heap.size, f⟩ _ S1 ⟨M, none, false⟩ _ rfl rfl H5'
  rename_i hHeld
  clear s0 s1 h9 Hfk k01 hHeld D3 d4 h4 H5 H5' Hj hj H3
  generalize w4.alloc (.cells #[.pointer (some ⟨f, 0, none⟩), .int .i64 (n : Int), .slice none 0 0, .bool false] 81 (0, 0)) = w5 at *
  generalize w4.heap.size = k at *
  obtain ⟨⟨r, st1⟩, hp⟩ : ∃ p, m ⟨M, none, false⟩ = p := ⟨_, rfl⟩
  rw [hp] at hjb
  cases r with
  | bad cN =>
    have HE := SL.hid (wrun_bad hp)
    clear hp
    go_wp2_with fail
    (with_reducible refine hjb.mono ?_)
    rintro e w6 ⟨S2, hS2, d6, rfl, h6⟩
    have h7 := workOut h6
    have h8 : Sat w6 (c.RI st1.b.s * (batchA 113 5 S1 mb c.rd M.err M.W M.D * (pt eb (.cells #[.int .i64 0] 29 (0, 0)) * (pt ab (.cells #[.int .i64 0, .int .i64 0, .int .i64 0, .int .i64 0, .int .i64 0, .int .i64 0, .int .i64 0, .int .i64 0, .int .i64 0, .int .i64 0, .int .i64 0, .int .i64 0, .int .i64 0, .int .i64 0, .int .i64 0, .int .i64 0, .int .i64 0, .int .i64 0, .int .i64 0, .int .i64 0] 35 (0, 0)) * (pool S2 * (G * F)))))) :=
      (h7.to (by ac_rfl : _ = pt sp (.cells #[.pointer (some ⟨mb, 0, none⟩), .int .i64 (n : Int)] 26 (0, 0)) * (c.RI st1.b.s * (batchA 113 5 S1 mb c.rd M.err M.W M.D * (pt eb (.cells #[.int .i64 0] 29 (0, 0)) * (pt ab (.cells #[.int .i64 0, .int .i64 0, .int .i64 0, .int .i64 0, .int .i64 0, .int .i64 0, .int .i64 0, .int .i64 0, .int .i64 0, .int .i64 0, .int .i64 0, .int .i64 0, .int .i64 0, .int .i64 0, .int .i64 0, .int .i64 0, .int .i64 0, .int .i64 0, .int .i64 0, .int .i64 0] 35 (0, 0)) * (pool S2 * (G * F)))))))).right
    have h9 := btMain hS2 h8
    have h10 : Sat w6 (pt ab (.cells #[.int .i64 0, .int .i64 0, .int .i64 0, .int .i64 0, .int .i64 0, .int .i64 0, .int .i64 0, .int .i64 0, .int .i64 0, .int .i64 0, .int .i64 0, .int .i64 0, .int .i64 0, .int .i64 0, .int .i64 0, .int .i64 0, .int .i64 0, .int .i64 0, .int .i64 0, .int .i64 0] 35 (0, 0)) * (pt eb (.cells #[.int .i64 0] 29 (0, 0)) * (btA c S2 mb { M with s := st1.b.s } * (pool S2 * (G * F))))) := h9.to (by ac_rfl)
    go_wp2_with fail
    exact doorN_pan rfl rfl h10 rfl fun w' h11 d11 => HQ.out _ _ (by rw [HE.out]; exact ⟨S2, hS1.trans hS2, (D5.trans d6).trans d11, rfl, h11⟩)
  | ok a =>
    go_wp2_with fail
    (with_reducible refine hjb.mono ?_)
    rintro e w6 ⟨S2, v6, hS2, d6, rfl, h6⟩
    obtain ⟨⟨rfl, h16⟩, h7⟩ := Sat.fact_iff.1 h6
    have hav : a.v = .agg (ints a.l) := rfl
    have hX : (ints a.l).size = 20 := by rw [size_ints, Nd.cells h16]
    have hone : (ints a.l).all (·.oneCell') = true := by simp [ints, Value.oneCell']
    have hfinR : ∀ w (P : Assn), Sat w P → Sat w (nodeR a (.agg (ints a.l)) * P) := fun w P h => Sat.fact_iff.2 ⟨⟨rfl, h16⟩, h⟩
    rw [hav]
    clear h16 h6 hav
    generalize ints a.l = X at *
    have hinf : (Tryz.prog.info? 35).map (·.size) = some X.size := by rw [hX]; exact info_node0
    have Hinf := SL.hid hinf; have Hone := SL.hid hone; have HX := SL.hid hX; have HfinR := SL.hid hfinR
    clear hinf hone hX hfinR
    obtain ⟨bv, h8⟩ := Sat.workOpen h7
    clear hjb h7
    have h9 : Sat w6 (pt ab (.cells #[.int .i64 0, .int .i64 0, .int .i64 0, .int .i64 0, .int .i64 0, .int .i64 0, .int .i64 0, .int .i64 0, .int .i64 0, .int .i64 0, .int .i64 0, .int .i64 0, .int .i64 0, .int .i64 0, .int .i64 0, .int .i64 0, .int .i64 0, .int .i64 0, .int .i64 0, .int .i64 0] 35 (0, 0)) * (pt eb (.cells #[.int .i64 0] 29 (0, 0)) * (pt sp (.cells #[.pointer (some ⟨mb, 0, none⟩), .int .i64 (n : Int)] 26 (0, 0)) * (pt k (.cells #[.pointer (some ⟨f, 0, none⟩), .int .i64 (n : Int), bv, .bool st1.dt] 81 (0, 0)) * (btA c S2 f st1.b * (bitsA st1.bits bv * (pool S2 * (batchA 113 5 S1 mb c.rd M.err M.W M.D * (G * F))))))))) := h8.to (by unfold workX Wk.cells; ac_rfl)
    have Hz6 := SL.hid h9.heap
    have h10 := h9.setRow (cs' := X)
    have D10 := (D5.trans d6).setRow ab X
    have k3 : (w6.setRow ab X).cell? ⟨k, 3, none⟩ = some (.bool st1.dt) := h10.front4.cell 3
    clear h8 h9 D5 d6
    cases hdt : st1.dt with
    | false =>
      have HE := SL.hid (wrun_ok hp hdt)
      rw [hdt] at k3 h10
      clear hp hdt
      go_wp2_with (refine wpList_store_row (by exact rfl) 35 (.tmp 4) (.tmp 31) (by exact rfl) ab X (by exact rfl) (by exact rfl) 35 _ (by with_reducible exact Hz6.out) Hinf.out (by rw [HX.out]; rfl) Hone.out ?_)
      generalize w6.setRow ab X = w7 at *
      have hj9 : Sat w7 (batchA 113 5 S1 mb c.rd M.err M.W M.D * (batchA 113 5 S2 f c.rd st1.b.err st1.b.W st1.b.D * (pool S2 * (c.RI st1.b.s * (pt ab (.cells X 35 (0, 0)) * (pt eb (.cells #[.int .i64 0] 29 (0, 0)) * (pt sp (.cells #[.pointer (some ⟨mb, 0, none⟩), .int .i64 (n : Int)] 26 (0, 0)) * (pt k (.cells #[.pointer (some ⟨f, 0, none⟩), .int .i64 (n : Int), bv, .bool false] 81 (0, 0)) * (bitsA st1.bits bv * (G * F)))))))))) := h10.to (by unfold btA; ac_rfl)
      have hj10 := hj9.weak (batchA_mono hS2)
      have s0 : w7.cell? ⟨sp, 0, none⟩ = some (.pointer (some ⟨mb, 0, none⟩)) := hj10.front7.cell 0
      have k0 : w7.cell? ⟨k, 0, none⟩ = some (.pointer (some ⟨f, 0, none⟩)) := hj10.front8.cell 0
      have hjn := SL.hid (join_any w7.drew S2 mb f c.rd c.rd st1.b.err M.err st1.b.W st1.b.D M.W M.D _ hj10.drew ⟨_, _, rfl⟩)
      clear hj9 hj10 h10
      go_region_held3 (fun w' => w'.cell? ⟨sp, 0, none⟩ = some (.pointer (some ⟨mb, 0, none⟩)) ∧ w'.cell? ⟨k, 0, none⟩ = some (.pointer (some ⟨f, 0, none⟩)))
        (first | exact ⟨s0, k0⟩ | exact k01 | go_keep)
        (first | (go_at_call 31; refine (hjn.out).mono ?_; rintro e w8 ⟨S3, hS3, rfl, h8, d8⟩; have k01 : w8.cell? ⟨sp, 0, none⟩ = some (.pointer (some ⟨mb, 0, none⟩)) ∧ w8.cell? ⟨k, 0, none⟩ = some (.pointer (some ⟨f, 0, none⟩)) := ⟨h8.front7.cell 0, h8.front8.cell 0⟩))
      all_goals
        rename_i hHeld
        have h9 : Sat w8 (pt ab (.cells X 35 (0, 0)) * (pt eb (.cells #[.int .i64 0] 29 (0, 0)) * ((btA c S3 mb st1.b * (pool S3 * (G * F))) * (pt sp (.cells #[.pointer (some ⟨mb, 0, none⟩), .int .i64 (n : Int)] 26 (0, 0)) * (pt k (.cells #[.pointer (some ⟨f, 0, none⟩), .int .i64 (n : Int), bv, .bool false] 81 (0, 0)) * (batchA 113 5 S3 f c.rd st1.b.err st1.b.W st1.b.D * bitsA st1.bits bv)))))) := h8.to (by unfold btA; ac_rfl)
        have Hz8 := SL.hid h9.heap
        have h9r := h9.setRow (cs' := X)
        have e9 : (w8.setRow ab X).cell? ⟨eb, 0, none⟩ = some (.int .i64 0) := h9r.front2.cell 0
        have g9 : (w8.setRow ab X).frozen? ⟨eb, 0, none⟩ = false := h9r.front2.frozen 0
        have h10 := ((h9r.front2.setCell 0 (.int .i64 0)).front2)
        have D9 := (((D10).drew.trans d8).setRow ab X).setCell ⟨eb, 0, none⟩ (.int .i64 0)
        have HD := SL.hid D9; have H10 := SL.hid h10
        clear hjn s0 k0 k01 h8 h9 h9r h10 D9 hHeld d8
        go_wp2_with (first | (refine wpList_load_row (by exact rfl) 35 (.tmp 4) (by exact rfl) ab (by exact rfl) 35 X (0, 0) _ (by with_reducible exact Hz8.out) Tryz.underlying35 rfl Hinf.out ?_) | (refine wpList_store_row (by exact rfl) 35 (.tmp 4) (.tmp 49) (by exact rfl) ab X (by exact rfl) (by exact rfl) 35 X (by with_reducible exact Hz8.out) Hinf.out rfl Hone.out ?_))
        exact doorN_ret rfl rfl H10.out HX.out fun w' h11 d11 => HQ.out _ _ (by rw [HE.out]; exact ⟨S3, _, hS1.trans (hS2.trans hS3), HD.out.trans d11, rfl, HfinR.out _ _ ((h11.left).to (by ac_rfl))⟩)
    | true =>
      have HE1 := fun st' => wrun_wr (st' := st') hp hdt
      have HE2 := fun st' c => wrun_wb (st' := st') (c := c) hp hdt
      have HE1 := SL.hid HE1; have HE2 := SL.hid HE2
      rw [hdt] at k3 h10
      have k2 : (w6.setRow ab X).cell? ⟨k, 2, none⟩ = some bv := h10.front4.cell 2
      have hrb : Rd (w6.setRow ab X) bv (st1.bits.getD []) := bitsRd h10.front6
      have h11 : Sat (w6.setRow ab X) (workX (⟨c, n, k, f⟩ : Wk σ) bv S2 st1 * (pool S2 * (pt ab (.cells X 35 (0, 0)) * (pt eb (.cells #[.int .i64 0] 29 (0, 0)) * (pt sp (.cells #[.pointer (some ⟨mb, 0, none⟩), .int .i64 (n : Int)] 26 (0, 0)) * (bitsA st1.bits bv * (batchA 113 5 S1 mb c.rd M.err M.W M.D * (G * F)))))))) :=
        h10.to (by unfold workX Wk.cells; rw [hdt]; ac_rfl)
      have hwr := writeX_any (⟨c, n, k, f⟩ : Wk σ) _ bv S2 st1 0 bv (st1.bits.getD []) _ h11 hrb
      obtain ⟨va, vl, vc, rfl⟩ : ∃ a l c, bv = .slice a l c := by
        obtain ⟨a, c, e⟩ := hrb.shape; exact ⟨_, _, _, e⟩
      have hdt2 : ∀ st' r, wwrite 0 (st1.bits.getD []) st1 = (r, st') → st'.dt = true := fun st' r h => by
        unfold wwrite at h
        split at h
        · simp only [Prod.mk.injEq] at h; rw [← h.2]; exact hdt
        · simp only [Prod.mk.injEq] at h; rw [← h.2]; exact hdt
      obtain ⟨⟨r2, st2⟩, hp2⟩ : ∃ p, wwrite 0 (st1.bits.getD []) st1 = p := ⟨_, rfl⟩
      rw [hp2] at hwr
      have hdt3 := hdt2 _ _ hp2
      have Hdt3 := SL.hid hdt3
      clear hp hdt h11 hrb hdt2 hdt3
      cases r2 with
      | bad cN =>
        have HE := SL.hid (HE2.out _ _ hp2)
        clear hp2 HE1 HE2
        go_wp2_with (refine wpList_store_row (by exact rfl) 35 (.tmp 4) (.tmp 31) (by exact rfl) ab X (by exact rfl) (by exact rfl) 35 _ (by with_reducible exact Hz6.out) Hinf.out (by rw [HX.out]; rfl) Hone.out ?_)
        (with_reducible refine hwr.mono ?_)
        rintro e w8 ⟨S3, hS3, d8, rfl, h12⟩
        have h13 : Sat w8 (c.RI st2.b.s * (batchA 113 5 S1 mb c.rd M.err M.W M.D * (pt ab (.cells X 35 (0, 0)) * (pt eb (.cells #[.int .i64 0] 29 (0, 0)) * (pool S3 * (G * F)))))) :=
          (h12.to (by unfold workX btA; ac_rfl : _ = (pt k (.cells ((⟨c, n, k, f⟩ : Wk σ).cells (.slice va vl vc) st2.dt) 81 (0, 0)) * (batchA 113 5 S3 f c.rd st2.b.err st2.b.W st2.b.D * (pt sp (.cells #[.pointer (some ⟨mb, 0, none⟩), .int .i64 (n : Int)] 26 (0, 0)) * bitsA st1.bits (.slice va vl vc)))) * (c.RI st2.b.s * (batchA 113 5 S1 mb c.rd M.err M.W M.D * (pt ab (.cells X 35 (0, 0)) * (pt eb (.cells #[.int .i64 0] 29 (0, 0)) * (pool S3 * (G * F)))))))).right
        have h14 := btMain (hS2.trans hS3) h13
        have h15 : Sat w8 (pt ab (.cells X 35 (0, 0)) * (pt eb (.cells #[.int .i64 0] 29 (0, 0)) * (btA c S3 mb { M with s := st2.b.s } * (pool S3 * (G * F))))) := h14.to (by ac_rfl)
        go_wp2_with fail
        exact doorN_pan rfl rfl h15 HX.out fun w' h11 d11 => HQ.out _ _ (by rw [HE.out]; exact ⟨S3, hS1.trans (hS2.trans hS3), (D10.trans d8).trans d11, rfl, h11⟩)
      | ok u =>
        have HE := SL.hid (HE1.out _ hp2)
        clear hp2 HE1 HE2
        go_wp2_with (refine wpList_store_row (by exact rfl) 35 (.tmp 4) (.tmp 31) (by exact rfl) ab X (by exact rfl) (by exact rfl) 35 _ (by with_reducible exact Hz6.out) Hinf.out (by rw [HX.out]; rfl) Hone.out ?_)
        (with_reducible refine hwr.mono ?_)
        rintro e w7 ⟨S3, v8, hS3, d8, rfl, h12⟩
        obtain ⟨rfl, h13⟩ := Sat.fact_iff.1 h12
        have h14 : Sat w7 (pt ab (.cells X 35 (0, 0)) * (pt eb (.cells #[.int .i64 0] 29 (0, 0)) * (pt sp (.cells #[.pointer (some ⟨mb, 0, none⟩), .int .i64 (n : Int)] 26 (0, 0)) * (pt k (.cells #[.pointer (some ⟨f, 0, none⟩), .int .i64 (n : Int), (.slice va vl vc), .bool true] 81 (0, 0)) * (btA c S3 f st2.b * (bitsA st1.bits (.slice va vl vc) * (pool S3 * (batchA 113 5 S1 mb c.rd M.err M.W M.D * (G * F))))))))) := h13.to (by unfold workX Wk.cells; rw [Hdt3.out]; ac_rfl)
        have D14 := D10.trans d8
        have hE3 := hS2.trans hS3
        clear hwr h12 h13 D10 d8 h10 k2 k3
        go_wp2_with fail
        have hj9 : Sat w7 (batchA 113 5 S1 mb c.rd M.err M.W M.D * (batchA 113 5 S3 f c.rd st2.b.err st2.b.W st2.b.D * (pool S3 * (c.RI st2.b.s * (pt ab (.cells X 35 (0, 0)) * (pt eb (.cells #[.int .i64 0] 29 (0, 0)) * (pt sp (.cells #[.pointer (some ⟨mb, 0, none⟩), .int .i64 (n : Int)] 26 (0, 0)) * (pt k (.cells #[.pointer (some ⟨f, 0, none⟩), .int .i64 (n : Int), (.slice va vl vc), .bool true] 81 (0, 0)) * (bitsA st1.bits (.slice va vl vc) * (G * F)))))))))) := h14.to (by unfold btA; ac_rfl)
        have hj10 := hj9.weak (batchA_mono hE3)
        have s0 : w7.cell? ⟨sp, 0, none⟩ = some (.pointer (some ⟨mb, 0, none⟩)) := hj10.front7.cell 0
        have k0 : w7.cell? ⟨k, 0, none⟩ = some (.pointer (some ⟨f, 0, none⟩)) := hj10.front8.cell 0
        have hjn := SL.hid (join_any w7.drew S3 mb f c.rd c.rd st2.b.err M.err st2.b.W st2.b.D M.W M.D _ hj10.drew ⟨_, _, rfl⟩)
        clear hj9 hj10 h14
        go_region_held3 (fun w' => w'.cell? ⟨sp, 0, none⟩ = some (.pointer (some ⟨mb, 0, none⟩)) ∧ w'.cell? ⟨k, 0, none⟩ = some (.pointer (some ⟨f, 0, none⟩)))
          (first | exact ⟨s0, k0⟩ | exact k01 | go_keep)
          (first | (go_at_call 31; refine (hjn.out).mono ?_; rintro e w8 ⟨S5, hS5, rfl, h8, d8⟩; have k01 : w8.cell? ⟨sp, 0, none⟩ = some (.pointer (some ⟨mb, 0, none⟩)) ∧ w8.cell? ⟨k, 0, none⟩ = some (.pointer (some ⟨f, 0, none⟩)) := ⟨h8.front7.cell 0, h8.front8.cell 0⟩))
        all_goals
          rename_i hHeld
          have h9 : Sat w8 (pt ab (.cells X 35 (0, 0)) * (pt eb (.cells #[.int .i64 0] 29 (0, 0)) * ((btA c S5 mb st2.b * (pool S5 * (G * F))) * (pt sp (.cells #[.pointer (some ⟨mb, 0, none⟩), .int .i64 (n : Int)] 26 (0, 0)) * (pt k (.cells #[.pointer (some ⟨f, 0, none⟩), .int .i64 (n : Int), (.slice va vl vc), .bool true] 81 (0, 0)) * (batchA 113 5 S5 f c.rd st2.b.err st2.b.W st2.b.D * bitsA st1.bits (.slice va vl vc))))))) := h8.to (by unfold btA; ac_rfl)
          have Hz8 := SL.hid h9.heap
          have h9r := h9.setRow (cs' := X)
          have e9 : (w8.setRow ab X).cell? ⟨eb, 0, none⟩ = some (.int .i64 0) := h9r.front2.cell 0
          have g9 : (w8.setRow ab X).frozen? ⟨eb, 0, none⟩ = false := h9r.front2.frozen 0
          have h10 := ((h9r.front2.setCell 0 (.int .i64 0)).front2)
          have D9 := (((D14).drew.trans d8).setRow ab X).setCell ⟨eb, 0, none⟩ (.int .i64 0)
          have HD := SL.hid D9; have H10 := SL.hid h10
          clear hjn s0 k0 k01 h8 h9 h9r h10 D9 hHeld d8
          go_wp2_with (first | (refine wpList_load_row (by exact rfl) 35 (.tmp 4) (by exact rfl) ab (by exact rfl) 35 X (0, 0) _ (by with_reducible exact Hz8.out) Tryz.underlying35 rfl Hinf.out ?_) | (refine wpList_store_row (by exact rfl) 35 (.tmp 4) (.tmp 49) (by exact rfl) ab X (by exact rfl) (by exact rfl) 35 X (by with_reducible exact Hz8.out) Hinf.out rfl Hone.out ?_))
          exact doorN_ret rfl rfl H10.out HX.out fun w' h11 d11 => HQ.out _ _ (by rw [HE.out]; exact ⟨S5, _, hS1.trans (hE3.trans hS5), HD.out.trans d11, rfl, HfinR.out _ _ ((h11.left).to (by ac_rfl))⟩)
end
end Go.Proofs.YtaoohjeaaccnfaaGreat.Fs
namespace Go.SL
set_option linter.unusedVariables false
set_option linter.unusedSimpArgs false
open Go.RowKit
def Rs.code {α : Type} : Rs α → Int
  | .ok _ => 0
  | .bad c => c
end Go.SL
namespace Go.Proofs.YtaoohjeaaccnfaaGreat.Fs
set_option linter.unusedVariables false
set_option linter.unusedSimpArgs false
open Go.RowKit Go.SL Go.Proofs.YtaoohjeaaccnfaaGreat.Ba
section
variable {σ α : Type}
theorem doone_results {w : World} {tmps : Array Value} {a : Nat} {F : Assn} (h3 : tmps[3]? = some (ptV a)) (ha : Sat w (pt a (.cells #[] 144 (0, 0)) * F)) :
    (results Tryz.f94 tmps).run Tryz.prog w = .ok (.agg #[]) w := by
  have hl := run_loadVar_row (P := Tryz.prog) w a 144 144 #[] (0, 0) _ ha.heap Tryz.underlying144 rfl info_unit
  simp [results, Tryz.results94, h3, asAddr, hl]
def fnA (jb : Nat) (jf : FuncId) (caps : Array Value) : Assn := pt jb (.cells #[.func (.func jf) #[] caps] 103 (0, 0))
set_option maxRecDepth 100000 in
set_option maxHeartbeats 2000000 in
theorem doone_job {c : Cx σ} {n : Nat} {jf : FuncId} {caps : Array Value} {G : Assn} {m : WM σ Unit} (hcf : ∀ (args : Array Value) (w : World), (callFunc jf args).run Tryz.prog w = .ok (.enter jf args) w)
    (hj : Job c n jf caps unitR G m) (jb : Nat) : Job c n 94 #[.pointer (some ⟨jb, 0, none⟩)] voidR (fnA jb jf caps * G) m := by
  intro x w S st F hx1 hx2 h
  have hjb := fun w F h => hj x w S st F hx1 hx2 h
  have Hjb := SL.hid hjb
  have hA := h.alloc (.cells #[] 144 (0, 0))
  have dA := (Side.refl w).alloc (.cells #[] 144 (0, 0))
  clear hj h hjb hx1 hx2
  show Calls Tryz.prog 94 #[.pointer (some ⟨x.k, 0, none⟩), .pointer (some ⟨jb, 0, none⟩)] w _
  go_enter Tryz.func94, Tryz.ntmps94
  have hB : Sat (w.alloc (.cells #[] 144 (0, 0))) (fnA jb jf caps * (pt w.heap.size (.cells #[] 144 (0, 0)) * (workA x S st * (pool S * (G * F))))) := hA.to (by ac_rfl)
  have cj : (w.alloc (.cells #[] 144 (0, 0))).cell? ⟨jb, 0, none⟩ = some (.func (.func jf) #[] caps) := hB.cell 0
  have hC : Sat (w.alloc (.cells #[] 144 (0, 0))) (workA x S st * (pool S * (G * (fnA jb jf caps * (pt w.heap.size (.cells #[] 144 (0, 0)) * F))))) := hB.to (by ac_rfl)
  have hjb := Hjb.out _ _ hC
  clear Hjb hA hB hC
  obtain ⟨⟨r, st1⟩, hp⟩ : ∃ p, m st = p := ⟨_, rfl⟩
  rw [hp] at hjb ⊢
  clear hp
  cases r with
  | bad cN =>
    go_wp2_with fail
    generalize w.alloc (.cells #[] 144 (0, 0)) = w1 at *
    generalize w.heap.size = rb at *
    (with_reducible refine hjb.mono ?_)
    rintro e w2 ⟨S', hS, d2, rfl, h2⟩
    go_wp2_with fail
    exact ⟨rfl, S', hS, dA.trans d2, rfl, (h2.to (by ac_rfl : _ = pt rb (.cells #[] 144 (0, 0)) * (workA x S' st1 * (pool S' * (fnA jb jf caps * G * F))))).right⟩
  | ok u =>
    go_wp2_with fail
    generalize w.alloc (.cells #[] 144 (0, 0)) = w1 at *
    generalize w.heap.size = rb at *
    (with_reducible refine hjb.mono ?_)
    rintro e w2 ⟨S', v, hS, d2, rfl, h2⟩
    obtain ⟨rfl, h3⟩ := Sat.fact_iff.1 h2
    have h4 : Sat w2 (pt rb (.cells #[] 144 (0, 0)) * (workA x S' st1 * (pool S' * (fnA jb jf caps * G * F)))) := h3.to (by ac_rfl)
    have H4 := SL.hid h4
    clear h2 h3 h4 hjb cj
    go_wp2_with (refine wpList_store_mid (by exact rfl) 144 (.tmp 3) (.tmp 7) (by exact rfl) rb 0 #[] (by exact rfl) (by exact rfl) (by exact fun j h => absurd h (Nat.not_lt_zero _)) (by exact info_unit) (by exact rfl) ?_)
    exact bodyPost_ret (doone_results rfl H4.out) rfl ⟨S', _, hS, dA.trans d2, rfl, Sat.fact_iff.2 ⟨rfl, H4.out.right⟩⟩
/-- What do comes to. -/
def DoQ (c : Cx σ) (mb : Nat) (S : Hp) (F : Assn) (w : World) (p : Rs Unit × Bst σ) (e : Ending) (w' : World) : Prop :=
  ∃ S', Ext S S' ∧ Side w w' ∧ e = .returned (.int .i64 p.1.code) ∧ Sat w' (btA c S' mb p.2 * (pool S' * F))
set_option maxRecDepth 100000 in
set_option maxHeartbeats 2000000 in
theorem do_any (c : Cx σ) (hc : c.Ok) (n : Nat) (hn1 : 4 ≤ n) (hn2 : n ≤ 3840) (jf : FuncId) (caps : Array Value) (G : Assn) (m : WM σ Unit)
    (hcf : ∀ (args : Array Value) (w : World), (callFunc jf args).run Tryz.prog w = .ok (.enter jf args) w) (hj : Job c n jf caps unitR G m)
    (mb : Nat) (M : Bst σ) (w : World) (S : Hp) (F : Assn) (h : Sat w (btA c S mb M * (pool S * (G * F)))) (Q : Ending → World → Prop)
    (hQ : ∀ e w', DoQ c mb S (G * F) w (wrun m M) e w' → Q e w') :
    Calls Tryz.prog 53 #[spV mb n, .func (.func jf) #[] caps] w Q := by
  have hmf : ∀ (fn : Fn) (first cap : Array Value) (w : World), (Instr.makeFunc fn first cap).run Tryz.prog w = .ok (.func fn first cap) w := fun _ _ _ _ => rfl
  have HQ := SL.hid hQ
  have hrun := fun jb w F h => runU_any c hc n hn1 hn2 94 #[.pointer (some ⟨jb, 0, none⟩)] (fnA jb jf caps * G) m (fun args w => enters Tryz.func94 (by kernel_rfl) rfl args w) (doone_job hcf hj jb) mb M w S F h
  have Hrun := SL.hid hrun
  have hA := (h.alloc (.cells #[.pointer (some ⟨mb, 0, none⟩), .int .i64 (n : Int)] 26 (0, 0))).alloc (.cells #[.func (.func jf) #[] caps] 103 (0, 0))
  have dA := ((Side.refl w).alloc (.cells #[.pointer (some ⟨mb, 0, none⟩), .int .i64 (n : Int)] 26 (0, 0))).alloc (.cells #[.func (.func jf) #[] caps] 103 (0, 0))
  simp only [World.size_alloc] at hA
  clear hQ hrun hj h hcf
  unfold spV
  go_enter Tryz.func53, Tryz.ntmps53
  go_wp2_with fail
  have hB : Sat ((w.alloc (.cells #[.pointer (some ⟨mb, 0, none⟩), .int .i64 (n : Int)] 26 (0, 0))).alloc (.cells #[.func (.func jf) #[] caps] 103 (0, 0)))
      (btA c S mb M * (pool S * (fnA (w.heap.size + 1) jf caps * G * (pt w.heap.size (.cells #[.pointer (some ⟨mb, 0, none⟩), .int .i64 (n : Int)] 26 (0, 0)) * F)))) := hA.to (by unfold fnA; ac_rfl)
  refine Hrun.out (w.heap.size + 1) _ _ hB _ ?_
  clear hA hB Hrun
  generalize (w.alloc (.cells #[.pointer (some ⟨mb, 0, none⟩), .int .i64 (n : Int)] 26 (0, 0))).alloc (.cells #[.func (.func jf) #[] caps] 103 (0, 0)) = w1 at *
  generalize w.heap.size + 1 = jb at *
  generalize w.heap.size = sp at *
  have HP := SL.hid (fun e w' => HQ.out e w')
  clear HQ
  obtain ⟨⟨r, M'⟩, hp⟩ : ∃ p, wrun m M = p := ⟨_, rfl⟩
  rw [hp]
  have HP2 : RowKit.Hid (∀ e w', DoQ c mb S (G * F) w (r, M') e w' → Q e w') := fun e w' h => HP.out e w' (by rw [hp]; exact h)
  clear HP hp
  cases r with
  | bad cN =>
    rintro e w2 ⟨S', hS, d2, rfl, h2⟩
    have H2 := SL.hid (h2.to (by ac_rfl : _ = (btA c S' mb M' * (pool S' * (G * F))) * (fnA jb jf caps * pt sp (.cells #[.pointer (some ⟨mb, 0, none⟩), .int .i64 (n : Int)] 26 (0, 0)))))
    clear h2
    go_wp2_with (refine wpList_store_mid (by exact rfl) 144 (.tmp 5) (.tmp 11) (by exact rfl) w2.heap.size 0 #[] (by exact rfl) (by exact rfl) (by exact fun j h => absurd h (Nat.not_lt_zero _)) (by exact info_unit) (by exact rfl) ?_)
    exact HP2.out _ _ ⟨S', hS, (dA.trans d2).alloc _, rfl, (H2.out.alloc _).right.left⟩
  | ok u =>
    rintro e w2 ⟨S', v, hS, d2, rfl, h2⟩
    obtain ⟨rfl, h3⟩ := Sat.fact_iff.1 h2
    have H2 := SL.hid (h3.to (by ac_rfl : _ = (btA c S' mb M' * (pool S' * (G * F))) * (fnA jb jf caps * pt sp (.cells #[.pointer (some ⟨mb, 0, none⟩), .int .i64 (n : Int)] 26 (0, 0)))))
    clear h2 h3
    go_wp2_with (refine wpList_store_mid (by exact rfl) 144 (.tmp 5) (.tmp 11) (by exact rfl) w2.heap.size 0 #[] (by exact rfl) (by exact rfl) (by exact fun j h => absurd h (Nat.not_lt_zero _)) (by exact info_unit) (by exact rfl) ?_)
    exact HP2.out _ _ ⟨S', hS, (dA.trans d2).alloc _, rfl, (H2.out.alloc _).right.left⟩
end
end Go.Proofs.YtaoohjeaaccnfaaGreat.Fs

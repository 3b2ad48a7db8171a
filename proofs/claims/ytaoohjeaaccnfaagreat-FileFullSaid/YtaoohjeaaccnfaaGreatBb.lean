/- batch: ask, Read, New, rows, Fork, Join. -/
import Derived.Test.YtaoohjeaaccnfaaGreatBa
import Derived.Recover
import Derived.LaidEqlPtr
namespace Go.Proofs.YtaoohjeaaccnfaaGreat.Ba
set_option linter.unusedVariables false
set_option linter.unusedSimpArgs false
open Go.RowKit Go.SL
def DoneD (m : Nat) (M : KV) (id : Int) (F : Assn) (w : World) (e : Ending) (u : FrameMode) (w' : World) : Prop :=
  e = .returned (.tuple #[]) ∧ u = .returning ∧ Sat w' (mp m (del M id) * F) ∧ Side w w'
set_option maxRecDepth 100000 in
set_option maxHeartbeats 1000000 in
theorem askdone_any (w : World) (p2 p3 p4 p5 : Addr) (b m : Nat) (id : Int) (M : KV) (F : Assn) (h : Sat w (mp m M * F))
    (h2 : w.cell? p2 = some (.pointer (some ⟨b, 0, none⟩))) (h3 : w.cell? p3 = some (.int .i64 id)) (hA : w.cell? ⟨b, 6, none⟩ = some (.map (some m))) :
    CallsD Tryz.prog 139 #[.pointer (some p2), .pointer (some p3), .pointer (some p4), .pointer (some p5)] .returning w (DoneD m M id F w) := by
  obtain ⟨w1, hrun, hs1, hd1, hce⟩ := Sat.delete (P := Tryz.prog) Tryz.underlying111 Tryz.underlying3 0 3 (w := w.drew) h id
  have g2 : w1.cell? p2 = some (.pointer (some ⟨b, 0, none⟩)) := (hce.1 _).trans h2
  have g3 : w1.cell? p3 = some (.int .i64 id) := (hce.1 _).trans h3
  have gA : w1.cell? ⟨b, 6, none⟩ = some (.map (some m)) := (hce.1 _).trans hA
  clear hce
  refine callsD_of_wpS Tryz.func139 rfl fun c₀ cs hu => ?_
  apply wpS_seq
  refine wpS_of_wp ?_
  simp only [Tryz.ntmps139, List.size_toArray, List.length_cons, List.length_nil, Nat.reduceAdd, Nat.reduceSub, Array.replicate_succ,
     Array.replicate_zero, List.push_toArray, List.append_toArray, List.nil_append, List.cons_append]
  go_region_held3 (fun w' => w'.cell? p2 = some (.pointer (some ⟨b, 0, none⟩)) ∧ w'.cell? p3 = some (.int .i64 id) ∧ w'.cell? ⟨b, 6, none⟩ = some (.map (some m))) (go_keep) (fail)
  clear g2 g3 gA
  simp only [Exit.thenS]
  apply wpS_seq
  apply wpS_region
  simp [wpOpsS, go_sem, recoverD, hu, Exit.thenS]
  refine wpS_cond (t := false) (by simp [Act.eval]) ?_
  simp only [Bool.false_eq_true, if_false]
  refine wpS_of_wp (wp_skip ?_)
  cases c₀
  simp_all [bodyPostS, results, Tryz.results139]
  exact ⟨rfl, rfl, hs1, (Side.refl w).drew.trans hd1⟩
def ReadAns (A : Int × List UInt8) (RI' F : Assn) (w : World) (e : Ending) (w' : World) : Prop :=
  ∃ dv, e = .returned (.tuple #[dv, .int .i64 A.1]) ∧ Sat w' (ansA 5 A dv * (RI' * F)) ∧ Side w w'
def AskQ (b : Nat) (rd : Value) (err : Int) (x : Bx) (A : Int × List UInt8) (RI' F : Assn) (w : World) (e : Ending) (w' : World) : Prop :=
  ∃ dv av', e = .returned (.tuple #[dv, .int .i64 A.1]) ∧ Side w w' ∧
    Sat w' (pt b (.cells (({ x with av := av' } : Bx).cells rd err) 113 (0, 0)) * (askA av' * (ansA 5 A dv * (RI' * F))))
set_option maxRecDepth 100000 in
set_option maxHeartbeats 2000000 in
theorem ask_some (w : World) (b : Nat) (T : TypeId) (rv : Value) (fr : FuncId) (err id : Int) (x : Bx) (A : Int × List UInt8) (RI RI' F : Assn) (m : Nat) (hav : x.av = .map (some m))
    (hm : ∀ (k : Nat) (w : World), (method (k + 1) T rv "Read").run Tryz.prog w = .ok (fr, rv) w)
    (hcf : ∀ (args : Array Value) (w : World), (callFunc fr args).run Tryz.prog w = .ok (.enter fr args) w)
    (hR : ∀ (F : Assn) (w : World), Sat w (RI * F) → Calls Tryz.prog fr #[rv, .int .i64 id] w (ReadAns A RI' F w))
    (h : Sat w (pt b (.cells (x.cells (.iface T rv) err) 113 (0, 0)) * (mp m [] * (RI * F)))) :
    Calls Tryz.prog 132 #[.pointer (some ⟨b, 0, none⟩), .int .i64 id] w (AskQ b (.iface T rv) err x A RI' F w) := by
  have hmf : ∀ (fn : Fn) (first cap : Array Value) (w : World), (Instr.makeFunc fn first cap).run Tryz.prog w = .ok (.func fn first cap) w := fun _ _ _ _ => rfl
  have hc0 : w.cell? ⟨b, 0, none⟩ = some (.iface T rv) := h.cell 0
  have hlt : b < w.heap.size := h.lt
  have n1 : b < w.heap.size + 1 := by omega
  have n2 : b < w.heap.size + 1 + 1 := by omega
  have n3 : b < w.heap.size + 1 + 1 + 1 := by omega
  have HR := SL.hid hR; clear hR
  go_enter_defers Tryz.func132, Tryz.ntmps132
  go_wp2
  have h4 := (((h.alloc (.cells #[.pointer (some ⟨b, 0, none⟩)] 24 (0, 0))).alloc (.cells #[.int .i64 id] 3 (0, 0))).alloc (.cells #[.slice none 0 0] 48 (0, 0))).alloc (.cells #[.int .i64 0] 29 (0, 0))
  simp only [World.size_alloc] at h4
  have d4 := ((((Side.refl w).alloc (.cells #[.pointer (some ⟨b, 0, none⟩)] 24 (0, 0))).alloc (.cells #[.int .i64 id] 3 (0, 0))).alloc (.cells #[.slice none 0 0] 48 (0, 0))).alloc (.cells #[.int .i64 0] 29 (0, 0))
  generalize ((((w.alloc (.cells #[.pointer (some ⟨b, 0, none⟩)] 24 (0, 0))).alloc (.cells #[.int .i64 id] 3 (0, 0))).alloc (.cells #[.slice none 0 0] 48 (0, 0))).alloc (.cells #[.int .i64 0] 29 (0, 0))) = w4 at h4 d4 ⊢
  clear hc0 h n1 n2 n3
  generalize w.heap.size = n at h4 hlt ⊢
  -- 1: err, 2: data, 3: id, 4: b, 5: the struct, 6: asked
  have c2 : w4.cell? ⟨n, 0, none⟩ = some (.pointer (some ⟨b, 0, none⟩)) := h4.front4.cell 0
  have c3 : w4.cell? ⟨n + 1, 0, none⟩ = some (.int .i64 id) := h4.front3.cell 0
  have b6 : w4.cell? ⟨b, 6, none⟩ = some (.map (some m)) := (h4.front5.cell 6).trans (congrArg some hav)
  obtain ⟨o0, ho0, hmh, _⟩ := h4.front6.mpHeap
  have hl : ∀ w', w'.heap[m]? = some o0 → (Instr.lookup 111 (.map (some m)) (.int .i64 id) true).run Tryz.prog w' = .ok (.tuple #[.agg #[], .bool false]) w' := fun w' hw =>
    run_lookup_int (P := Tryz.prog) Tryz.underlying111 Tryz.underlying3 (by kernel_rfl) hw ho0 id true
  go_region_held3 (fun w' => w'.cell? ⟨n, 0, none⟩ = some (.pointer (some ⟨b, 0, none⟩)) ∧ w'.cell? ⟨n + 1, 0, none⟩ = some (.int .i64 id) ∧ w'.cell? ⟨b, 6, none⟩ = some (.map (some m)) ∧ w'.heap[m]? = some o0)
    (refine ⟨?_, ?_, ?_, ?_⟩ <;> first | exact hmh | exact heap_keep hmh _ | go_keep) (fail)
  all_goals
    have h5 := (h4.alloc (.cells #[] 144 (0, 0))).right
    have d5 := d4.alloc (.cells #[] 144 (0, 0))
    change Exit.then _ _ _ _ (w4.alloc (.cells #[] 144 (0, 0))).drew
    generalize hw5 : (w4.alloc (.cells #[] 144 (0, 0))).drew = w5
    replace h5 : Sat w5 _ := hw5 ▸ h5.drew
    replace d5 : Side w w5 := hw5 ▸ d5.drew
    clear hw5 hl hmh c2 c3 b6 h4 d4 ho0
    have c2 : w5.cell? ⟨n, 0, none⟩ = some (.pointer (some ⟨b, 0, none⟩)) := h5.front4.cell 0
    have c3 : w5.cell? ⟨n + 1, 0, none⟩ = some (.int .i64 id) := h5.front3.cell 0
    have b6 : w5.cell? ⟨b, 6, none⟩ = some (.map (some m)) := (h5.front5.cell 6).trans (congrArg some hav)
    have hnil := fun w => run_eql_map_nil (P := Tryz.prog) w 111 3 144 (some m) Tryz.underlying111
    go_wp2
    clear hnil
    obtain ⟨w6, hup, h6, d6, ce⟩ := Sat.mapUpdate (P := Tryz.prog) Tryz.underlying111 Tryz.underlying3 (w := w5.drew) h5.front6 id (.agg #[])
    have e2 : w6.cell? ⟨n, 0, none⟩ = some (.pointer (some ⟨b, 0, none⟩)) := (ce.1 _).trans c2
    have e3 : w6.cell? ⟨n + 1, 0, none⟩ = some (.int .i64 id) := (ce.1 _).trans c3
    have e6 : w6.cell? ⟨b, 6, none⟩ = some (.map (some m)) := (ce.1 _).trans b6
    clear ce
    go_region_held3 (fun w' => w'.cell? ⟨n, 0, none⟩ = some (.pointer (some ⟨b, 0, none⟩)) ∧ w'.cell? ⟨n + 1, 0, none⟩ = some (.int .i64 id) ∧ w'.cell? ⟨b, 6, none⟩ = some (.map (some m)))
      (go_keep) (fail)
    replace d6 : Side w w6 := (d5.drew).trans d6
    clear hup h5 d5 c2 c3 b6 e6
    have e0 : w6.cell? ⟨b, 0, none⟩ = some (.iface T rv) := h6.front6.cell 0
    replace h6 := h6.back6
    go_wp2
    have q1 : ¬ (n = n + 1 + 1) := by omega
    have q2 : ¬ (n = n + 1 + 1 + 1) := by omega
    have q3 : ¬ (b = n + 1 + 1) := by omega
    have q4 : ¬ (b = n + 1 + 1 + 1) := by omega
    have q5 : ¬ (n + 1 + 1 = n) := by omega
    have q6 : ¬ (n + 1 + 1 + 1 = n) := by omega
    have q7 : ¬ (n + 1 + 1 = b) := by omega
    have q8 : ¬ (n + 1 + 1 + 1 = b) := by omega
    go_region_held3 (fun w' => w'.cell? ⟨n, 0, none⟩ = some (.pointer (some ⟨b, 0, none⟩)) ∧ w'.cell? ⟨n + 1, 0, none⟩ = some (.int .i64 id) ∧ w'.cell? ⟨b, 0, none⟩ = some (.iface T rv))
      (go_keep) ((refine (HR.out _ w6.drew h6.front7).mono ?_; rintro e w7 ⟨dv, rfl, h7, d7⟩; have hsl := Sat.ansSlice h7; obtain ⟨da, dk, dc, hsl⟩ := hsl; subst hsl; have g2 := h7.front6.cell 0; have g3 := h7.front5.cell 0; have gb := h7.front7.cell 0; have gd := h7.front4.cell 0; have ge := h7.front3.cell 0; have fd := h7.front4.frozen 0; have fe := h7.front3.frozen 0; simp [Bx.cells] at g2 g3 gb gd ge))
    clear g2 g3 gb gd ge fd fe e0 e2 e3
    go_wp2
    have h8 := ((h7.front4.setCell 0 (.slice da dk dc)).back4.front3.setCell 0 (.int .i64 A.1)).back3
    refine leaves_cons (f := 139) (args := #[.pointer (some ⟨n, 0, none⟩), .pointer (some ⟨n + 1, 0, none⟩), .pointer (some ⟨n + 1 + 1, 0, none⟩), .pointer (some ⟨n + 1 + 1 + 1, 0, none⟩)]) (by simp) (by simp [go_sem]) ?_
    refine (askdone_any _ ⟨n, 0, none⟩ ⟨n + 1, 0, none⟩ _ _ b m id _ _ h8.front8 (h8.front6.cell 0) (h8.front5.cell 0) ((h8.front7.cell 6).trans (congrArg some hav))).mono ?_
    rintro e u w9 ⟨rfl, rfl, h9, d9⟩
    have h10 := h9.back8
    have r4 : w9.cell? ⟨n + 1 + 1, 0, none⟩ = some (.slice da dk dc) := h10.front4.cell 0
    have r5 : w9.cell? ⟨n + 1 + 1 + 1, 0, none⟩ = some (.int .i64 A.1) := h10.front3.cell 0
    refine ⟨.tuple #[.slice da dk dc, .int .i64 A.1], ?_, ?_⟩
    · simp [results, Tryz.results132, go_sem, r4, r5]
    · refine ⟨.slice da dk dc, .map (some m), rfl, (d6.drew.trans d7).trans (((Side.refl w7).setCell _ _).setCell _ _ |>.trans d9), ?_⟩
      have hx : ({ x with av := Value.map (some m) } : Bx) = x := by rw [← hav]
      rw [hx]
      have hd : del (upd ([] : KV) id (.agg #[])) id = [] := by simp [del, upd, kget]
      rw [hd] at h9
      have h11 := h9.weak (Q := askA (.map (some m))) fun k hk => .inr ⟨m, rfl, hk⟩
      exact h11.drop4.drop4.drop4.drop4.front4
set_option maxRecDepth 100000 in
set_option maxHeartbeats 2000000 in
theorem ask_none (w : World) (b : Nat) (T : TypeId) (rv : Value) (fr : FuncId) (err id : Int) (x : Bx) (A : Int × List UInt8) (RI RI' F : Assn) (hav : x.av = .map none)
    (hm : ∀ (k : Nat) (w : World), (method (k + 1) T rv "Read").run Tryz.prog w = .ok (fr, rv) w)
    (hcf : ∀ (args : Array Value) (w : World), (callFunc fr args).run Tryz.prog w = .ok (.enter fr args) w)
    (hR : ∀ (F : Assn) (w : World), Sat w (RI * F) → Calls Tryz.prog fr #[rv, .int .i64 id] w (ReadAns A RI' F w))
    (h : Sat w (pt b (.cells (x.cells (.iface T rv) err) 113 (0, 0)) * (RI * F))) :
    Calls Tryz.prog 132 #[.pointer (some ⟨b, 0, none⟩), .int .i64 id] w (AskQ b (.iface T rv) err x A RI' F w) := by
  have hmf : ∀ (fn : Fn) (first cap : Array Value) (w : World), (Instr.makeFunc fn first cap).run Tryz.prog w = .ok (.func fn first cap) w := fun _ _ _ _ => rfl
  have hc0 : w.cell? ⟨b, 0, none⟩ = some (.iface T rv) := h.cell 0
  have hlt : b < w.heap.size := h.lt
  have n1 : b < w.heap.size + 1 := by omega
  have n2 : b < w.heap.size + 1 + 1 := by omega
  have n3 : b < w.heap.size + 1 + 1 + 1 := by omega
  have HR := SL.hid hR; clear hR
  go_enter_defers Tryz.func132, Tryz.ntmps132
  go_wp2
  have h4 := (((h.alloc (.cells #[.pointer (some ⟨b, 0, none⟩)] 24 (0, 0))).alloc (.cells #[.int .i64 id] 3 (0, 0))).alloc (.cells #[.slice none 0 0] 48 (0, 0))).alloc (.cells #[.int .i64 0] 29 (0, 0))
  simp only [World.size_alloc] at h4
  have d4 := ((((Side.refl w).alloc (.cells #[.pointer (some ⟨b, 0, none⟩)] 24 (0, 0))).alloc (.cells #[.int .i64 id] 3 (0, 0))).alloc (.cells #[.slice none 0 0] 48 (0, 0))).alloc (.cells #[.int .i64 0] 29 (0, 0))
  generalize ((((w.alloc (.cells #[.pointer (some ⟨b, 0, none⟩)] 24 (0, 0))).alloc (.cells #[.int .i64 id] 3 (0, 0))).alloc (.cells #[.slice none 0 0] 48 (0, 0))).alloc (.cells #[.int .i64 0] 29 (0, 0))) = w4 at h4 d4 ⊢
  clear hc0 h n1 n2 n3
  generalize w.heap.size = n at h4 hlt ⊢
  -- 1: err, 2: data, 3: id, 4: b, 5: the struct, 6: asked
  have c2 : w4.cell? ⟨n, 0, none⟩ = some (.pointer (some ⟨b, 0, none⟩)) := h4.front4.cell 0
  have c3 : w4.cell? ⟨n + 1, 0, none⟩ = some (.int .i64 id) := h4.front3.cell 0
  have b6 : w4.cell? ⟨b, 6, none⟩ = some (.map none) := (h4.front5.cell 6).trans (congrArg some hav)
  have hl : ∀ w', (Instr.lookup 111 (.map none) (.int .i64 id) true).run Tryz.prog w' = .ok (.tuple #[.agg #[], .bool false]) w' := fun w' =>
    run_lookup_int_nil (P := Tryz.prog) Tryz.underlying111 Tryz.underlying3 (by kernel_rfl) id true
  go_region_held3 (fun w' => w'.cell? ⟨n, 0, none⟩ = some (.pointer (some ⟨b, 0, none⟩)) ∧ w'.cell? ⟨n + 1, 0, none⟩ = some (.int .i64 id) ∧ w'.cell? ⟨b, 6, none⟩ = some (.map none))
    (go_keep) (fail)
  all_goals
    have h5 := (h4.alloc (.cells #[] 144 (0, 0))).right
    have d5 := d4.alloc (.cells #[] 144 (0, 0))
    change Exit.then _ _ _ _ (w4.alloc (.cells #[] 144 (0, 0))).drew
    generalize hw5 : (w4.alloc (.cells #[] 144 (0, 0))).drew = w5
    replace h5 : Sat w5 _ := hw5 ▸ h5.drew
    replace d5 : Side w w5 := hw5 ▸ d5.drew
    clear hw5 hl c2 c3 b6 h4 d4
    have c2 : w5.cell? ⟨n, 0, none⟩ = some (.pointer (some ⟨b, 0, none⟩)) := h5.front4.cell 0
    have c3 : w5.cell? ⟨n + 1, 0, none⟩ = some (.int .i64 id) := h5.front3.cell 0
    have b6 : w5.cell? ⟨b, 6, none⟩ = some (.map none) := (h5.front5.cell 6).trans (congrArg some hav)
    have hnil := fun w => run_eql_map_nil (P := Tryz.prog) w 111 3 144 none Tryz.underlying111
    have hfz : w5.frozen? ⟨b, 6, none⟩ = false := h5.front5.frozen 6
    have hmm := @run_makeMap Tryz.prog
    have hb5 : b < w5.heap.size := h5.front5.lt
    go_wp2
    clear hnil hmm hfz
    have h5' := (h5.front5.setCell 6 (.map (some w5.heap.size))).alloc (.map #[] 0)
    rw [World.size_setCell] at h5'
    have d5' := (d5.setCell ⟨b, 6, none⟩ (.map (some w5.heap.size))).alloc (.map #[] 0)
    generalize (w5.setCell ⟨b, 6, none⟩ (.map (some w5.heap.size))).alloc (.map #[] 0) = w5' at h5' d5' ⊢
    generalize w5.heap.size = m at h5' ⊢
    clear h5 d5 c2 c3 b6 hb5
    -- the struct 1, asked 2, err 3, data 4, id 5, b 6
    have h5 := (h5'.mpOf isMap_empty).back6.back5
    clear h5'
    change Sat w5' (pt (n + 1 + 1 + 1) _ * (pt (n + 1 + 1) _ * (pt (n + 1) _ * (pt n _ * (pt b (.cells (({ x with av := .map (some m) } : Bx).cells (.iface T rv) err) 113 (0, 0)) * _))))) at h5
    have c2 : w5'.cell? ⟨n, 0, none⟩ = some (.pointer (some ⟨b, 0, none⟩)) := h5.front4.cell 0
    have c3 : w5'.cell? ⟨n + 1, 0, none⟩ = some (.int .i64 id) := h5.front3.cell 0
    have b6 : w5'.cell? ⟨b, 6, none⟩ = some (.map (some m)) := h5.front5.cell 6
    obtain ⟨w6, hup, h6, d6, ce⟩ := Sat.mapUpdate (P := Tryz.prog) Tryz.underlying111 Tryz.underlying3 (w := w5'.drew) h5.front6 id (.agg #[])
    have e2 : w6.cell? ⟨n, 0, none⟩ = some (.pointer (some ⟨b, 0, none⟩)) := (ce.1 _).trans c2
    have e3 : w6.cell? ⟨n + 1, 0, none⟩ = some (.int .i64 id) := (ce.1 _).trans c3
    have e6 : w6.cell? ⟨b, 6, none⟩ = some (.map (some m)) := (ce.1 _).trans b6
    clear ce
    go_region_held3 (fun w' => w'.cell? ⟨n, 0, none⟩ = some (.pointer (some ⟨b, 0, none⟩)) ∧ w'.cell? ⟨n + 1, 0, none⟩ = some (.int .i64 id) ∧ w'.cell? ⟨b, 6, none⟩ = some (.map (some m)))
      (go_keep) (fail)
    replace d6 : Side w w6 := (d5'.drew).trans d6
    clear hup h5 d5' c2 c3 b6 e6
    have e0 : w6.cell? ⟨b, 0, none⟩ = some (.iface T rv) := h6.front6.cell 0
    replace h6 := h6.back6
    go_wp2
    have q1 : ¬ (n = n + 1 + 1) := by omega
    have q2 : ¬ (n = n + 1 + 1 + 1) := by omega
    have q3 : ¬ (b = n + 1 + 1) := by omega
    have q4 : ¬ (b = n + 1 + 1 + 1) := by omega
    have q5 : ¬ (n + 1 + 1 = n) := by omega
    have q6 : ¬ (n + 1 + 1 + 1 = n) := by omega
    have q7 : ¬ (n + 1 + 1 = b) := by omega
    have q8 : ¬ (n + 1 + 1 + 1 = b) := by omega
    go_region_held3 (fun w' => w'.cell? ⟨n, 0, none⟩ = some (.pointer (some ⟨b, 0, none⟩)) ∧ w'.cell? ⟨n + 1, 0, none⟩ = some (.int .i64 id) ∧ w'.cell? ⟨b, 0, none⟩ = some (.iface T rv))
      (go_keep) ((refine (HR.out _ w6.drew h6.front7).mono ?_; rintro e w7 ⟨dv, rfl, h7, d7⟩; have hsl := Sat.ansSlice h7; obtain ⟨da, dk, dc, hsl⟩ := hsl; subst hsl; have g2 := h7.front6.cell 0; have g3 := h7.front5.cell 0; have gb := h7.front7.cell 0; have gd := h7.front4.cell 0; have ge := h7.front3.cell 0; have fd := h7.front4.frozen 0; have fe := h7.front3.frozen 0; simp [Bx.cells] at g2 g3 gb gd ge))
    clear g2 g3 gb gd ge fd fe e0 e2 e3
    go_wp2
    have h8 := ((h7.front4.setCell 0 (.slice da dk dc)).back4.front3.setCell 0 (.int .i64 A.1)).back3
    refine leaves_cons (f := 139) (args := #[.pointer (some ⟨n, 0, none⟩), .pointer (some ⟨n + 1, 0, none⟩), .pointer (some ⟨n + 1 + 1, 0, none⟩), .pointer (some ⟨n + 1 + 1 + 1, 0, none⟩)]) (by simp) (by simp [go_sem]) ?_
    refine (askdone_any _ ⟨n, 0, none⟩ ⟨n + 1, 0, none⟩ _ _ b m id _ _ h8.front8 (h8.front6.cell 0) (h8.front5.cell 0) (h8.front7.cell 6)).mono ?_
    rintro e u w9 ⟨rfl, rfl, h9, d9⟩
    have h10 := h9.back8
    have r4 : w9.cell? ⟨n + 1 + 1, 0, none⟩ = some (.slice da dk dc) := h10.front4.cell 0
    have r5 : w9.cell? ⟨n + 1 + 1 + 1, 0, none⟩ = some (.int .i64 A.1) := h10.front3.cell 0
    refine ⟨.tuple #[.slice da dk dc, .int .i64 A.1], ?_, ?_⟩
    · simp [results, Tryz.results132, go_sem, r4, r5]
    · refine ⟨.slice da dk dc, .map (some m), rfl, (d6.drew.trans d7).trans (((Side.refl w7).setCell _ _).setCell _ _ |>.trans d9), ?_⟩
      have hd : del (upd ([] : KV) id (.agg #[])) id = [] := by simp [del, upd, kget]
      rw [hd] at h9
      have h11 := h9.weak (Q := askA (.map (some m))) fun k hk => .inr ⟨m, rfl, hk⟩
      exact h11.drop4.drop4.drop4.drop4.front4
theorem ask_any (w : World) (b : Nat) (T : TypeId) (rv : Value) (fr : FuncId) (err id : Int) (x : Bx) (A : Int × List UInt8) (RI RI' F : Assn)
    (hm : ∀ (k : Nat) (w : World), (method (k + 1) T rv "Read").run Tryz.prog w = .ok (fr, rv) w)
    (hcf : ∀ (args : Array Value) (w : World), (callFunc fr args).run Tryz.prog w = .ok (.enter fr args) w)
    (hR : ∀ (F : Assn) (w : World), Sat w (RI * F) → Calls Tryz.prog fr #[rv, .int .i64 id] w (ReadAns A RI' F w))
    (h : Sat w (pt b (.cells (x.cells (.iface T rv) err) 113 (0, 0)) * (askA x.av * (RI * F)))) :
    Calls Tryz.prog 132 #[.pointer (some ⟨b, 0, none⟩), .int .i64 id] w (AskQ b (.iface T rv) err x A RI' F w) := by
  obtain ⟨k, a, h1, h2, p, ⟨h3, h4, pa, q, d3, rfl⟩, d, rfl⟩ := h
  rcases pa with ⟨hav, rfl⟩ | ⟨m, hav, hmp⟩
  · refine ask_none w b T rv fr err id x A RI RI' F hav hm hcf hR ⟨_, a, h1, h4, p, q, ?_, ?_⟩
    · intro c; rcases d c with e | e
      · exact .inl e
      · right; simpa [join] using e
    · funext c; simp [join]
  · exact ask_some w b T rv fr err id x A RI RI' F m hav hm hcf hR ⟨_, a, h1, _, p, ⟨h3, h4, hmp, q, d3, rfl⟩, d, rfl⟩
end Go.Proofs.YtaoohjeaaccnfaaGreat.Ba
namespace Go.Proofs.YtaoohjeaaccnfaaGreat.Ba
set_option linter.unusedVariables false
set_option linter.unusedSimpArgs false
open Go.RowKit Go.SL
def ReadQ (b : Nat) (S : Hp) (rd : Value) (A : Int × List UInt8) (err : Int) (W D : CB) (F : Assn) (w : World) (e : Ending) (w' : World) : Prop :=
  ∃ S' dv, Ext S S' ∧ e = .returned (.tuple #[dv, .int .i64 A.1]) ∧ Sat w' (ansA 5 A dv * (batchA 113 5 S' b rd err W D * (pool S' * F))) ∧ Side w w'
theorem zero_bytes (w : World) : (zeroValue 48).run Tryz.prog w = .ok (.slice none 0 0) w := by kernel_rfl
set_option maxRecDepth 100000 in
set_option maxHeartbeats 1000000 in
theorem read_err (w : World) (S : Hp) (b : Nat) (rd : Value) (err : Int) (W D : CB) (id : Int) (F : Assn)
    (h : Sat w (batchA 113 5 S b rd err W D * (pool S * F))) (he : err ≠ 0) :
    Calls Tryz.prog 111 #[.pointer (some ⟨b, 0, none⟩), .int .i64 id] w (ReadQ b S rd (err, []) err W D F w) := by
  obtain ⟨x, hx⟩ := h.batchOpen
  have hc1 : w.cell? ⟨b, 1, none⟩ = some (.int .i64 err) := hx.cell 1
  have he1 : (err != 0) = true := by simpa using he
  go_enter Tryz.func111, Tryz.ntmps111
  go_wp2
  go_region_held3 (fun w' => w'.cell? ⟨b, 1, none⟩ = some (.int .i64 err)) (go_keep) (fail)
  go_wp2
  go_ret2
  exact ⟨S, _, Ext.refl S, rfl, Sat.ansNil h.drew he, (Side.refl w).drew⟩
set_option maxRecDepth 100000 in
set_option maxHeartbeats 1000000 in
theorem read_W (w : World) (S : Hp) (b : Nat) (rd : Value) (W D : CB) (id : Int) (l : List UInt8) (F : Assn)
    (h : Sat w (batchA 113 5 S b rd 0 W D * (pool S * F))) (hl : kget W id = some l) :
    Calls Tryz.prog 111 #[.pointer (some ⟨b, 0, none⟩), .int .i64 id] w (ReadQ b S rd (0, l) 0 W D F w) := by
  obtain ⟨x, hx⟩ := h.batchOpen
  have hc1 : w.cell? ⟨b, 1, none⟩ = some (.int .i64 0) := hx.cell 1
  have hc2 : w.cell? ⟨b, 2, none⟩ = some x.wv := hx.cell 2
  have hb1 : ((0 : Int) != 0) = false := by decide
  obtain ⟨dv, hlook, hv⟩ := ((hx.to (by ac_rfl : _ = bookA 5 S x.wv x.ws W * (pool S * (pt b (.cells (x.cells rd 0) 113 (0, 0)) * (bookA 5 S x.tv x.ts D * (askA x.av * F)))))).bookLook (P := Tryz.prog) Tryz.underlying108 Tryz.underlying3 (zero_bytes w) id).2 l hl
  have hrd := hv.rd (h.to (star_left_comm _ _ _))
  have HL := SL.hid hl; have Hr := SL.hid hrd; have hbg : Hid (l.length ≤ 1000000000) := Nat.le_trans hv.1 (by decide)
  clear hl hrd
  go_enter Tryz.func111, Tryz.ntmps111
  go_wp2_with (go_at_call 92; refine (clone_any _ _ l Hr.out hbg).mono ?_; rintro e w1 ⟨v1, rfl, hs1, hd1⟩)
  go_ret2
  exact ⟨S, v1, Ext.refl S, rfl, (hs1.under h).ansOf, hd1⟩
set_option maxRecDepth 100000 in
set_option maxHeartbeats 1000000 in
theorem read_D (w : World) (S : Hp) (b : Nat) (rd : Value) (W D : CB) (id : Int) (l : List UInt8) (F : Assn)
    (h : Sat w (batchA 113 5 S b rd 0 W D * (pool S * F))) (hn : kget W id = none) (hl : kget D id = some l) :
    Calls Tryz.prog 111 #[.pointer (some ⟨b, 0, none⟩), .int .i64 id] w (ReadQ b S rd (0, l) 0 W D F w) := by
  obtain ⟨x, hx⟩ := h.batchOpen
  have hc1 : w.cell? ⟨b, 1, none⟩ = some (.int .i64 0) := hx.cell 1
  have hc2 : w.cell? ⟨b, 2, none⟩ = some x.wv := hx.cell 2
  have hc4 : w.cell? ⟨b, 4, none⟩ = some x.tv := hx.cell 4
  have hb1 : ((0 : Int) != 0) = false := by decide
  have hlk := ((hx.to (by ac_rfl : _ = bookA 5 S x.wv x.ws W * (pool S * (pt b (.cells (x.cells rd 0) 113 (0, 0)) * (bookA 5 S x.tv x.ts D * (askA x.av * F)))))).bookLook (P := Tryz.prog) Tryz.underlying108 Tryz.underlying3 (zero_bytes w) id).1 hn
  obtain ⟨dv, hlook, hv⟩ := ((hx.to (by ac_rfl : _ = bookA 5 S x.tv x.ts D * (pool S * (pt b (.cells (x.cells rd 0) 113 (0, 0)) * (bookA 5 S x.wv x.ws W * (askA x.av * F)))))).bookLook (P := Tryz.prog) Tryz.underlying108 Tryz.underlying3 (zero_bytes w) id).2 l hl
  have hrd := hv.rd (h.to (star_left_comm _ _ _))
  have HL := SL.hid hl; have Hr := SL.hid hrd; have hbg : Hid (l.length ≤ 1000000000) := Nat.le_trans hv.1 (by decide)
  clear hl hrd hn
  go_enter Tryz.func111, Tryz.ntmps111
  go_wp2_with (go_at_call 92; refine (clone_any _ _ l Hr.out hbg).mono ?_; rintro e w1 ⟨v1, rfl, hs1, hd1⟩)
  go_ret2
  exact ⟨S, v1, Ext.refl S, rfl, (hs1.under h).ansOf, hd1⟩
end Go.Proofs.YtaoohjeaaccnfaaGreat.Ba
namespace Go.Proofs.YtaoohjeaaccnfaaGreat.Ba
set_option linter.unusedVariables false
set_option linter.unusedSimpArgs false
open Go.RowKit Go.SL
set_option maxRecDepth 100000 in
set_option maxHeartbeats 1000000 in
theorem read_ok (w : World) (S : Hp) (b : Nat) (T : TypeId) (rv : Value) (fr : FuncId) (W D : CB) (id : Int) (l : List UInt8) (RI RI' F : Assn)
    (hm : ∀ (k : Nat) (w : World), (method (k + 1) T rv "Read").run Tryz.prog w = .ok (fr, rv) w)
    (hcf : ∀ (args : Array Value) (w : World), (callFunc fr args).run Tryz.prog w = .ok (.enter fr args) w)
    (hR : ∀ (F : Assn) (w : World), Sat w (RI * F) → Calls Tryz.prog fr #[rv, .int .i64 id] w (ReadAns (0, l) RI' F w))
    (h : Sat w (batchA 113 5 S b (.iface T rv) 0 W D * (pool S * (RI * F)))) (hn : kget W id = none) (hn' : kget D id = none) (hsm : small l) :
    Calls Tryz.prog 111 #[.pointer (some ⟨b, 0, none⟩), .int .i64 id] w (ReadQ b S (.iface T rv) (0, l) 0 W (SL.upd D id l) (RI' * F) w) := by
  obtain ⟨x, hx⟩ := h.batchOpen
  have hc1 : w.cell? ⟨b, 1, none⟩ = some (.int .i64 0) := hx.cell 1
  have hc2 : w.cell? ⟨b, 2, none⟩ = some x.wv := hx.cell 2
  have hc4 : w.cell? ⟨b, 4, none⟩ = some x.tv := hx.cell 4
  have hb1 : ((0 : Int) != 0) = false := by decide
  have hlk := ((hx.to (by ac_rfl : _ = bookA 5 S x.wv x.ws W * (pool S * (pt b (.cells (x.cells (.iface T rv) 0) 113 (0, 0)) * (bookA 5 S x.tv x.ts D * (askA x.av * (RI * F))))))).bookLook (P := Tryz.prog) Tryz.underlying108 Tryz.underlying3 (zero_bytes w) id).1 hn
  have hlk' := ((hx.to (by ac_rfl : _ = bookA 5 S x.tv x.ts D * (pool S * (pt b (.cells (x.cells (.iface T rv) 0) 113 (0, 0)) * (bookA 5 S x.wv x.ws W * (askA x.av * (RI * F))))))).bookLook (P := Tryz.prog) Tryz.underlying108 Tryz.underlying3 (zero_bytes w) id).1 hn'
  have hbg : Hid (l.length ≤ 1000000000) := Nat.le_trans hsm (by decide)
  have h0 : Sat w (pt b (.cells (x.cells (.iface T rv) 0) 113 (0, 0)) * (askA x.av * (RI * (bookA 5 S x.wv x.ws W * (bookA 5 S x.tv x.ts D * (pool S * F)))))) := hx.to (by ac_rfl)
  have HR := SL.hid hR; have Hm := SL.hid hm; have Hcf := SL.hid hcf
  clear hn hn' hR hm hcf
  go_enter Tryz.func111, Tryz.ntmps111
  go_wp2_with (go_at_call 132; refine (ask_any w b T rv fr 0 id x (0, l) RI RI' _ Hm.out Hcf.out HR.out h0).mono ?_; rintro e w1 ⟨dv, av, rfl, d1, h1⟩)
  clear hc1 hc2 hc4 hlk hlk'
  have hx1 : Sat w1 (pt b (.cells (({ x with av := av } : Bx).cells (.iface T rv) 0) 113 (0, 0)) * (bookA 5 S x.wv x.ws W * (bookA 5 S x.tv x.ts D * (askA av * (pool S * (bs 5 dv l * (RI' * F))))))) :=
    (h1.front3.ansYes).to (by ac_rfl)
  have hr1 : Hid (Rd w1 dv l) := (hx1.front6).bsRd
  go_region_held3 (fun _ => True) (trivial)
    (first
      | (go_at_call 92; refine (clone_any w1.drew _ l (Rds.drew hr1.out) hbg).mono ?_; rintro e w2 ⟨v2, rfl, hs2, d2⟩)
      | (go_at_call 124; obtain ⟨S', hE, hV, _, hS⟩ := Sat.addVal (w := w1.drew) (x := { x with av := av }) hx1 hs2 hsm; refine (put_any _ S' b 4 _ _ _ D id v2 l (bookA 5 S' x.wv x.ws W * (askA av * (bs 5 dv l * (RI' * F)))) hS rfl rfl hV).mono ?_; rintro e w3 ⟨m, rfl, hs3, d3⟩))
  have hr3 : Hid (Rd w3 dv l) := (hs3.front6).bsRd
  go_wp2_with (go_at_call 92; refine (clone_any w3 _ l hr3.out hbg).mono ?_; rintro e w4 ⟨v4, rfl, hs4, d4⟩)
  go_ret2
  refine ⟨S', v4, hE, rfl, ?_, (((d1.trans (Side.refl w1).drew).trans d2).trans d3).trans d4⟩
  have h5 := (hs3.front6).right
  have h6 : Sat w3 (pt b (.cells ((({ x with av := av, tv := .map (some m), ts := false } : Bx)).cells (.iface T rv) 0) 113 (0, 0)) * (bookA 5 S' x.wv x.ws W * (bookA 5 S' (.map (some m)) false (SL.upd D id l) * (askA av * (pool S' * (RI' * F)))))) := h5.to (by ac_rfl)
  exact (hs4.under (Sat.batchShut { x with av := av, tv := .map (some m), ts := false } h6)).ansOf
set_option maxRecDepth 100000 in
set_option maxHeartbeats 1000000 in
theorem read_no (w : World) (S : Hp) (b : Nat) (T : TypeId) (rv : Value) (fr : FuncId) (W D : CB) (id : Int) (c : Int) (l : List UInt8) (RI RI' F : Assn)
    (hm : ∀ (k : Nat) (w : World), (method (k + 1) T rv "Read").run Tryz.prog w = .ok (fr, rv) w)
    (hcf : ∀ (args : Array Value) (w : World), (callFunc fr args).run Tryz.prog w = .ok (.enter fr args) w)
    (hR : ∀ (F : Assn) (w : World), Sat w (RI * F) → Calls Tryz.prog fr #[rv, .int .i64 id] w (ReadAns (c, l) RI' F w)) (hc : c ≠ 0)
    (h : Sat w (batchA 113 5 S b (.iface T rv) 0 W D * (pool S * (RI * F)))) (hn : kget W id = none) (hn' : kget D id = none) :
    Calls Tryz.prog 111 #[.pointer (some ⟨b, 0, none⟩), .int .i64 id] w (ReadQ b S (.iface T rv) (c, l) c W D (RI' * F) w) := by
  obtain ⟨x, hx⟩ := h.batchOpen
  have hc1 : w.cell? ⟨b, 1, none⟩ = some (.int .i64 0) := hx.cell 1
  have hc2 : w.cell? ⟨b, 2, none⟩ = some x.wv := hx.cell 2
  have hc4 : w.cell? ⟨b, 4, none⟩ = some x.tv := hx.cell 4
  have hb1 : ((0 : Int) != 0) = false := by decide
  have hcn : (c != 0) = true := by simpa using hc
  have hlk := ((hx.to (by ac_rfl : _ = bookA 5 S x.wv x.ws W * (pool S * (pt b (.cells (x.cells (.iface T rv) 0) 113 (0, 0)) * (bookA 5 S x.tv x.ts D * (askA x.av * (RI * F))))))).bookLook (P := Tryz.prog) Tryz.underlying108 Tryz.underlying3 (zero_bytes w) id).1 hn
  have hlk' := ((hx.to (by ac_rfl : _ = bookA 5 S x.tv x.ts D * (pool S * (pt b (.cells (x.cells (.iface T rv) 0) 113 (0, 0)) * (bookA 5 S x.wv x.ws W * (askA x.av * (RI * F))))))).bookLook (P := Tryz.prog) Tryz.underlying108 Tryz.underlying3 (zero_bytes w) id).1 hn'
  have h0 : Sat w (pt b (.cells (x.cells (.iface T rv) 0) 113 (0, 0)) * (askA x.av * (RI * (bookA 5 S x.wv x.ws W * (bookA 5 S x.tv x.ts D * (pool S * F)))))) := hx.to (by ac_rfl)
  have HR := SL.hid hR; have Hm := SL.hid hm; have Hcf := SL.hid hcf; have Hc := SL.hid hc
  clear hn hn' hR hm hcf hc
  go_enter Tryz.func111, Tryz.ntmps111
  go_wp2_with (go_at_call 132; refine (ask_any w b T rv fr 0 id x (c, l) RI RI' _ Hm.out Hcf.out HR.out h0).mono ?_; rintro e w1 ⟨dv, av, rfl, d1, h1⟩; clear hc1 hc2 hc4 hlk hlk'; have g1 : w1.cell? ⟨b, 1, none⟩ = some (.int .i64 0) := h1.cell 1; have f1 := h1.frozen 1)
  go_ret2
  obtain ⟨rfl, h2⟩ := h1.front3.ansNo Hc.out
  refine ⟨S, _, Ext.refl S, rfl, ?_, d1.setCell _ _⟩
  have h3 := h2.setCell 1 (.int .i64 c)
  have h4 : Sat (w1.setCell ⟨b, 1, none⟩ (.int .i64 c)) (pt b (.cells ((({ x with av := av } : Bx)).cells (.iface T rv) c) 113 (0, 0)) * (bookA 5 S x.wv x.ws W * (bookA 5 S x.tv x.ts D * (askA av * (pool S * (RI' * F)))))) := h3.to (by ac_rfl)
  exact (Sat.batchShut { x with av := av } h4).ansNil Hc.out
end Go.Proofs.YtaoohjeaaccnfaaGreat.Ba
namespace Go.Proofs.YtaoohjeaaccnfaaGreat.Ba
set_option linter.unusedVariables false
set_option linter.unusedSimpArgs false
open Go.RowKit Go.SL
def NewQ (rd : Value) (w : World) (e : Ending) (w' : World) : Prop := ∃ b, e = .returned (.pointer (some ⟨b, 0, none⟩)) ∧ (∀ S, Sat w' (batchA 113 5 S b rd 0 [] [] * whole w)) ∧ Side w w'
theorem batch_fresh {w : World} {b : Nat} {rd : Value} {F : Assn} (h : Sat w (pt b (.cells #[rd, .int .i64 0, .map none, .bool false, .map none, .bool false, .map none] 113 (0, 0)) * F)) (S : Hp) :
    Sat w (batchA 113 5 S b rd 0 [] [] * F) := by
  have e1 : ∀ {w : World} {F : Assn} (v : Bool), Sat w F → Sat w (bookA 5 S (.map none) v [] * F) := fun v h => (h.to (emp_star _).symm).weak fun k hk => by rw [hk]; exact bookA_nil _ _ _
  have e2 : ∀ {w : World} {F : Assn}, Sat w F → Sat w (askA (.map none) * F) := fun h => (h.to (emp_star _).symm).weak fun k hk => .inl ⟨rfl, hk⟩
  exact Sat.batchShut ⟨.map none, false, .map none, false, .map none⟩ ((e1 false (e1 false (e2 h))).to (by ac_rfl))
set_option maxRecDepth 100000 in
set_option maxHeartbeats 1000000 in
theorem new_any (w : World) (T : TypeId) (rv : Value) :
    Calls Tryz.prog 24 #[.iface T rv] w (NewQ (.iface T rv) w) := by
  go_enter Tryz.func24, Tryz.ntmps24
  go_wp2
  go_ret
  exact ⟨w.heap.size, rfl, fun S => batch_fresh ((Sat.whole w).alloc _) S, (Side.refl w).alloc _⟩
/-- Rows of bytes that lie apart. -/
def rowsR (v : Value) (gs : List (Nat × List UInt8)) : Assn := sl 48 1 v gs.length (rowVals gs) * rowsA 5 gs
theorem rowsA_get {T : TypeId} {w : World} {gs : List (Nat × List UInt8)} {F : Assn} (h : Sat w (rowsA T gs * F)) {i : Nat} {p : Nat × List UInt8} (hp : gs[i]? = some p) : w.heap[p.1]? = some (.cells (u8s p.2) T (0, 0)) := by
  induction gs generalizing i F with
  | nil => simp at hp
  | cons q gs ih =>
    have h' : Sat w (pt q.1 (.cells (u8s q.2) T (0, 0)) * (rowsA T gs * F)) := h.to (star_assoc _ _ _)
    cases i with
    | zero => simp at hp; subst hp; exact h'.heap
    | succ i => exact ih (h'.to (star_left_comm _ _ _)) (by simpa using hp)
theorem rd_row {T : TypeId} {w : World} {g : Nat} {l : List UInt8} {c : Nat} (h : w.heap[g]? = some (.cells (u8s l) T (0, 0))) : Rd w (.slice (some ⟨g, 0, none⟩) l.length c) l := by
  refine ⟨by simp, .inr ⟨_, _, rfl, ?_⟩⟩
  have := At_of_take (n := l.length) h
  rwa [show (u8s l).toList.take l.length = l.map u8 from by simp [u8s, List.take_of_length_le]] at this
/-- What rows answer. -/
def rowAns (gs : List (Nat × List UInt8)) (id : Int) : Int × List UInt8 := if 0 ≤ id then match gs[id.toNat]? with | some p => (0, p.2) | none => (1, []) else (1, [])
def allSmall (gs : List (Nat × List UInt8)) : Prop := ∀ p ∈ gs, small p.2
set_option maxRecDepth 100000 in
set_option maxHeartbeats 1000000 in
theorem rowsRead_any (w : World) (v : Value) (gs : List (Nat × List UInt8)) (id : Int) (F : Assn) (hs : allSmall gs) (hlen : gs.length ≤ 1000) (h : Sat w (rowsR v gs * F)) :
    Calls Tryz.prog 178 #[v, .int .i64 id] w (ReadAns (rowAns gs id) (rowsR v gs) F w) := by
  have h' : Sat w (sl 48 1 v gs.length (rowVals gs) * (rowsA 5 gs * F)) := h.to (star_assoc _ _ _)
  obtain ⟨a, k, rfl⟩ : ∃ a k, v = .slice a gs.length k := by
    rcases h'.slCases with ⟨rfl, hz, _⟩ | ⟨g, cap, cur, rfl, _⟩
    · exact ⟨none, 0, by rw [hz]⟩
    · exact ⟨_, _, rfl⟩
  by_cases h0 : 0 ≤ id
  · obtain ⟨i, rfl⟩ := Int.eq_ofNat_of_zero_le h0
    by_cases hi : i < gs.length
    · have hi' : (i : Int) < (gs.length : Int) := by omega
      have hp : gs[i]? = some gs[i] := List.getElem?_eq_getElem hi
      have hA : rowAns gs i = (0, gs[i].2) := by simp [rowAns, hp]
      rw [hA]
      have hrow : w.heap[gs[i].1]? = _ := rowsA_get (h'.to (star_left_comm _ _ _)) hp
      have hcell : ∃ g, a = some ⟨g, 0, none⟩ ∧ w.cell? ⟨g, i, none⟩ = some (.slice (some ⟨gs[i].1, 0, none⟩) gs[i].2.length gs[i].2.length) := by
        rcases h'.rds.2 with ⟨hv, hz⟩ | ⟨a', c', hv, hat⟩
        · omega
        · cases hv
          rcases h'.slCases with ⟨hv, _⟩ | ⟨g, cap, cur, hv, _⟩
          · cases hv
          · cases hv
            refine ⟨g, rfl, ?_⟩
            have := hat i (.slice (some ⟨gs[i].1, 0, none⟩) gs[i].2.length gs[i].2.length) (by simp [rowVals, hi])
            rwa [Addr.add_lit, Nat.zero_add] at this
      obtain ⟨g, rfl, hc⟩ := hcell
      have hr := SL.hid (rd_row (c := gs[i].2.length) hrow)
      have hbg : Hid (gs[i].2.length ≤ 1000000000) := Nat.le_trans (hs _ (List.getElem_mem hi)) (by decide)
      clear hrow hp hA hs
      generalize hn : gs[i].2.length = n at hc hr
      clear hn
      have hlt : ¬ ((i : Int) < 0) := by omega
      go_enter Tryz.func178, Tryz.ntmps178
      go_wp2_with (go_at_call 92; refine (clone_any _ _ gs[i].2 hr.out hbg).mono ?_; rintro e w1 ⟨v1, rfl, hs1, hd1⟩)
      go_ret2
      exact ⟨v1, rfl, (hs1.under h).ansOf, hd1⟩
    · have hi' : ¬ (i : Int) < (gs.length : Int) := by omega
      have hA : rowAns gs i = (1, []) := by simp [rowAns, List.getElem?_eq_none (Nat.le_of_not_lt hi)]
      rw [hA]
      have hlt : ¬ ((i : Int) < 0) := by omega
      clear hA hs
      go_enter Tryz.func178, Tryz.ntmps178
      go_wp2
      go_ret2
      exact ⟨_, rfl, h.ansNil (by decide), Side.refl w⟩
  · have hA : rowAns gs id = (1, []) := by simp [rowAns, h0]
    rw [hA]
    have h0' : id < 0 := by omega
    clear hA hs h0
    go_enter Tryz.func178, Tryz.ntmps178
    go_wp2
    go_ret2
    exact ⟨_, rfl, h.ansNil (by decide), Side.refl w⟩
end Go.Proofs.YtaoohjeaaccnfaaGreat.Ba
namespace Go.Proofs.YtaoohjeaaccnfaaGreat.Ba
set_option linter.unusedVariables false
set_option linter.unusedSimpArgs false
open Go.RowKit Go.SL
def ShareQ (b o : Nat) (cs : Array Value) (bv : Value) (G : Assn) (w : World) (e : Ending) (w' : World) : Prop :=
  e = .returned (.agg #[bv, .bool true]) ∧ Sat w' (pt b (.cells (cs.setIfInBounds (o + 1) (.bool true)) 113 (0, 0)) * G) ∧ Side w w'
set_option maxRecDepth 100000 in
set_option maxHeartbeats 1000000 in
theorem share_any (w : World) (b o : Nat) (cs : Array Value) (r : Option Nat) (sh : Bool) (G : Assn) (h : Sat w (pt b (.cells cs 113 (0, 0)) * G)) (h0 : cs[o]? = some (.map r)) (h1 : cs[o + 1]? = some (.bool sh)) :
    Calls Tryz.prog 65 #[.pointer (some ⟨b, o, none⟩)] w (ShareQ b o cs (.map r) G w) := by
  have hc0 : w.cell? ⟨b, o, none⟩ = some (.map r) := (h.cell o).trans h0
  have hc1 : w.cell? ⟨b, o + 1, none⟩ = some (.bool sh) := (h.cell (o + 1)).trans h1
  have hf0 : ∀ o, w.frozen? ⟨b, o, none⟩ = false := h.frozen
  have hlt : b < w.heap.size := h.lt
  have hne : ¬ (w.heap.size = b) := by omega
  have hne' : ¬ (b = w.heap.size) := by omega
  have ho : ¬ (o = o + 1) := by omega
  have H0 := SL.hid h0; have H1 := SL.hid h1; clear h0 h1
  go_enter Tryz.func65, Tryz.ntmps65
  go_wp2
  refine bodyPost_ret (v := .agg #[.map r, .bool true]) (by simp [results, Tryz.results65, go_sem]) rfl ?_
  exact ⟨rfl, ((h.setCell (o + 1) (.bool true)).alloc _).right, ((Side.refl w).setCell _ _).alloc _⟩
def ForkQ (b : Nat) (S : Hp) (rd : Value) (err : Int) (W D : CB) (F : Assn) (w : World) (e : Ending) (w' : World) : Prop :=
  ∃ S' f, Ext S S' ∧ e = .returned (.pointer (some ⟨f, 0, none⟩)) ∧ Sat w' (batchA 113 5 S' f rd err W D * (batchA 113 5 S' b rd err W D * (pool S' * F))) ∧ Side w w'
set_option maxRecDepth 100000 in
set_option maxHeartbeats 2000000 in
theorem fork_any (w : World) (S : Hp) (b : Nat) (rd : Value) (err : Int) (W D : CB) (F : Assn)
    (h : Sat w (batchA 113 5 S b rd err W D * (pool S * F))) (hrd : ∃ T v, rd = .iface T v) :
    Calls Tryz.prog 28 #[.pointer (some ⟨b, 0, none⟩)] w (ForkQ b S rd err W D F w) := by
  obtain ⟨T, rv, rfl⟩ := hrd
  obtain ⟨x, hx⟩ := h.batchOpen
  obtain ⟨rw, hwv⟩ := hx.front2.bookVal
  obtain ⟨rt, htv⟩ := hx.front3.bookVal
  obtain ⟨wv, ws, tv, ts, av⟩ := x
  simp only at hwv htv
  subst hwv htv
  have hc0 : w.cell? ⟨b, 0, none⟩ = some (.iface T rv) := hx.cell 0
  have hc1 : w.cell? ⟨b, 1, none⟩ = some (.int .i64 err) := hx.cell 1
  go_enter Tryz.func28, Tryz.ntmps28
  go_wp2
  go_region_held3 (fun w' => w'.cell? ⟨b, 0, none⟩ = some (.iface T rv) ∧ w'.cell? ⟨b, 1, none⟩ = some (.int .i64 err)) (go_keep)
    (first
      | (go_at_call_of 65 (Value.pointer (some ⟨b, 2, none⟩)); refine (share_any w.drew b 2 _ rw ws _ hx rfl rfl).mono ?_; rintro e w1 ⟨rfl, h1, d1⟩; have g0 := h1.cell 0; have g1 := h1.cell 1; simp [Bx.cells] at g0 g1)
      | (go_at_call_of 65 (Value.pointer (some ⟨b, 4, none⟩)); refine (share_any w1 b 4 _ rt ts _ h1 rfl rfl).mono ?_; rintro e w2 ⟨rfl, h2, d2⟩; have k0 := h2.cell 0; have k1 := h2.cell 1; simp [Bx.cells] at k0 k1))
  go_wp2
  go_ret
  have h3 := h2.alloc (.cells #[.iface T rv, .int .i64 err, .map rw, .bool true, .map rt, .bool true, .map none] 113 (0, 0))
  obtain ⟨S', hE, h4⟩ := Sat.shareTwo (T := 5) (S := S) (v := .map rw) (sh := ws) (C := W) (v' := .map rt) (sh' := ts) (C' := D) (F := pt w2.heap.size (.cells #[.iface T rv, .int .i64 err, .map rw, .bool true, .map rt, .bool true, .map none] 113 (0, 0)) * (pt b (.cells #[.iface T rv, .int .i64 err, .map rw, .bool true, .map rt, .bool true, av] 113 (0, 0)) * (askA av * F))) (h3.to (by
    show _ * (pt b (.cells #[.iface T rv, .int .i64 err, .map rw, .bool true, .map rt, .bool true, av] 113 (0, 0)) * _) = _
    ac_rfl))
  refine ⟨S', _, hE, rfl, ?_, (((Side.refl w).drew.trans d1).trans d2).alloc _⟩
  have e2 : ∀ {w : World} {F : Assn}, Sat w F → Sat w (askA (.map none) * F) := fun h => (h.to (emp_star _).symm).weak fun k hk => .inl ⟨rfl, hk⟩
  have h5 := e2 h4
  refine Sat.batchShut ⟨.map rw, true, .map rt, true, .map none⟩ ?_
  have h6 : Sat (w2.alloc (.cells #[.iface T rv, .int .i64 err, .map rw, .bool true, .map rt, .bool true, .map none] 113 (0, 0))) (batchA 113 5 S' b (.iface T rv) err W D * (pt w2.heap.size (.cells #[.iface T rv, .int .i64 err, .map rw, .bool true, .map rt, .bool true, .map none] 113 (0, 0)) * (bookA 5 S' (.map rw) true W * (bookA 5 S' (.map rt) true D * (askA (.map none) * (pool S' * F)))))) :=
    Sat.batchShut ⟨.map rw, true, .map rt, true, av⟩ (h5.to (by simp only [Bx.cells]; ac_rfl))
  exact h6.to (by simp only [Bx.cells]; ac_rfl)
def JoinQ (b f : Nat) (S : Hp) (rd : Value) (err : Int) (W D : CB) (F : Assn) (w : World) (e : Ending) (w' : World) : Prop :=
  ∃ S', Ext S S' ∧ e = .returned (.tuple #[]) ∧ Sat w' (batchA 113 5 S' b rd err W D * (batchA 113 5 S' f rd err W D * (pool S' * F))) ∧ Side w w'
set_option maxRecDepth 100000 in
set_option maxHeartbeats 2000000 in
theorem join_any (w : World) (S : Hp) (b f : Nat) (rd rd' : Value) (err err' : Int) (W D W' D' : CB) (F : Assn)
    (h : Sat w (batchA 113 5 S b rd' err' W' D' * (batchA 113 5 S f rd err W D * (pool S * F)))) (hrd : ∃ T v, rd = .iface T v) :
    Calls Tryz.prog 31 #[.pointer (some ⟨b, 0, none⟩), .pointer (some ⟨f, 0, none⟩)] w (JoinQ b f S rd err W D F w) := by
  obtain ⟨T, rv, rfl⟩ := hrd
  obtain ⟨y, hy⟩ := h.batchOpen
  have hy' : Sat w (batchA 113 5 S f (.iface T rv) err W D * (pt b (.cells (y.cells rd' err') 113 (0, 0)) * (askA y.av * (pool S * F)))) :=
    (hy.drop2.drop2).to (by ac_rfl)
  obtain ⟨x, hx⟩ := hy'.batchOpen
  obtain ⟨rw, hwv⟩ := hx.front2.bookVal
  obtain ⟨rt, htv⟩ := hx.front3.bookVal
  obtain ⟨wv, ws, tv, ts, av⟩ := x
  simp only at hwv htv
  subst hwv htv
  obtain ⟨yw, yws, yt, yts, yav⟩ := y
  clear h hy hy'
  have hne : f ≠ b := Sat.ne (hx.front5.front2)
  have hn1 : ¬ (f = b) := hne
  have hn2 : ¬ (b = f) := fun e => hne e.symm
  have hc0 : w.cell? ⟨f, 0, none⟩ = some (.iface T rv) := hx.cell 0
  have hc1 : w.cell? ⟨f, 1, none⟩ = some (.int .i64 err) := hx.cell 1
  have hb0 : w.cell? ⟨b, 0, none⟩ = some rd' := hx.front5.cell 0
  have hb1 : w.cell? ⟨b, 1, none⟩ = some (.int .i64 err') := hx.front5.cell 1
  have hbf : ∀ o, w.frozen? ⟨b, o, none⟩ = false := hx.front5.frozen
  obtain ⟨j, hj, hj7⟩ := Option.map_eq_some_iff.1 (show (Tryz.prog.info? 113).map (·.size) = some 7 by kernel_rfl)
  have heq : (binOp .eql 24 (.pointer (some ⟨f, 0, none⟩)) (.pointer (some ⟨b, 0, none⟩))).run Tryz.prog w = .ok (.bool false) w :=
    run_eql_ptr_other w Tryz.underlying24 hj (by rw [hj7]; decide) (by simp [hne]) hx.heap hx.front5.heap
  clear hne hj hj7
  have h1 := ((hx.front5.setCell 0 (.iface T rv)).setCell 1 (.int .i64 err)).back5
  go_enter Tryz.func31, Tryz.ntmps31
  go_wp2_with fail
  refine (share_any _ f 2 _ rw ws _ h1 rfl rfl).mono ?_
  rintro e w1 ⟨rfl, h2, d1⟩
  clear hc0 hc1 hb0 hb1 hbf heq
  have k2 := h2.front5.cell 2; have k3 := h2.front5.cell 3; have kf : ∀ o, w1.frozen? ⟨b, o, none⟩ = false := h2.front5.frozen
  simp [Bx.cells] at k2 k3
  go_wp2_with fail
  have h3 := ((h2.front5.setCell 2 (.map rw)).setCell 3 (.bool true)).back5
  refine (share_any _ f 4 _ rt ts _ h3 rfl rfl).mono ?_
  rintro e w2 ⟨rfl, h4, d2⟩
  clear k2 k3 kf
  have k4 := h4.front5.cell 4; have k5 := h4.front5.cell 5; have kf : ∀ o, w2.frozen? ⟨b, o, none⟩ = false := h4.front5.frozen
  simp [Bx.cells] at k4 k5
  go_wp2
  go_end0
  have h5 := ((h4.front5.setCell 4 (.map rt)).setCell 5 (.bool true)).back5
  change Sat _ (pt f (.cells #[.iface T rv, .int .i64 err, .map rw, .bool true, .map rt, .bool true, av] 113 (0, 0)) * (_ * (_ * (_ * (pt b (.cells #[.iface T rv, .int .i64 err, .map rw, .bool true, .map rt, .bool true, yav] 113 (0, 0)) * _))))) at h5
  obtain ⟨S', hE, h6⟩ := Sat.shareTwo (T := 5) (S := S) (v := .map rw) (sh := ws) (C := W) (v' := .map rt) (sh' := ts) (C' := D)
    (F := pt f (.cells #[.iface T rv, .int .i64 err, .map rw, .bool true, .map rt, .bool true, av] 113 (0, 0)) * (pt b (.cells #[.iface T rv, .int .i64 err, .map rw, .bool true, .map rt, .bool true, yav] 113 (0, 0)) * (askA av * (askA yav * F)))) (h5.to (by ac_rfl))
  refine ⟨S', hE, rfl, ?_, (((((((Side.refl w).setCell _ _).setCell _ _).trans d1).setCell _ _).setCell _ _).trans d2).setCell _ _ |>.setCell _ _⟩
  refine Sat.batchShut ⟨.map rw, true, .map rt, true, yav⟩ ?_
  generalize ((w2.setCell _ _).setCell _ _) = w3 at h6 ⊢
  have h7 : Sat w3 (batchA 113 5 S' f (.iface T rv) err W D * (pt b (.cells #[.iface T rv, .int .i64 err, .map rw, .bool true, .map rt, .bool true, yav] 113 (0, 0)) * (bookA 5 S' (.map rw) true W * (bookA 5 S' (.map rt) true D * (askA yav * (pool S' * F)))))) :=
    Sat.batchShut ⟨.map rw, true, .map rt, true, av⟩ (h6.to (by simp only [Bx.cells]; ac_rfl))
  exact h7.to (by simp only [Bx.cells]; ac_rfl)
end Go.Proofs.YtaoohjeaaccnfaaGreat.Ba

/- batch: ask, and what it defers. -/
import Derived.Test.YtcgpegdnicnciaaW4
import Derived.Recover
namespace Go.Proofs.Ytcgpegdnicnciaa
set_option linter.unusedVariables false
set_option linter.unusedSimpArgs false
open Go.RowKit Go.SL
def DoneD (m : Nat) (M : KV) (id : Int) (F : Assn) (w : World) (e : Ending) (u : FrameMode) (w' : World) : Prop :=
  e = .returned (.tuple #[]) ∧ u = .returning ∧ Sat w' (mp m (del M id) * F) ∧ Side w w'
set_option maxRecDepth 100000 in
set_option maxHeartbeats 1000000 in
theorem askdone_any (w : World) (p2 p3 p4 p5 : Addr) (b m : Nat) (id : Int) (M : KV) (F : Assn) (h : Sat w (mp m M * F))
    (h2 : w.cell? p2 = some (.pointer (some ⟨b, 0, none⟩))) (h3 : w.cell? p3 = some (.int .i64 id)) (hA : w.cell? ⟨b, 6, none⟩ = some (.map (some m))) :
    CallsD Try.prog 27 #[.pointer (some p2), .pointer (some p3), .pointer (some p4), .pointer (some p5)] .returning w (DoneD m M id F w) := by
  obtain ⟨w1, hrun, hs1, hd1, hce⟩ := Sat.delete (P := Try.prog) Try.underlying52 Try.underlying3 0 3 (w := w.drew) h id
  have g2 : w1.cell? p2 = some (.pointer (some ⟨b, 0, none⟩)) := (hce.1 _).trans h2
  have g3 : w1.cell? p3 = some (.int .i64 id) := (hce.1 _).trans h3
  have gA : w1.cell? ⟨b, 6, none⟩ = some (.map (some m)) := (hce.1 _).trans hA
  clear hce
  refine callsD_of_wpS Try.func27 rfl fun c₀ cs hu => ?_
  apply wpS_seq
  refine wpS_of_wp ?_
  simp only [Try.ntmps27, List.size_toArray, List.length_cons, List.length_nil, Nat.reduceAdd, Nat.reduceSub, Array.replicate_succ,
     Array.replicate_zero, List.push_toArray, List.append_toArray, List.nil_append, List.cons_append]
  go_region_held3 (fun w' => w'.cell? p2 = some (.pointer (some ⟨b, 0, none⟩)) ∧ w'.cell? p3 = some (.int .i64 id) ∧ w'.cell? ⟨b, 6, none⟩ = some (.map (some m))) (go_keep) (fail)
  clear g2 g3 gA
  simp only [Exit.thenS]
  apply wpS_seq
  apply wpS_region
  simp [wpOpsS, go_sem, recoverD, hu, Exit.thenS]
  refine wpS_cond (t := false) (by simp [Act.eval]) ?_
  simp only [Bool.false_eq_true, if_false]
  refine wpS_of_wp (wp_skip ?_)
  cases c₀
  simp_all [bodyPostS, results, Try.results27]
  exact ⟨rfl, rfl, hs1, (Side.refl w).drew.trans hd1⟩
def ReadAns (A : Int × List UInt8) (RI' F : Assn) (w : World) (e : Ending) (w' : World) : Prop :=
  ∃ dv, e = .returned (.tuple #[dv, .int .i64 A.1]) ∧ Sat w' (ansA 5 A dv * (RI' * F)) ∧ Side w w'
def AskQ (b : Nat) (rd : Value) (err : Int) (x : Bx) (A : Int × List UInt8) (RI' F : Assn) (w : World) (e : Ending) (w' : World) : Prop :=
  ∃ dv av', e = .returned (.tuple #[dv, .int .i64 A.1]) ∧ Side w w' ∧
    Sat w' (pt b (.cells (({ x with av := av' } : Bx).cells rd err) 54 (0, 0)) * (askA av' * (ansA 5 A dv * (RI' * F))))
set_option maxRecDepth 100000 in
set_option maxHeartbeats 2000000 in
theorem ask_some (w : World) (b : Nat) (T : TypeId) (rv : Value) (fr : FuncId) (err id : Int) (x : Bx) (A : Int × List UInt8) (RI RI' F : Assn) (m : Nat) (hav : x.av = .map (some m))
    (hm : ∀ (k : Nat) (w : World), (method (k + 1) T rv "Read").run Try.prog w = .ok (fr, rv) w)
    (hcf : ∀ (args : Array Value) (w : World), (callFunc fr args).run Try.prog w = .ok (.enter fr args) w)
    (hR : ∀ (F : Assn) (w : World), Sat w (RI * F) → Calls Try.prog fr #[rv, .int .i64 id] w (ReadAns A RI' F w))
    (h : Sat w (pt b (.cells (x.cells (.iface T rv) err) 54 (0, 0)) * (mp m [] * (RI * F)))) :
    Calls Try.prog 23 #[.pointer (some ⟨b, 0, none⟩), .int .i64 id] w (AskQ b (.iface T rv) err x A RI' F w) := by
  have hmf : ∀ (fn : Fn) (first cap : Array Value) (w : World), (Instr.makeFunc fn first cap).run Try.prog w = .ok (.func fn first cap) w := fun _ _ _ _ => rfl
  have hc0 : w.cell? ⟨b, 0, none⟩ = some (.iface T rv) := h.cell 0
  have hlt : b < w.heap.size := h.lt
  have n1 : b < w.heap.size + 1 := by omega
  have n2 : b < w.heap.size + 1 + 1 := by omega
  have n3 : b < w.heap.size + 1 + 1 + 1 := by omega
  have HR := SL.hid hR; clear hR
  go_enter_defers Try.func23, Try.ntmps23
  go_wp2
  have h4 := (((h.alloc (.cells #[.pointer (some ⟨b, 0, none⟩)] 24 (0, 0))).alloc (.cells #[.int .i64 id] 3 (0, 0))).alloc (.cells #[.slice none 0 0] 31 (0, 0))).alloc (.cells #[.int .i64 0] 29 (0, 0))
  simp only [World.size_alloc] at h4
  have d4 := ((((Side.refl w).alloc (.cells #[.pointer (some ⟨b, 0, none⟩)] 24 (0, 0))).alloc (.cells #[.int .i64 id] 3 (0, 0))).alloc (.cells #[.slice none 0 0] 31 (0, 0))).alloc (.cells #[.int .i64 0] 29 (0, 0))
  generalize ((((w.alloc (.cells #[.pointer (some ⟨b, 0, none⟩)] 24 (0, 0))).alloc (.cells #[.int .i64 id] 3 (0, 0))).alloc (.cells #[.slice none 0 0] 31 (0, 0))).alloc (.cells #[.int .i64 0] 29 (0, 0))) = w4 at h4 d4 ⊢
  clear hc0 h n1 n2 n3
  generalize w.heap.size = n at h4 hlt ⊢
  -- 1: err, 2: data, 3: id, 4: b, 5: the struct, 6: asked
  have c2 : w4.cell? ⟨n, 0, none⟩ = some (.pointer (some ⟨b, 0, none⟩)) := h4.front4.cell 0
  have c3 : w4.cell? ⟨n + 1, 0, none⟩ = some (.int .i64 id) := h4.front3.cell 0
  have b6 : w4.cell? ⟨b, 6, none⟩ = some (.map (some m)) := (h4.front5.cell 6).trans (congrArg some hav)
  obtain ⟨o0, ho0, hmh, _⟩ := h4.front6.mpHeap
  have hl : ∀ w', w'.heap[m]? = some o0 → (Instr.lookup 52 (.map (some m)) (.int .i64 id) true).run Try.prog w' = .ok (.tuple #[.agg #[], .bool false]) w' := fun w' hw =>
    run_lookup_int (P := Try.prog) Try.underlying52 Try.underlying3 (by kernel_rfl) hw ho0 id true
  go_region_held3 (fun w' => w'.cell? ⟨n, 0, none⟩ = some (.pointer (some ⟨b, 0, none⟩)) ∧ w'.cell? ⟨n + 1, 0, none⟩ = some (.int .i64 id) ∧ w'.cell? ⟨b, 6, none⟩ = some (.map (some m)) ∧ w'.heap[m]? = some o0)
    (refine ⟨?_, ?_, ?_, ?_⟩ <;> first | exact hmh | exact heap_keep hmh _ | go_keep) (fail)
  all_goals
    have h5 := (h4.alloc (.cells #[] 67 (0, 0))).right
    have d5 := d4.alloc (.cells #[] 67 (0, 0))
    change Exit.then _ _ _ _ (w4.alloc (.cells #[] 67 (0, 0))).drew
    generalize hw5 : (w4.alloc (.cells #[] 67 (0, 0))).drew = w5
    replace h5 : Sat w5 _ := hw5 ▸ h5.drew
    replace d5 : Side w w5 := hw5 ▸ d5.drew
    clear hw5 hl hmh c2 c3 b6 h4 d4 ho0
    have c2 : w5.cell? ⟨n, 0, none⟩ = some (.pointer (some ⟨b, 0, none⟩)) := h5.front4.cell 0
    have c3 : w5.cell? ⟨n + 1, 0, none⟩ = some (.int .i64 id) := h5.front3.cell 0
    have b6 : w5.cell? ⟨b, 6, none⟩ = some (.map (some m)) := (h5.front5.cell 6).trans (congrArg some hav)
    have hnil := fun w => run_eql_map_nil (P := Try.prog) w 52 3 67 (some m) Try.underlying52
    go_wp2
    clear hnil
    obtain ⟨w6, hup, h6, d6, ce⟩ := Sat.mapUpdate (P := Try.prog) Try.underlying52 Try.underlying3 (w := w5.drew) h5.front6 id (.agg #[])
    have e2 : w6.cell? ⟨n, 0, none⟩ = some (.pointer (some ⟨b, 0, none⟩)) := (ce.1 _).trans c2
    have e3 : w6.cell? ⟨n + 1, 0, none⟩ = some (.int .i64 id) := (ce.1 _).trans c3
    have e6 : w6.cell? ⟨b, 6, none⟩ = some (.map (some m)) := (ce.1 _).trans b6
    clear ce
    go_region_held3 (fun w' => w'.cell? ⟨n, 0, none⟩ = some (.pointer (some ⟨b, 0, none⟩)) ∧ w'.cell? ⟨n + 1, 0, none⟩ = some (.int .i64 id) ∧ w'.cell? ⟨b, 6, none⟩ = some (.map (some m)))
      (go_keep) (fail)
    replace d6 : Side w w6 := (d5.drew).trans d6
    clear hup h5 d5 c2 c3 b6 e6
    have e0 : w6.cell? ⟨b, 0, none⟩ = some (.iface T rv) := h6.front6.cell 0
    replace h6 := h6.back6
    go_wp2
    have q1 : ¬ (n = n + 1 + 1) := by omega
    have q2 : ¬ (n = n + 1 + 1 + 1) := by omega
    have q3 : ¬ (b = n + 1 + 1) := by omega
    have q4 : ¬ (b = n + 1 + 1 + 1) := by omega
    have q5 : ¬ (n + 1 + 1 = n) := by omega
    have q6 : ¬ (n + 1 + 1 + 1 = n) := by omega
    have q7 : ¬ (n + 1 + 1 = b) := by omega
    have q8 : ¬ (n + 1 + 1 + 1 = b) := by omega
    go_region_held3 (fun w' => w'.cell? ⟨n, 0, none⟩ = some (.pointer (some ⟨b, 0, none⟩)) ∧ w'.cell? ⟨n + 1, 0, none⟩ = some (.int .i64 id) ∧ w'.cell? ⟨b, 0, none⟩ = some (.iface T rv))
      (go_keep) ((refine (HR.out _ w6.drew h6.front7).mono ?_; rintro e w7 ⟨dv, rfl, h7, d7⟩; have hsl := Sat.ansSlice h7; obtain ⟨da, dk, dc, hsl⟩ := hsl; subst hsl; have g2 := h7.front6.cell 0; have g3 := h7.front5.cell 0; have gb := h7.front7.cell 0; have gd := h7.front4.cell 0; have ge := h7.front3.cell 0; have fd := h7.front4.frozen 0; have fe := h7.front3.frozen 0; simp [Bx.cells] at g2 g3 gb gd ge))
    clear g2 g3 gb gd ge fd fe e0 e2 e3
    go_wp2
    have h8 := ((h7.front4.setCell 0 (.slice da dk dc)).back4.front3.setCell 0 (.int .i64 A.1)).back3
    refine leaves_cons (f := 27) (args := #[.pointer (some ⟨n, 0, none⟩), .pointer (some ⟨n + 1, 0, none⟩), .pointer (some ⟨n + 1 + 1, 0, none⟩), .pointer (some ⟨n + 1 + 1 + 1, 0, none⟩)]) (by simp) (by simp [go_sem]) ?_
    refine (askdone_any _ ⟨n, 0, none⟩ ⟨n + 1, 0, none⟩ _ _ b m id _ _ h8.front8 (h8.front6.cell 0) (h8.front5.cell 0) ((h8.front7.cell 6).trans (congrArg some hav))).mono ?_
    rintro e u w9 ⟨rfl, rfl, h9, d9⟩
    have h10 := h9.back8
    have r4 : w9.cell? ⟨n + 1 + 1, 0, none⟩ = some (.slice da dk dc) := h10.front4.cell 0
    have r5 : w9.cell? ⟨n + 1 + 1 + 1, 0, none⟩ = some (.int .i64 A.1) := h10.front3.cell 0
    refine ⟨.tuple #[.slice da dk dc, .int .i64 A.1], ?_, ?_⟩
    · simp [results, Try.results23, go_sem, r4, r5]
    · refine ⟨.slice da dk dc, .map (some m), rfl, (d6.drew.trans d7).trans (((Side.refl w7).setCell _ _).setCell _ _ |>.trans d9), ?_⟩
      have hx : ({ x with av := Value.map (some m) } : Bx) = x := by rw [← hav]
      rw [hx]
      have hd : del (upd ([] : KV) id (.agg #[])) id = [] := by simp [del, upd, kget]
      rw [hd] at h9
      have h11 := h9.weak (Q := askA (.map (some m))) fun k hk => .inr ⟨m, rfl, hk⟩
      exact h11.drop4.drop4.drop4.drop4.front4
set_option maxRecDepth 100000 in
set_option maxHeartbeats 2000000 in
theorem ask_none (w : World) (b : Nat) (T : TypeId) (rv : Value) (fr : FuncId) (err id : Int) (x : Bx) (A : Int × List UInt8) (RI RI' F : Assn) (hav : x.av = .map none)
    (hm : ∀ (k : Nat) (w : World), (method (k + 1) T rv "Read").run Try.prog w = .ok (fr, rv) w)
    (hcf : ∀ (args : Array Value) (w : World), (callFunc fr args).run Try.prog w = .ok (.enter fr args) w)
    (hR : ∀ (F : Assn) (w : World), Sat w (RI * F) → Calls Try.prog fr #[rv, .int .i64 id] w (ReadAns A RI' F w))
    (h : Sat w (pt b (.cells (x.cells (.iface T rv) err) 54 (0, 0)) * (RI * F))) :
    Calls Try.prog 23 #[.pointer (some ⟨b, 0, none⟩), .int .i64 id] w (AskQ b (.iface T rv) err x A RI' F w) := by
  have hmf : ∀ (fn : Fn) (first cap : Array Value) (w : World), (Instr.makeFunc fn first cap).run Try.prog w = .ok (.func fn first cap) w := fun _ _ _ _ => rfl
  have hc0 : w.cell? ⟨b, 0, none⟩ = some (.iface T rv) := h.cell 0
  have hlt : b < w.heap.size := h.lt
  have n1 : b < w.heap.size + 1 := by omega
  have n2 : b < w.heap.size + 1 + 1 := by omega
  have n3 : b < w.heap.size + 1 + 1 + 1 := by omega
  have HR := SL.hid hR; clear hR
  go_enter_defers Try.func23, Try.ntmps23
  go_wp2
  have h4 := (((h.alloc (.cells #[.pointer (some ⟨b, 0, none⟩)] 24 (0, 0))).alloc (.cells #[.int .i64 id] 3 (0, 0))).alloc (.cells #[.slice none 0 0] 31 (0, 0))).alloc (.cells #[.int .i64 0] 29 (0, 0))
  simp only [World.size_alloc] at h4
  have d4 := ((((Side.refl w).alloc (.cells #[.pointer (some ⟨b, 0, none⟩)] 24 (0, 0))).alloc (.cells #[.int .i64 id] 3 (0, 0))).alloc (.cells #[.slice none 0 0] 31 (0, 0))).alloc (.cells #[.int .i64 0] 29 (0, 0))
  generalize ((((w.alloc (.cells #[.pointer (some ⟨b, 0, none⟩)] 24 (0, 0))).alloc (.cells #[.int .i64 id] 3 (0, 0))).alloc (.cells #[.slice none 0 0] 31 (0, 0))).alloc (.cells #[.int .i64 0] 29 (0, 0))) = w4 at h4 d4 ⊢
  clear hc0 h n1 n2 n3
  generalize w.heap.size = n at h4 hlt ⊢
  -- 1: err, 2: data, 3: id, 4: b, 5: the struct, 6: asked
  have c2 : w4.cell? ⟨n, 0, none⟩ = some (.pointer (some ⟨b, 0, none⟩)) := h4.front4.cell 0
  have c3 : w4.cell? ⟨n + 1, 0, none⟩ = some (.int .i64 id) := h4.front3.cell 0
  have b6 : w4.cell? ⟨b, 6, none⟩ = some (.map none) := (h4.front5.cell 6).trans (congrArg some hav)
  have hl : ∀ w', (Instr.lookup 52 (.map none) (.int .i64 id) true).run Try.prog w' = .ok (.tuple #[.agg #[], .bool false]) w' := fun w' =>
    run_lookup_int_nil (P := Try.prog) Try.underlying52 Try.underlying3 (by kernel_rfl) id true
  go_region_held3 (fun w' => w'.cell? ⟨n, 0, none⟩ = some (.pointer (some ⟨b, 0, none⟩)) ∧ w'.cell? ⟨n + 1, 0, none⟩ = some (.int .i64 id) ∧ w'.cell? ⟨b, 6, none⟩ = some (.map none))
    (go_keep) (fail)
  all_goals
    have h5 := (h4.alloc (.cells #[] 67 (0, 0))).right
    have d5 := d4.alloc (.cells #[] 67 (0, 0))
    change Exit.then _ _ _ _ (w4.alloc (.cells #[] 67 (0, 0))).drew
    generalize hw5 : (w4.alloc (.cells #[] 67 (0, 0))).drew = w5
    replace h5 : Sat w5 _ := hw5 ▸ h5.drew
    replace d5 : Side w w5 := hw5 ▸ d5.drew
    clear hw5 hl c2 c3 b6 h4 d4
    have c2 : w5.cell? ⟨n, 0, none⟩ = some (.pointer (some ⟨b, 0, none⟩)) := h5.front4.cell 0
    have c3 : w5.cell? ⟨n + 1, 0, none⟩ = some (.int .i64 id) := h5.front3.cell 0
    have b6 : w5.cell? ⟨b, 6, none⟩ = some (.map none) := (h5.front5.cell 6).trans (congrArg some hav)
    have hnil := fun w => run_eql_map_nil (P := Try.prog) w 52 3 67 none Try.underlying52
    have hfz : w5.frozen? ⟨b, 6, none⟩ = false := h5.front5.frozen 6
    have hmm := @run_makeMap Try.prog
    have hb5 : b < w5.heap.size := h5.front5.lt
    go_wp2
    clear hnil hmm hfz
    have h5' := (h5.front5.setCell 6 (.map (some w5.heap.size))).alloc (.map #[] 0)
    rw [World.size_setCell] at h5'
    have d5' := (d5.setCell ⟨b, 6, none⟩ (.map (some w5.heap.size))).alloc (.map #[] 0)
    generalize (w5.setCell ⟨b, 6, none⟩ (.map (some w5.heap.size))).alloc (.map #[] 0) = w5' at h5' d5' ⊢
    generalize w5.heap.size = m at h5' ⊢
    clear h5 d5 c2 c3 b6 hb5
    -- the struct 1, asked 2, err 3, data 4, id 5, b 6
    have h5 := (h5'.mpOf isMap_empty).back6.back5
    clear h5'
    change Sat w5' (pt (n + 1 + 1 + 1) _ * (pt (n + 1 + 1) _ * (pt (n + 1) _ * (pt n _ * (pt b (.cells (({ x with av := .map (some m) } : Bx).cells (.iface T rv) err) 54 (0, 0)) * _))))) at h5
    have c2 : w5'.cell? ⟨n, 0, none⟩ = some (.pointer (some ⟨b, 0, none⟩)) := h5.front4.cell 0
    have c3 : w5'.cell? ⟨n + 1, 0, none⟩ = some (.int .i64 id) := h5.front3.cell 0
    have b6 : w5'.cell? ⟨b, 6, none⟩ = some (.map (some m)) := h5.front5.cell 6
    obtain ⟨w6, hup, h6, d6, ce⟩ := Sat.mapUpdate (P := Try.prog) Try.underlying52 Try.underlying3 (w := w5'.drew) h5.front6 id (.agg #[])
    have e2 : w6.cell? ⟨n, 0, none⟩ = some (.pointer (some ⟨b, 0, none⟩)) := (ce.1 _).trans c2
    have e3 : w6.cell? ⟨n + 1, 0, none⟩ = some (.int .i64 id) := (ce.1 _).trans c3
    have e6 : w6.cell? ⟨b, 6, none⟩ = some (.map (some m)) := (ce.1 _).trans b6
    clear ce
    go_region_held3 (fun w' => w'.cell? ⟨n, 0, none⟩ = some (.pointer (some ⟨b, 0, none⟩)) ∧ w'.cell? ⟨n + 1, 0, none⟩ = some (.int .i64 id) ∧ w'.cell? ⟨b, 6, none⟩ = some (.map (some m)))
      (go_keep) (fail)
    replace d6 : Side w w6 := (d5'.drew).trans d6
    clear hup h5 d5' c2 c3 b6 e6
    have e0 : w6.cell? ⟨b, 0, none⟩ = some (.iface T rv) := h6.front6.cell 0
    replace h6 := h6.back6
    go_wp2
    have q1 : ¬ (n = n + 1 + 1) := by omega
    have q2 : ¬ (n = n + 1 + 1 + 1) := by omega
    have q3 : ¬ (b = n + 1 + 1) := by omega
    have q4 : ¬ (b = n + 1 + 1 + 1) := by omega
    have q5 : ¬ (n + 1 + 1 = n) := by omega
    have q6 : ¬ (n + 1 + 1 + 1 = n) := by omega
    have q7 : ¬ (n + 1 + 1 = b) := by omega
    have q8 : ¬ (n + 1 + 1 + 1 = b) := by omega
    go_region_held3 (fun w' => w'.cell? ⟨n, 0, none⟩ = some (.pointer (some ⟨b, 0, none⟩)) ∧ w'.cell? ⟨n + 1, 0, none⟩ = some (.int .i64 id) ∧ w'.cell? ⟨b, 0, none⟩ = some (.iface T rv))
      (go_keep) ((refine (HR.out _ w6.drew h6.front7).mono ?_; rintro e w7 ⟨dv, rfl, h7, d7⟩; have hsl := Sat.ansSlice h7; obtain ⟨da, dk, dc, hsl⟩ := hsl; subst hsl; have g2 := h7.front6.cell 0; have g3 := h7.front5.cell 0; have gb := h7.front7.cell 0; have gd := h7.front4.cell 0; have ge := h7.front3.cell 0; have fd := h7.front4.frozen 0; have fe := h7.front3.frozen 0; simp [Bx.cells] at g2 g3 gb gd ge))
    clear g2 g3 gb gd ge fd fe e0 e2 e3
    go_wp2
    have h8 := ((h7.front4.setCell 0 (.slice da dk dc)).back4.front3.setCell 0 (.int .i64 A.1)).back3
    refine leaves_cons (f := 27) (args := #[.pointer (some ⟨n, 0, none⟩), .pointer (some ⟨n + 1, 0, none⟩), .pointer (some ⟨n + 1 + 1, 0, none⟩), .pointer (some ⟨n + 1 + 1 + 1, 0, none⟩)]) (by simp) (by simp [go_sem]) ?_
    refine (askdone_any _ ⟨n, 0, none⟩ ⟨n + 1, 0, none⟩ _ _ b m id _ _ h8.front8 (h8.front6.cell 0) (h8.front5.cell 0) (h8.front7.cell 6)).mono ?_
    rintro e u w9 ⟨rfl, rfl, h9, d9⟩
    have h10 := h9.back8
    have r4 : w9.cell? ⟨n + 1 + 1, 0, none⟩ = some (.slice da dk dc) := h10.front4.cell 0
    have r5 : w9.cell? ⟨n + 1 + 1 + 1, 0, none⟩ = some (.int .i64 A.1) := h10.front3.cell 0
    refine ⟨.tuple #[.slice da dk dc, .int .i64 A.1], ?_, ?_⟩
    · simp [results, Try.results23, go_sem, r4, r5]
    · refine ⟨.slice da dk dc, .map (some m), rfl, (d6.drew.trans d7).trans (((Side.refl w7).setCell _ _).setCell _ _ |>.trans d9), ?_⟩
      have hd : del (upd ([] : KV) id (.agg #[])) id = [] := by simp [del, upd, kget]
      rw [hd] at h9
      have h11 := h9.weak (Q := askA (.map (some m))) fun k hk => .inr ⟨m, rfl, hk⟩
      exact h11.drop4.drop4.drop4.drop4.front4
theorem ask_any (w : World) (b : Nat) (T : TypeId) (rv : Value) (fr : FuncId) (err id : Int) (x : Bx) (A : Int × List UInt8) (RI RI' F : Assn)
    (hm : ∀ (k : Nat) (w : World), (method (k + 1) T rv "Read").run Try.prog w = .ok (fr, rv) w)
    (hcf : ∀ (args : Array Value) (w : World), (callFunc fr args).run Try.prog w = .ok (.enter fr args) w)
    (hR : ∀ (F : Assn) (w : World), Sat w (RI * F) → Calls Try.prog fr #[rv, .int .i64 id] w (ReadAns A RI' F w))
    (h : Sat w (pt b (.cells (x.cells (.iface T rv) err) 54 (0, 0)) * (askA x.av * (RI * F)))) :
    Calls Try.prog 23 #[.pointer (some ⟨b, 0, none⟩), .int .i64 id] w (AskQ b (.iface T rv) err x A RI' F w) := by
  obtain ⟨k, a, h1, h2, p, ⟨h3, h4, pa, q, d3, rfl⟩, d, rfl⟩ := h
  rcases pa with ⟨hav, rfl⟩ | ⟨m, hav, hmp⟩
  · refine ask_none w b T rv fr err id x A RI RI' F hav hm hcf hR ⟨_, a, h1, h4, p, q, ?_, ?_⟩
    · intro c; rcases d c with e | e
      · exact .inl e
      · right; simpa [join] using e
    · funext c; simp [join]
  · exact ask_some w b T rv fr err id x A RI RI' F m hav hm hcf hR ⟨_, a, h1, _, p, ⟨h3, h4, hmp, q, d3, rfl⟩, d, rfl⟩
end Go.Proofs.Ytcgpegdnicnciaa

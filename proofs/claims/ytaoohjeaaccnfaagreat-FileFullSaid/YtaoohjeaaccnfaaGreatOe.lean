/- file: the calls of a space (printed by wip/mksp.py). -/
import Derived.Test.YtaoohjeaaccnfaaGreatOd
import Derived.Test.YtaoohjeaaccnfaaGreatFu
namespace Go.Proofs.YtaoohjeaaccnfaaGreat.Fs
set_option linter.unusedVariables false
set_option linter.unusedSimpArgs false
open Go.RowKit Go.SL Go.Proofs.YtaoohjeaaccnfaaGreat.Ba
section
variable {σ α : Type}
abbrev spO (mb n : Nat) : Obj := .cells #[.pointer (some ⟨mb, 0, none⟩), .int .i64 (n : Int)] 26 (0, 0)
def zeroNdV : Value := .agg #[.int .i64 0, .int .i64 0, .int .i64 0, .int .i64 0, .int .i64 0, .int .i64 0, .int .i64 0, .int .i64 0, .int .i64 0, .int .i64 0, .int .i64 0, .int .i64 0, .int .i64 0, .int .i64 0, .int .i64 0, .int .i64 0, .int .i64 0, .int .i64 0, .int .i64 0, .int .i64 0]
/-- The answer of a call that answers a number: its value. -/
def natV : Rs Nat → Value
  | .ok a => .int .i64 (a : Int)
  | .bad _ => .int .i64 0
def SpQ (c : Cx σ) (mb : Nat) (S : Hp) (F : Assn) (w : World) (p : Rs Nat × Bst σ) (e : Ending) (w' : World) : Prop :=
  ∃ S', Ext S S' ∧ Side w w' ∧ e = .returned (.tuple #[natV p.1, .int .i64 p.1.code]) ∧ Sat w' (btA c S' mb p.2 * (pool S' * F))

set_option maxRecDepth 100000 in
set_option maxHeartbeats 2000000 in
theorem sp_format (c : Cx σ) (hc : c.Ok) (n : Nat) (hn1 : 4 ≤ n) (hn2 : n ≤ 3840) (mb : Nat) (M : Bst σ) (w : World) (S : Hp)  (F : Assn) (h : Sat w (btA c S mb M * (pool S * (F)))) :
    Calls Tryz.prog 25 #[spV mb n] w (DoQ c mb S F w (wrun (wformat c.ask) M)) := by
  refine callsQ fun Q HQ => ?_
  obtain ⟨p, hp⟩ : ∃ p, wrun (wformat c.ask) M = p := ⟨_, rfl⟩
  rw [hp] at HQ
  have hmf : ∀ (fn : Fn) (first cap : Array Value) (w : World), (Instr.makeFunc fn first cap).run Tryz.prog w = .ok (.func fn first cap) w := fun _ _ _ _ => rfl
  have hrun := fun  w F h => do_any c hc n hn1 hn2 60 #[] (emp) (wformat c.ask) (fun args w => enters Tryz.func60 (by kernel_rfl) rfl args w) (format_job hc) mb M w S F h
  rw [hp] at hrun
  have Hrun := SL.hid hrun
  have hA := (h.alloc (spO mb n))
  have dA := ((Side.refl w).alloc (spO mb n))
  have hB : Sat (w.alloc (spO mb n)) (btA c S mb M * (pool S * ((emp) * (pt w.heap.size (spO mb n) * F)))) := (Sat.addEmp hA).to (by unfold spO; ac_rfl)
  have HB := SL.hid hB
  clear hA hB hrun h
  unfold spV
  go_enter Tryz.func25, Tryz.ntmps25
  go_wp2_with fail
  refine Hrun.out _ _ HB.out _ ?_
  clear Hrun HB
  generalize hw1 : (w.alloc (spO mb n)) = w1 at *
  generalize w.heap.size = b0 at *
  rintro e w2 ⟨S2, hS, d2, rfl, h2⟩
  have h3 := SL.hid (h2.to (by ac_rfl : _ = ((emp * pt b0 (spO mb n))) * (btA c S2 mb p.2 * (pool S2 * F)))).right
  clear h2
  go_wp2_with fail
  try go_ret
  exact HQ.out _ _ ⟨S2, hS, dA.trans d2, rfl, h3.out⟩
set_option maxRecDepth 100000 in
set_option maxHeartbeats 2000000 in
theorem sp_left (c : Cx σ) (hc : c.Ok) (n : Nat) (hn1 : 4 ≤ n) (hn2 : n ≤ 3840) (mb : Nat) (M : Bst σ) (w : World) (S : Hp)  (F : Assn) (h : Sat w (btA c S mb M * (pool S * (F)))) :
    Calls Tryz.prog 13 #[spV mb n] w (SpQ c mb S F w (wrun (wleft c.ask n) M)) := by
  refine callsQ fun Q HQ => ?_
  obtain ⟨p, hp⟩ : ∃ p, wrun (wleft c.ask n) M = p := ⟨_, rfl⟩
  rw [hp] at HQ
  have hmf : ∀ (fn : Fn) (first cap : Array Value) (w : World), (Instr.makeFunc fn first cap).run Tryz.prog w = .ok (.func fn first cap) w := fun _ _ _ _ => rfl
  have hrun := fun  w F h => runI_any c hc n hn1 hn2 37 #[] (emp) (wleft c.ask n) (fun args w => enters Tryz.func37 (by kernel_rfl) rfl args w) (left_job hc hn2) mb M w S F h
  rw [hp] at hrun
  have Hrun := SL.hid hrun
  have hA := (h.alloc (spO mb n))
  have dA := ((Side.refl w).alloc (spO mb n))
  have hB : Sat (w.alloc (spO mb n)) (btA c S mb M * (pool S * ((emp) * (pt w.heap.size (spO mb n) * F)))) := (Sat.addEmp hA).to (by unfold spO; ac_rfl)
  have HB := SL.hid hB
  clear hA hB hrun h
  unfold spV
  go_enter Tryz.func13, Tryz.ntmps13
  go_wp2_with fail
  refine Hrun.out _ _ HB.out _ ?_
  clear Hrun HB
  generalize hw1 : (w.alloc (spO mb n)) = w1 at *
  generalize w.heap.size = b0 at *
  obtain ⟨r, M2⟩ := p
  cases r with
  | bad cN =>
    rintro e w2 ⟨S2, hS, d2, rfl, h2⟩
    have h3 := SL.hid (h2.to (by ac_rfl : _ = ((emp * pt b0 (spO mb n))) * (btA c S2 mb M2 * (pool S2 * F)))).right
    clear h2
    go_wp2_with fail
    try go_ret
    exact HQ.out _ _ ⟨S2, hS, dA.trans d2, rfl, h3.out⟩
  | ok a =>
    rintro e w2 ⟨S2, v, hS, d2, rfl, h2⟩
    have h3 := SL.hid (h2.to (by ac_rfl : _ = ((emp * pt b0 (spO mb n))) * (natR a v * (btA c S2 mb M2 * (pool S2 * F))))).right
    clear h2
    obtain ⟨rfl, h4⟩ := Sat.fact_iff.1 h3.out
    go_wp2_with fail
    try go_ret
    exact HQ.out _ _ ⟨S2, hS, dA.trans d2, rfl, h4⟩
set_option maxRecDepth 100000 in
set_option maxHeartbeats 2000000 in
theorem sp_new (c : Cx σ) (hc : c.Ok) (n : Nat) (hn1 : 4 ≤ n) (hn2 : n ≤ 3840) (mb : Nat) (M : Bst σ) (w : World) (S : Hp) (kd : Int) (F : Assn) (h : Sat w (btA c S mb M * (pool S * (F)))) :
    Calls Tryz.prog 15 #[spV mb n, .int .i64 kd] w (SpQ c mb S F w (wrun (wnew c.ask n kd) M)) := by
  refine callsQ fun Q HQ => ?_
  obtain ⟨p, hp⟩ : ∃ p, wrun (wnew c.ask n kd) M = p := ⟨_, rfl⟩
  rw [hp] at HQ
  have hmf : ∀ (fn : Fn) (first cap : Array Value) (w : World), (Instr.makeFunc fn first cap).run Tryz.prog w = .ok (.func fn first cap) w := fun _ _ _ _ => rfl
  have hrun := fun kdb w F h => runI_any c hc n hn1 hn2 40 #[.pointer (some ⟨kdb, 0, none⟩)] (intA kdb kd) (wnew c.ask n kd) (fun args w => enters Tryz.func40 (by kernel_rfl) rfl args w) (new_job hc hn2 kd kdb) mb M w S F h
  rw [hp] at hrun
  have Hrun := SL.hid hrun
  have hA := ((h.alloc (spO mb n)).alloc (.cells #[.int .i64 kd] 3 (0, 0)))
  have dA := (((Side.refl w).alloc (spO mb n)).alloc (.cells #[.int .i64 kd] 3 (0, 0)))
  simp only [World.size_alloc] at hA
  have hB : Sat ((w.alloc (spO mb n)).alloc (.cells #[.int .i64 kd] 3 (0, 0))) (btA c S mb M * (pool S * ((intA (w.heap.size + 1) kd) * (pt w.heap.size (spO mb n) * F)))) := hA.to (by unfold intA; ac_rfl)
  have HB := SL.hid hB
  clear hA hB hrun h
  unfold spV
  go_enter Tryz.func15, Tryz.ntmps15
  go_wp2_with fail
  refine Hrun.out (w.heap.size + 1) _ _ HB.out _ ?_
  clear Hrun HB
  generalize hw1 : ((w.alloc (spO mb n)).alloc (.cells #[.int .i64 kd] 3 (0, 0))) = w1 at *
  generalize w.heap.size + 1 = b1 at *
  generalize w.heap.size = b0 at *
  obtain ⟨r, M2⟩ := p
  cases r with
  | bad cN =>
    rintro e w2 ⟨S2, hS, d2, rfl, h2⟩
    have h3 := SL.hid (h2.to (by ac_rfl : _ = (pt b0 (spO mb n) * intA b1 kd) * (btA c S2 mb M2 * (pool S2 * F)))).right
    clear h2
    go_wp2_with fail
    try go_ret
    exact HQ.out _ _ ⟨S2, hS, dA.trans d2, rfl, h3.out⟩
  | ok a =>
    rintro e w2 ⟨S2, v, hS, d2, rfl, h2⟩
    have h3 := SL.hid (h2.to (by ac_rfl : _ = (pt b0 (spO mb n) * intA b1 kd) * (natR a v * (btA c S2 mb M2 * (pool S2 * F))))).right
    clear h2
    obtain ⟨rfl, h4⟩ := Sat.fact_iff.1 h3.out
    go_wp2_with fail
    try go_ret
    exact HQ.out _ _ ⟨S2, hS, dA.trans d2, rfl, h4⟩
set_option maxRecDepth 100000 in
set_option maxHeartbeats 2000000 in
theorem sp_free (c : Cx σ) (hc : c.Ok) (n : Nat) (hn1 : 4 ≤ n) (hn2 : n ≤ 3840) (mb : Nat) (M : Bst σ) (w : World) (S : Hp) (node : Int) (F : Assn) (h : Sat w (btA c S mb M * (pool S * (F)))) :
    Calls Tryz.prog 22 #[spV mb n, .int .i64 node] w (DoQ c mb S F w (wrun (wfree c.ask n node) M)) := by
  refine callsQ fun Q HQ => ?_
  obtain ⟨p, hp⟩ : ∃ p, wrun (wfree c.ask n node) M = p := ⟨_, rfl⟩
  rw [hp] at HQ
  have hmf : ∀ (fn : Fn) (first cap : Array Value) (w : World), (Instr.makeFunc fn first cap).run Tryz.prog w = .ok (.func fn first cap) w := fun _ _ _ _ => rfl
  have hrun := fun nodeb w F h => do_any c hc n hn1 hn2 57 #[.pointer (some ⟨nodeb, 0, none⟩)] (intA nodeb node) (wfree c.ask n node) (fun args w => enters Tryz.func57 (by kernel_rfl) rfl args w) (free_job hc hn2 node nodeb) mb M w S F h
  rw [hp] at hrun
  have Hrun := SL.hid hrun
  have hA := ((h.alloc (spO mb n)).alloc (.cells #[.int .i64 node] 3 (0, 0)))
  have dA := (((Side.refl w).alloc (spO mb n)).alloc (.cells #[.int .i64 node] 3 (0, 0)))
  simp only [World.size_alloc] at hA
  have hB : Sat ((w.alloc (spO mb n)).alloc (.cells #[.int .i64 node] 3 (0, 0))) (btA c S mb M * (pool S * ((intA (w.heap.size + 1) node) * (pt w.heap.size (spO mb n) * F)))) := hA.to (by unfold intA; ac_rfl)
  have HB := SL.hid hB
  clear hA hB hrun h
  unfold spV
  go_enter Tryz.func22, Tryz.ntmps22
  go_wp2_with fail
  refine Hrun.out (w.heap.size + 1) _ _ HB.out _ ?_
  clear Hrun HB
  generalize hw1 : ((w.alloc (spO mb n)).alloc (.cells #[.int .i64 node] 3 (0, 0))) = w1 at *
  generalize w.heap.size + 1 = b1 at *
  generalize w.heap.size = b0 at *
  rintro e w2 ⟨S2, hS, d2, rfl, h2⟩
  have h3 := SL.hid (h2.to (by ac_rfl : _ = (pt b0 (spO mb n) * intA b1 node) * (btA c S2 mb p.2 * (pool S2 * F)))).right
  clear h2
  go_wp2_with fail
  try go_ret
  exact HQ.out _ _ ⟨S2, hS, dA.trans d2, rfl, h3.out⟩
set_option maxRecDepth 100000 in
set_option maxHeartbeats 2000000 in
theorem sp_need (c : Cx σ) (hc : c.Ok) (n : Nat) (hn1 : 4 ≤ n) (hn2 : n ≤ 3840) (mb : Nat) (M : Bst σ) (w : World) (S : Hp) (node : Int) (F : Assn) (h : Sat w (btA c S mb M * (pool S * (F)))) :
    Calls Tryz.prog 50 #[spV mb n, .int .i64 node] w (SpQ c mb S F w (wrun (wneedb c.ask n node) M)) := by
  refine callsQ fun Q HQ => ?_
  obtain ⟨p, hp⟩ : ∃ p, wrun (wneedb c.ask n node) M = p := ⟨_, rfl⟩
  rw [hp] at HQ
  have hmf : ∀ (fn : Fn) (first cap : Array Value) (w : World), (Instr.makeFunc fn first cap).run Tryz.prog w = .ok (.func fn first cap) w := fun _ _ _ _ => rfl
  have hrun := fun nodeb w F h => runI_any c hc n hn1 hn2 87 #[.pointer (some ⟨nodeb, 0, none⟩)] (intA nodeb node) (wneedb c.ask n node) (fun args w => enters Tryz.func87 (by kernel_rfl) rfl args w) (need_job hc node nodeb) mb M w S F h
  rw [hp] at hrun
  have Hrun := SL.hid hrun
  have hA := ((h.alloc (spO mb n)).alloc (.cells #[.int .i64 node] 3 (0, 0)))
  have dA := (((Side.refl w).alloc (spO mb n)).alloc (.cells #[.int .i64 node] 3 (0, 0)))
  simp only [World.size_alloc] at hA
  have hB : Sat ((w.alloc (spO mb n)).alloc (.cells #[.int .i64 node] 3 (0, 0))) (btA c S mb M * (pool S * ((intA (w.heap.size + 1) node) * (pt w.heap.size (spO mb n) * F)))) := hA.to (by unfold intA; ac_rfl)
  have HB := SL.hid hB
  clear hA hB hrun h
  unfold spV
  go_enter Tryz.func50, Tryz.ntmps50
  go_wp2_with fail
  refine Hrun.out (w.heap.size + 1) _ _ HB.out _ ?_
  clear Hrun HB
  generalize hw1 : ((w.alloc (spO mb n)).alloc (.cells #[.int .i64 node] 3 (0, 0))) = w1 at *
  generalize w.heap.size + 1 = b1 at *
  generalize w.heap.size = b0 at *
  obtain ⟨r, M2⟩ := p
  cases r with
  | bad cN =>
    rintro e w2 ⟨S2, hS, d2, rfl, h2⟩
    have h3 := SL.hid (h2.to (by ac_rfl : _ = (pt b0 (spO mb n) * intA b1 node) * (btA c S2 mb M2 * (pool S2 * F)))).right
    clear h2
    go_wp2_with fail
    try go_ret
    exact HQ.out _ _ ⟨S2, hS, dA.trans d2, rfl, h3.out⟩
  | ok a =>
    rintro e w2 ⟨S2, v, hS, d2, rfl, h2⟩
    have h3 := SL.hid (h2.to (by ac_rfl : _ = (pt b0 (spO mb n) * intA b1 node) * (natR a v * (btA c S2 mb M2 * (pool S2 * F))))).right
    clear h2
    obtain ⟨rfl, h4⟩ := Sat.fact_iff.1 h3.out
    go_wp2_with fail
    try go_ret
    exact HQ.out _ _ ⟨S2, hS, dA.trans d2, rfl, h4⟩
set_option maxRecDepth 100000 in
set_option maxHeartbeats 2000000 in
theorem sp_trunc (c : Cx σ) (hc : c.Ok) (n : Nat) (hn1 : 4 ≤ n) (hn2 : n ≤ 3840) (mb : Nat) (M : Bst σ) (w : World) (S : Hp) (node : Int) (size : Int) (F : Assn) (h : Sat w (btA c S mb M * (pool S * (F)))) :
    Calls Tryz.prog 30 #[spV mb n, .int .i64 node, .int .i64 size] w (DoQ c mb S F w (wrun (wtrunc c.ask n node size) M)) := by
  refine callsQ fun Q HQ => ?_
  obtain ⟨p, hp⟩ : ∃ p, wrun (wtrunc c.ask n node size) M = p := ⟨_, rfl⟩
  rw [hp] at HQ
  have hmf : ∀ (fn : Fn) (first cap : Array Value) (w : World), (Instr.makeFunc fn first cap).run Tryz.prog w = .ok (.func fn first cap) w := fun _ _ _ _ => rfl
  have hrun := fun nodeb sizeb w F h => do_any c hc n hn1 hn2 67 #[.pointer (some ⟨nodeb, 0, none⟩), .pointer (some ⟨sizeb, 0, none⟩)] (intA nodeb node * (intA sizeb size)) (wtrunc c.ask n node size) (fun args w => enters Tryz.func67 (by kernel_rfl) rfl args w) (trunc_job hc hn2 node size nodeb sizeb) mb M w S F h
  rw [hp] at hrun
  have Hrun := SL.hid hrun
  have hA := (((h.alloc (spO mb n)).alloc (.cells #[.int .i64 node] 3 (0, 0))).alloc (.cells #[.int .i64 size] 3 (0, 0)))
  have dA := ((((Side.refl w).alloc (spO mb n)).alloc (.cells #[.int .i64 node] 3 (0, 0))).alloc (.cells #[.int .i64 size] 3 (0, 0)))
  simp only [World.size_alloc] at hA
  have hB : Sat (((w.alloc (spO mb n)).alloc (.cells #[.int .i64 node] 3 (0, 0))).alloc (.cells #[.int .i64 size] 3 (0, 0))) (btA c S mb M * (pool S * ((intA (w.heap.size + 1) node * (intA (w.heap.size + 1 + 1) size)) * (pt w.heap.size (spO mb n) * F)))) := hA.to (by unfold intA; ac_rfl)
  have HB := SL.hid hB
  clear hA hB hrun h
  unfold spV
  go_enter Tryz.func30, Tryz.ntmps30
  go_wp2_with fail
  refine Hrun.out (w.heap.size + 1) (w.heap.size + 1 + 1) _ _ HB.out _ ?_
  clear Hrun HB
  generalize hw1 : (((w.alloc (spO mb n)).alloc (.cells #[.int .i64 node] 3 (0, 0))).alloc (.cells #[.int .i64 size] 3 (0, 0))) = w1 at *
  generalize w.heap.size + 1 + 1 = b2 at *
  generalize w.heap.size + 1 = b1 at *
  generalize w.heap.size = b0 at *
  rintro e w2 ⟨S2, hS, d2, rfl, h2⟩
  have h3 := SL.hid (h2.to (by ac_rfl : _ = (pt b0 (spO mb n) * intA b1 node * intA b2 size) * (btA c S2 mb p.2 * (pool S2 * F)))).right
  clear h2
  go_wp2_with fail
  try go_ret
  exact HQ.out _ _ ⟨S2, hS, dA.trans d2, rfl, h3.out⟩
set_option maxRecDepth 100000 in
set_option maxHeartbeats 2000000 in
theorem sp_readat (c : Cx σ) (hc : c.Ok) (n : Nat) (hn1 : 4 ≤ n) (hn2 : n ≤ 3840) (mb : Nat) (M : Bst σ) (w : World) (S : Hp) (node : Int) (off : Int) (cnt : Int) (F : Assn) (h : Sat w (btA c S mb M * (pool S * (F)))) :
    Calls Tryz.prog 49 #[spV mb n, .int .i64 node, .int .i64 off, .int .i64 cnt] w (RunQ c mb (.slice none 0 0) bytesR S F w (wrun (wreadAt c.ask n node off cnt) M)) := by
  refine callsQ fun Q HQ => ?_
  obtain ⟨p, hp⟩ : ∃ p, wrun (wreadAt c.ask n node off cnt) M = p := ⟨_, rfl⟩
  rw [hp] at HQ
  have hmf : ∀ (fn : Fn) (first cap : Array Value) (w : World), (Instr.makeFunc fn first cap).run Tryz.prog w = .ok (.func fn first cap) w := fun _ _ _ _ => rfl
  have hrun := fun nodeb offb cntb w F h => runB_any c hc n hn1 hn2 86 #[.pointer (some ⟨nodeb, 0, none⟩), .pointer (some ⟨offb, 0, none⟩), .pointer (some ⟨cntb, 0, none⟩)] (intA nodeb node * (intA offb off * (intA cntb cnt))) (wreadAt c.ask n node off cnt) (fun args w => enters Tryz.func86 (by kernel_rfl) rfl args w) (readat_job hc hn2 node off cnt nodeb offb cntb) mb M w S F h
  rw [hp] at hrun
  have Hrun := SL.hid hrun
  have hA := ((((h.alloc (spO mb n)).alloc (.cells #[.int .i64 node] 3 (0, 0))).alloc (.cells #[.int .i64 off] 3 (0, 0))).alloc (.cells #[.int .i64 cnt] 3 (0, 0)))
  have dA := (((((Side.refl w).alloc (spO mb n)).alloc (.cells #[.int .i64 node] 3 (0, 0))).alloc (.cells #[.int .i64 off] 3 (0, 0))).alloc (.cells #[.int .i64 cnt] 3 (0, 0)))
  simp only [World.size_alloc] at hA
  have hB : Sat ((((w.alloc (spO mb n)).alloc (.cells #[.int .i64 node] 3 (0, 0))).alloc (.cells #[.int .i64 off] 3 (0, 0))).alloc (.cells #[.int .i64 cnt] 3 (0, 0))) (btA c S mb M * (pool S * ((intA (w.heap.size + 1) node * (intA (w.heap.size + 1 + 1) off * (intA (w.heap.size + 1 + 1 + 1) cnt))) * (pt w.heap.size (spO mb n) * F)))) := hA.to (by unfold intA; ac_rfl)
  have HB := SL.hid hB
  clear hA hB hrun h
  unfold spV
  go_enter Tryz.func49, Tryz.ntmps49
  go_wp2_with fail
  refine Hrun.out (w.heap.size + 1) (w.heap.size + 1 + 1) (w.heap.size + 1 + 1 + 1) _ _ HB.out _ ?_
  clear Hrun HB
  generalize hw1 : ((((w.alloc (spO mb n)).alloc (.cells #[.int .i64 node] 3 (0, 0))).alloc (.cells #[.int .i64 off] 3 (0, 0))).alloc (.cells #[.int .i64 cnt] 3 (0, 0))) = w1 at *
  generalize w.heap.size + 1 + 1 + 1 = b3 at *
  generalize w.heap.size + 1 + 1 = b2 at *
  generalize w.heap.size + 1 = b1 at *
  generalize w.heap.size = b0 at *
  obtain ⟨r, M2⟩ := p
  cases r with
  | bad cN =>
    rintro e w2 ⟨S2, hS, d2, rfl, h2⟩
    have h3 := SL.hid (h2.to (by ac_rfl : _ = (pt b0 (spO mb n) * intA b1 node * intA b2 off * intA b3 cnt) * (btA c S2 mb M2 * (pool S2 * F)))).right
    clear h2
    go_wp2_with fail
    try go_ret
    exact HQ.out _ _ ⟨S2, hS, dA.trans d2, rfl, h3.out⟩
  | ok a =>
    rintro e w2 ⟨S2, v, hS, d2, rfl, h2⟩
    have h3 := SL.hid (h2.to (by ac_rfl : _ = (pt b0 (spO mb n) * intA b1 node * intA b2 off * intA b3 cnt) * (bytesR a v * (btA c S2 mb M2 * (pool S2 * F))))).right
    clear h2
    go_wp2_with fail
    try go_ret
    exact HQ.out _ _ ⟨S2, v, hS, dA.trans d2, rfl, h3.out⟩
set_option maxRecDepth 100000 in
set_option maxHeartbeats 2000000 in
theorem sp_writeat (c : Cx σ) (hc : c.Ok) (n : Nat) (hn1 : 4 ≤ n) (hn2 : n ≤ 3840) (mb : Nat) (M : Bst σ) (w : World) (S : Hp) (node : Int) (off : Int) (l : List UInt8) (va : Option Addr) (cap : Nat) (D : Assn) (hD : ∀ W P, Sat W (D * P) → Rd W (.slice va l.length cap) l) (hcap : l.length ≤ cap) (hbig : l.length ≤ 1000000000000) (F : Assn) (h : Sat w (btA c S mb M * (pool S * (D * F)))) :
    Calls Tryz.prog 21 #[spV mb n, .int .i64 node, .int .i64 off, .slice va l.length cap] w (DoQ c mb S (D * F) w (wrun (wwriteAt c.ask n node off l) M)) := by
  refine callsQ fun Q HQ => ?_
  obtain ⟨p, hp⟩ : ∃ p, wrun (wwriteAt c.ask n node off l) M = p := ⟨_, rfl⟩
  rw [hp] at HQ
  have hmf : ∀ (fn : Fn) (first cap : Array Value) (w : World), (Instr.makeFunc fn first cap).run Tryz.prog w = .ok (.func fn first cap) w := fun _ _ _ _ => rfl
  have hrun := fun nodeb offb vb w F h => do_any c hc n hn1 hn2 54 #[.pointer (some ⟨nodeb, 0, none⟩), .pointer (some ⟨offb, 0, none⟩), .pointer (some ⟨vb, 0, none⟩)] (intA nodeb node * (intA offb off * ((slA vb (.slice va l.length cap) * D)))) (wwriteAt c.ask n node off l) (fun args w => enters Tryz.func54 (by kernel_rfl) rfl args w) (writeat_job hc hn2 node off l va cap D hD hcap hbig nodeb offb vb) mb M w S F h
  rw [hp] at hrun
  have Hrun := SL.hid hrun
  have hA := ((((h.alloc (spO mb n)).alloc (.cells #[.int .i64 node] 3 (0, 0))).alloc (.cells #[.int .i64 off] 3 (0, 0))).alloc (.cells #[.slice va l.length cap] 48 (0, 0)))
  have dA := (((((Side.refl w).alloc (spO mb n)).alloc (.cells #[.int .i64 node] 3 (0, 0))).alloc (.cells #[.int .i64 off] 3 (0, 0))).alloc (.cells #[.slice va l.length cap] 48 (0, 0)))
  simp only [World.size_alloc] at hA
  have hB : Sat ((((w.alloc (spO mb n)).alloc (.cells #[.int .i64 node] 3 (0, 0))).alloc (.cells #[.int .i64 off] 3 (0, 0))).alloc (.cells #[.slice va l.length cap] 48 (0, 0))) (btA c S mb M * (pool S * ((intA (w.heap.size + 1) node * (intA (w.heap.size + 1 + 1) off * ((slA (w.heap.size + 1 + 1 + 1) (.slice va l.length cap) * D)))) * (pt w.heap.size (spO mb n) * F)))) := hA.to (by unfold intA slA; ac_rfl)
  have HB := SL.hid hB
  clear hA hB hrun h
  unfold spV
  go_enter Tryz.func21, Tryz.ntmps21
  go_wp2_with fail
  refine Hrun.out (w.heap.size + 1) (w.heap.size + 1 + 1) (w.heap.size + 1 + 1 + 1) _ _ HB.out _ ?_
  clear Hrun HB
  generalize hw1 : ((((w.alloc (spO mb n)).alloc (.cells #[.int .i64 node] 3 (0, 0))).alloc (.cells #[.int .i64 off] 3 (0, 0))).alloc (.cells #[.slice va l.length cap] 48 (0, 0))) = w1 at *
  generalize w.heap.size + 1 + 1 + 1 = b3 at *
  generalize w.heap.size + 1 + 1 = b2 at *
  generalize w.heap.size + 1 = b1 at *
  generalize w.heap.size = b0 at *
  rintro e w2 ⟨S2, hS, d2, rfl, h2⟩
  have h3 := SL.hid (h2.to (by ac_rfl : _ = (pt b0 (spO mb n) * intA b1 node * intA b2 off * slA b3 (.slice va l.length cap)) * (btA c S2 mb p.2 * (pool S2 * (D * F))))).right
  clear h2
  go_wp2_with fail
  try go_ret
  exact HQ.out _ _ ⟨S2, hS, dA.trans d2, rfl, h3.out⟩
theorem node_results {w : World} {tmps : Array Value} {a : Nat} {e : Value} {X : Array Value} {F : Assn} (h4 : tmps[4]? = some (ptV a)) (h5 : tmps[5]? = some e) (ha : Sat w (pt a (.cells X 35 (0, 0)) * F)) (hX : X.size = 20) :
    (results Tryz.f12 tmps).run Tryz.prog w = .ok (.tuple #[.agg X, e]) w := by
  have hl := run_loadVar_row (P := Tryz.prog) w a 35 35 X (0, 0) _ ha.heap Tryz.underlying35 rfl (by rw [hX]; exact info_node0)
  have hp : tmps.getD 4 undef = .pointer (some ⟨a, 0, none⟩) := by simp [h4]
  have hp5 : tmps.getD 5 undef = e := by simp [h5]
  simp [results, Tryz.results12, h4, h5, asAddr, hl]
set_option maxRecDepth 100000 in
set_option maxHeartbeats 2000000 in
theorem sp_node (c : Cx σ) (hc : c.Ok) (n : Nat) (hn1 : 4 ≤ n) (hn2 : n ≤ 3840) (mb : Nat) (M : Bst σ) (w : World) (S : Hp) (node : Int) (F : Assn) (h : Sat w (btA c S mb M * (pool S * F))) :
    Calls Tryz.prog 12 #[spV mb n, .int .i64 node] w (RunQ c mb zeroNdV nodeR S F w (wrun (wnode c.ask n node) M)) := by
  refine callsQ fun Q HQ => ?_
  obtain ⟨p, hp⟩ : ∃ p, wrun (wnode c.ask n node) M = p := ⟨_, rfl⟩
  rw [hp] at HQ
  have hmf : ∀ (fn : Fn) (first cap : Array Value) (w : World), (Instr.makeFunc fn first cap).run Tryz.prog w = .ok (.func fn first cap) w := fun _ _ _ _ => rfl
  have hrun := fun nodeb w F h => runN_any c hc n hn1 hn2 34 #[.pointer (some ⟨nodeb, 0, none⟩)] (intA nodeb node) (wnode c.ask n node) (fun args w => enters Tryz.func34 (by kernel_rfl) rfl args w) (node_job hc node nodeb) mb M w S F h
  rw [hp] at hrun
  have Hrun := SL.hid hrun
  have hA := (((h.alloc (spO mb n)).alloc (.cells #[.int .i64 node] 3 (0, 0))).alloc (.cells #[.int .i64 0, .int .i64 0, .int .i64 0, .int .i64 0, .int .i64 0, .int .i64 0, .int .i64 0, .int .i64 0, .int .i64 0, .int .i64 0, .int .i64 0, .int .i64 0, .int .i64 0, .int .i64 0, .int .i64 0, .int .i64 0, .int .i64 0, .int .i64 0, .int .i64 0, .int .i64 0] 35 (0, 0)))
  have dA := ((((Side.refl w).alloc (spO mb n)).alloc (.cells #[.int .i64 node] 3 (0, 0))).alloc (.cells #[.int .i64 0, .int .i64 0, .int .i64 0, .int .i64 0, .int .i64 0, .int .i64 0, .int .i64 0, .int .i64 0, .int .i64 0, .int .i64 0, .int .i64 0, .int .i64 0, .int .i64 0, .int .i64 0, .int .i64 0, .int .i64 0, .int .i64 0, .int .i64 0, .int .i64 0, .int .i64 0] 35 (0, 0)))
  simp only [World.size_alloc] at hA
  have hB : Sat (((w.alloc (spO mb n)).alloc (.cells #[.int .i64 node] 3 (0, 0))).alloc (.cells #[.int .i64 0, .int .i64 0, .int .i64 0, .int .i64 0, .int .i64 0, .int .i64 0, .int .i64 0, .int .i64 0, .int .i64 0, .int .i64 0, .int .i64 0, .int .i64 0, .int .i64 0, .int .i64 0, .int .i64 0, .int .i64 0, .int .i64 0, .int .i64 0, .int .i64 0, .int .i64 0] 35 (0, 0))) (btA c S mb M * (pool S * (intA (w.heap.size + 1) node * (pt (w.heap.size + 1 + 1) (.cells #[.int .i64 0, .int .i64 0, .int .i64 0, .int .i64 0, .int .i64 0, .int .i64 0, .int .i64 0, .int .i64 0, .int .i64 0, .int .i64 0, .int .i64 0, .int .i64 0, .int .i64 0, .int .i64 0, .int .i64 0, .int .i64 0, .int .i64 0, .int .i64 0, .int .i64 0, .int .i64 0] 35 (0, 0)) * (pt w.heap.size (spO mb n) * F))))) := hA.to (by unfold intA; ac_rfl)
  have HB := SL.hid hB
  clear hA hB hrun h
  unfold spV
  go_enter Tryz.func12, Tryz.ntmps12
  go_wp2_with fail
  refine Hrun.out (w.heap.size + 1) _ _ HB.out _ ?_
  clear Hrun HB
  generalize hw1 : (((w.alloc (spO mb n)).alloc (.cells #[.int .i64 node] 3 (0, 0))).alloc (.cells #[.int .i64 0, .int .i64 0, .int .i64 0, .int .i64 0, .int .i64 0, .int .i64 0, .int .i64 0, .int .i64 0, .int .i64 0, .int .i64 0, .int .i64 0, .int .i64 0, .int .i64 0, .int .i64 0, .int .i64 0, .int .i64 0, .int .i64 0, .int .i64 0, .int .i64 0, .int .i64 0] 35 (0, 0))) = w1 at *
  generalize w.heap.size + 1 + 1 = b2 at *
  generalize w.heap.size + 1 = b1 at *
  generalize w.heap.size = b0 at *
  obtain ⟨r, M2⟩ := p
  have hinfz : (Tryz.prog.info? 35).map (·.size) = some 20 := info_node0
  have hfin : ∀ (X : Array Value) (w2 : World) (P : Assn), X.size = 20 → Sat w2 (pt b2 (.cells #[.int .i64 0, .int .i64 0, .int .i64 0, .int .i64 0, .int .i64 0, .int .i64 0, .int .i64 0, .int .i64 0, .int .i64 0, .int .i64 0, .int .i64 0, .int .i64 0, .int .i64 0, .int .i64 0, .int .i64 0, .int .i64 0, .int .i64 0, .int .i64 0, .int .i64 0, .int .i64 0] 35 (0, 0)) * P) → Sat (w2.setRow b2 X) (pt b2 (.cells X 35 (0, 0)) * P) := fun X w2 P hX hS => hS.setRow
  cases r with
  | bad cN =>
    rintro e w2 ⟨S2, hS, d2, rfl, h2⟩
    have h3 := h2.to (by ac_rfl : _ = pt b2 (.cells #[.int .i64 0, .int .i64 0, .int .i64 0, .int .i64 0, .int .i64 0, .int .i64 0, .int .i64 0, .int .i64 0, .int .i64 0, .int .i64 0, .int .i64 0, .int .i64 0, .int .i64 0, .int .i64 0, .int .i64 0, .int .i64 0, .int .i64 0, .int .i64 0, .int .i64 0, .int .i64 0] 35 (0, 0)) * ((intA b1 node * pt b0 (spO mb n)) * (btA c S2 mb M2 * (pool S2 * F))))
    have Hz := SL.hid h3.heap
    have h4 := SL.hid (hfin #[.int .i64 0, .int .i64 0, .int .i64 0, .int .i64 0, .int .i64 0, .int .i64 0, .int .i64 0, .int .i64 0, .int .i64 0, .int .i64 0, .int .i64 0, .int .i64 0, .int .i64 0, .int .i64 0, .int .i64 0, .int .i64 0, .int .i64 0, .int .i64 0, .int .i64 0, .int .i64 0] _ _ rfl h3)
    have Hone : Hid ((#[.int .i64 0, .int .i64 0, .int .i64 0, .int .i64 0, .int .i64 0, .int .i64 0, .int .i64 0, .int .i64 0, .int .i64 0, .int .i64 0, .int .i64 0, .int .i64 0, .int .i64 0, .int .i64 0, .int .i64 0, .int .i64 0, .int .i64 0, .int .i64 0, .int .i64 0, .int .i64 0] : Array Value).all (·.oneCell') = true) := one20
    have D4 := SL.hid ((dA.trans d2).setRow b2 #[.int .i64 0, .int .i64 0, .int .i64 0, .int .i64 0, .int .i64 0, .int .i64 0, .int .i64 0, .int .i64 0, .int .i64 0, .int .i64 0, .int .i64 0, .int .i64 0, .int .i64 0, .int .i64 0, .int .i64 0, .int .i64 0, .int .i64 0, .int .i64 0, .int .i64 0, .int .i64 0])
    clear h2 h3 hfin
    go_wp2_with (refine wpList_store_row (by exact rfl) 35 (.tmp 4) (.tmp 9) (by exact rfl) b2 #[.int .i64 0, .int .i64 0, .int .i64 0, .int .i64 0, .int .i64 0, .int .i64 0, .int .i64 0, .int .i64 0, .int .i64 0, .int .i64 0, .int .i64 0, .int .i64 0, .int .i64 0, .int .i64 0, .int .i64 0, .int .i64 0, .int .i64 0, .int .i64 0, .int .i64 0, .int .i64 0] (by exact rfl) (by exact rfl) 35 _ (by with_reducible exact Hz.out) hinfz (by rfl) Hone.out ?_)
    exact bodyPost_ret (node_results rfl rfl h4.out rfl) rfl (HQ.out _ _ ⟨S2, hS, D4.out, rfl, h4.out.right.right⟩)
  | ok a =>
    rintro e w2 ⟨S2, v, hS, d2, rfl, h2⟩
    obtain ⟨⟨rfl, h16⟩, h2b⟩ := Sat.fact_iff.1 h2
    have h3 := h2b.to (by ac_rfl : _ = pt b2 (.cells #[.int .i64 0, .int .i64 0, .int .i64 0, .int .i64 0, .int .i64 0, .int .i64 0, .int .i64 0, .int .i64 0, .int .i64 0, .int .i64 0, .int .i64 0, .int .i64 0, .int .i64 0, .int .i64 0, .int .i64 0, .int .i64 0, .int .i64 0, .int .i64 0, .int .i64 0, .int .i64 0] 35 (0, 0)) * ((intA b1 node * pt b0 (spO mb n)) * (btA c S2 mb M2 * (pool S2 * F))))
    have hX : (ints a.l).size = 20 := by rw [size_ints, Nd.cells h16]
    have Hz := SL.hid h3.heap
    have h4 := SL.hid (hfin (ints a.l) _ _ hX h3)
    have Hone : Hid ((ints a.l).all (·.oneCell') = true) := by simp [RowKit.Hid, ints, Value.oneCell']
    have Hinf : Hid ((Tryz.prog.info? 35).map (·.size) = some (ints a.l).size) := by show _ = _; rw [hX]; exact info_node0
    have D4 := SL.hid ((dA.trans d2).setRow b2 (ints a.l))
    have HX := SL.hid hX; have H16 := SL.hid h16
    clear h2 h2b h3 hfin hX h16
    unfold Nd.v
    go_wp2_with (refine wpList_store_row (by exact rfl) 35 (.tmp 4) (.tmp 9) (by exact rfl) b2 (ints a.l) (by exact rfl) (by exact rfl) 35 _ (by with_reducible exact Hz.out) Hinf.out (by rw [HX.out]; rfl) Hone.out ?_)
    exact bodyPost_ret (node_results rfl rfl h4.out HX.out) rfl (HQ.out _ _ ⟨S2, _, hS, D4.out, rfl, Sat.fact_iff.2 ⟨⟨rfl, H16.out⟩, h4.out.right.right⟩⟩)

end
end Go.Proofs.YtaoohjeaaccnfaaGreat.Fs

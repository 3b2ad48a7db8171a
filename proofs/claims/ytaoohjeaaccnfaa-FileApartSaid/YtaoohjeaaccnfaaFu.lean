/- file: do. -/
import Derived.Test.YtaoohjeaaccnfaaFs
namespace Go.SL
set_option linter.unusedVariables false
set_option linter.unusedSimpArgs false
open Go.RowKit
def Rs.code {α : Type} : Rs α → Int
  | .ok _ => 0
  | .bad c => c
end Go.SL
namespace Go.Proofs.Ytaoohjeaaccnfaa.Fs
set_option linter.unusedVariables false
set_option linter.unusedSimpArgs false
open Go.RowKit Go.SL Go.Proofs.Ytaoohjeaaccnfaa.Ba
section
variable {σ α : Type}
theorem doone_results {w : World} {tmps : Array Value} {a : Nat} {F : Assn} (h3 : tmps[3]? = some (ptV a)) (ha : Sat w (pt a (.cells #[] 104 (0, 0)) * F)) :
    (results Try.f62 tmps).run Try.prog w = .ok (.agg #[]) w := by
  have hl := run_loadVar_row (P := Try.prog) w a 104 104 #[] (0, 0) _ ha.heap Try.underlying104 rfl info_unit
  simp [results, Try.results62, h3, asAddr, hl]
def fnA (jb : Nat) (jf : FuncId) (caps : Array Value) : Assn := pt jb (.cells #[.func (.func jf) #[] caps] 74 (0, 0))
set_option maxRecDepth 100000 in
set_option maxHeartbeats 2000000 in
theorem doone_job {c : Cx σ} {n : Nat} {jf : FuncId} {caps : Array Value} {G : Assn} {m : WM σ Unit} (hcf : ∀ (args : Array Value) (w : World), (callFunc jf args).run Try.prog w = .ok (.enter jf args) w)
    (hj : Job c n jf caps unitR G m) (jb : Nat) : Job c n 62 #[.pointer (some ⟨jb, 0, none⟩)] voidR (fnA jb jf caps * G) m := by
  intro x w S st F hx1 hx2 h
  have hjb := fun w F h => hj x w S st F hx1 hx2 h
  have Hjb := SL.hid hjb
  have hA := h.alloc (.cells #[] 104 (0, 0))
  have dA := (Side.refl w).alloc (.cells #[] 104 (0, 0))
  clear hj h hjb hx1 hx2
  show Calls Try.prog 62 #[.pointer (some ⟨x.k, 0, none⟩), .pointer (some ⟨jb, 0, none⟩)] w _
  go_enter Try.func62, Try.ntmps62
  have hB : Sat (w.alloc (.cells #[] 104 (0, 0))) (fnA jb jf caps * (pt w.heap.size (.cells #[] 104 (0, 0)) * (workA x S st * (pool S * (G * F))))) := hA.to (by ac_rfl)
  have cj : (w.alloc (.cells #[] 104 (0, 0))).cell? ⟨jb, 0, none⟩ = some (.func (.func jf) #[] caps) := hB.cell 0
  have hC : Sat (w.alloc (.cells #[] 104 (0, 0))) (workA x S st * (pool S * (G * (fnA jb jf caps * (pt w.heap.size (.cells #[] 104 (0, 0)) * F))))) := hB.to (by ac_rfl)
  have hjb := Hjb.out _ _ hC
  clear Hjb hA hB hC
  obtain ⟨⟨r, st1⟩, hp⟩ : ∃ p, m st = p := ⟨_, rfl⟩
  rw [hp] at hjb ⊢
  clear hp
  cases r with
  | bad cN =>
    go_wp2_with fail
    generalize w.alloc (.cells #[] 104 (0, 0)) = w1 at *
    generalize w.heap.size = rb at *
    (with_reducible refine hjb.mono ?_)
    rintro e w2 ⟨S', hS, d2, rfl, h2⟩
    go_wp2_with fail
    exact ⟨rfl, S', hS, dA.trans d2, rfl, (h2.to (by ac_rfl : _ = pt rb (.cells #[] 104 (0, 0)) * (workA x S' st1 * (pool S' * (fnA jb jf caps * G * F))))).right⟩
  | ok u =>
    go_wp2_with fail
    generalize w.alloc (.cells #[] 104 (0, 0)) = w1 at *
    generalize w.heap.size = rb at *
    (with_reducible refine hjb.mono ?_)
    rintro e w2 ⟨S', v, hS, d2, rfl, h2⟩
    obtain ⟨rfl, h3⟩ := Sat.fact_iff.1 h2
    have h4 : Sat w2 (pt rb (.cells #[] 104 (0, 0)) * (workA x S' st1 * (pool S' * (fnA jb jf caps * G * F)))) := h3.to (by ac_rfl)
    have H4 := SL.hid h4
    clear h2 h3 h4 hjb cj
    go_wp2_with (refine wpList_store_mid (by exact rfl) 104 (.tmp 3) (.tmp 7) (by exact rfl) rb 0 #[] (by exact rfl) (by exact rfl) (by exact fun j h => absurd h (Nat.not_lt_zero _)) (by exact info_unit) (by exact rfl) ?_)
    exact bodyPost_ret (doone_results rfl H4.out) rfl ⟨S', _, hS, dA.trans d2, rfl, Sat.fact_iff.2 ⟨rfl, H4.out.right⟩⟩
/-- What do comes to. -/
def DoQ (c : Cx σ) (mb : Nat) (S : Hp) (F : Assn) (w : World) (p : Rs Unit × Bst σ) (e : Ending) (w' : World) : Prop :=
  ∃ S', Ext S S' ∧ Side w w' ∧ e = .returned (.int .i64 p.1.code) ∧ Sat w' (btA c S' mb p.2 * (pool S' * F))
set_option maxRecDepth 100000 in
set_option maxHeartbeats 2000000 in
theorem do_any (c : Cx σ) (hc : c.Ok) (n : Nat) (hn1 : 4 ≤ n) (hn2 : n ≤ 3840) (jf : FuncId) (caps : Array Value) (G : Assn) (m : WM σ Unit)
    (hcf : ∀ (args : Array Value) (w : World), (callFunc jf args).run Try.prog w = .ok (.enter jf args) w) (hj : Job c n jf caps unitR G m)
    (mb : Nat) (M : Bst σ) (w : World) (S : Hp) (F : Assn) (h : Sat w (btA c S mb M * (pool S * (G * F)))) (Q : Ending → World → Prop)
    (hQ : ∀ e w', DoQ c mb S (G * F) w (wrun m M) e w' → Q e w') :
    Calls Try.prog 29 #[spV mb n, .func (.func jf) #[] caps] w Q := by
  have hmf : ∀ (fn : Fn) (first cap : Array Value) (w : World), (Instr.makeFunc fn first cap).run Try.prog w = .ok (.func fn first cap) w := fun _ _ _ _ => rfl
  have HQ := SL.hid hQ
  have hrun := fun jb w F h => runU_any c hc n hn1 hn2 62 #[.pointer (some ⟨jb, 0, none⟩)] (fnA jb jf caps * G) m (fun args w => enters Try.func62 (by kernel_rfl) rfl args w) (doone_job hcf hj jb) mb M w S F h
  have Hrun := SL.hid hrun
  have hA := (h.alloc (.cells #[.pointer (some ⟨mb, 0, none⟩), .int .i64 (n : Int)] 26 (0, 0))).alloc (.cells #[.func (.func jf) #[] caps] 74 (0, 0))
  have dA := ((Side.refl w).alloc (.cells #[.pointer (some ⟨mb, 0, none⟩), .int .i64 (n : Int)] 26 (0, 0))).alloc (.cells #[.func (.func jf) #[] caps] 74 (0, 0))
  simp only [World.size_alloc] at hA
  clear hQ hrun hj h hcf
  unfold spV
  go_enter Try.func29, Try.ntmps29
  go_wp2_with fail
  have hB : Sat ((w.alloc (.cells #[.pointer (some ⟨mb, 0, none⟩), .int .i64 (n : Int)] 26 (0, 0))).alloc (.cells #[.func (.func jf) #[] caps] 74 (0, 0)))
      (btA c S mb M * (pool S * (fnA (w.heap.size + 1) jf caps * G * (pt w.heap.size (.cells #[.pointer (some ⟨mb, 0, none⟩), .int .i64 (n : Int)] 26 (0, 0)) * F)))) := hA.to (by unfold fnA; ac_rfl)
  refine Hrun.out (w.heap.size + 1) _ _ hB _ ?_
  clear hA hB Hrun
  generalize (w.alloc (.cells #[.pointer (some ⟨mb, 0, none⟩), .int .i64 (n : Int)] 26 (0, 0))).alloc (.cells #[.func (.func jf) #[] caps] 74 (0, 0)) = w1 at *
  generalize w.heap.size + 1 = jb at *
  generalize w.heap.size = sp at *
  have HP := SL.hid (fun e w' => HQ.out e w')
  clear HQ
  obtain ⟨⟨r, M'⟩, hp⟩ : ∃ p, wrun m M = p := ⟨_, rfl⟩
  rw [hp]
  have HP2 : RowKit.Hid (∀ e w', DoQ c mb S (G * F) w (r, M') e w' → Q e w') := fun e w' h => HP.out e w' (by rw [hp]; exact h)
  clear HP hp
  cases r with
  | bad cN =>
    rintro e w2 ⟨S', hS, d2, rfl, h2⟩
    have H2 := SL.hid (h2.to (by ac_rfl : _ = (btA c S' mb M' * (pool S' * (G * F))) * (fnA jb jf caps * pt sp (.cells #[.pointer (some ⟨mb, 0, none⟩), .int .i64 (n : Int)] 26 (0, 0)))))
    clear h2
    go_wp2_with (refine wpList_store_mid (by exact rfl) 104 (.tmp 5) (.tmp 11) (by exact rfl) w2.heap.size 0 #[] (by exact rfl) (by exact rfl) (by exact fun j h => absurd h (Nat.not_lt_zero _)) (by exact info_unit) (by exact rfl) ?_)
    exact HP2.out _ _ ⟨S', hS, (dA.trans d2).alloc _, rfl, (H2.out.alloc _).right.left⟩
  | ok u =>
    rintro e w2 ⟨S', v, hS, d2, rfl, h2⟩
    obtain ⟨rfl, h3⟩ := Sat.fact_iff.1 h2
    have H2 := SL.hid (h3.to (by ac_rfl : _ = (btA c S' mb M' * (pool S' * (G * F))) * (fnA jb jf caps * pt sp (.cells #[.pointer (some ⟨mb, 0, none⟩), .int .i64 (n : Int)] 26 (0, 0)))))
    clear h2 h3
    go_wp2_with (refine wpList_store_mid (by exact rfl) 104 (.tmp 5) (.tmp 11) (by exact rfl) w2.heap.size 0 #[] (by exact rfl) (by exact rfl) (by exact fun j h => absurd h (Nat.not_lt_zero _)) (by exact info_unit) (by exact rfl) ?_)
    exact HP2.out _ _ ⟨S', hS, (dA.trans d2).alloc _, rfl, (H2.out.alloc _).right.left⟩
end
end Go.Proofs.Ytaoohjeaaccnfaa.Fs

/- FileApart: a step of one file; are two files alike? what comes in: steps. -/
import Derived.Test.YtaoohjeaaccnfaaVj
import Derived.Deep.DeepCutAuto
import Derived.Deep.RegionHeld3
import Derived.Deep.CutBlock
import Derived.Deep.CutRange
namespace Go.SL
set_option linter.unusedVariables false
set_option linter.unusedSimpArgs false
theorem countP_win' {p : Nat → Bool} {c : Nat} (h : ∀ i, p i = true → i < c) : ∀ N, (List.range N).countP p ≤ min N c
  | 0 => by simp
  | N + 1 => by
    have := countP_win' h N
    rw [List.range_succ, List.countP_append]
    simp only [List.countP_cons, List.countP_nil]
    split
    · rename_i hN
      have := h N hN
      omega
    · omega
def smallF (f : AF) : Prop := ∀ i, f.pr i = true → i < 22
theorem smallF.need {f : AF} (h : smallF f) : needP f.pr ≤ 24 := by
  unfold needP cntP
  have := countP_win' h 256
  split <;> omega
def stepF (f : AF) (kd : Int) (off : Nat) (sz dt : Int) : AF := if kd = 7 ∨ kd = 8 then f.cut off else f.wr off (byteL sz dt)
theorem smallF.new (kd : Int) : smallF (newF kd) := fun i h => by cases h
theorem smallF.step {f : AF} (h : smallF f) (kd : Int) {off : Nat} (ho : off ≤ 8999) {sz : Int} (hs : sz ≤ 1499) (dt : Int) : smallF (stepF f kd off sz dt) := by
  intro i hi
  unfold stepF at hi
  split at hi
  · have e : (f.pr i && decide (480 * i < off)) = true := hi
    exact h i (by simp only [Bool.and_eq_true] at e; exact e.1)
  · have e : (f.pr i || touched off (byteL sz dt).length i) = true := hi
    rcases Bool.or_eq_true _ _ ▸ e with h1 | h1
    · exact h i h1
    · have := touched_iff.1 h1
      rw [byteL_length] at this
      omega
end Go.SL
namespace Go.Proofs.Ytaoohjeaaccnfaa.Fs
set_option linter.unusedVariables false
set_option linter.unusedSimpArgs false
open Go.RowKit Go.SL Go.ChangeShapes Go.WideShapes Go.ChangeAt Go.Proofs.Ytaoohjeaaccnfaa.Ba
/-- A step, as it comes in. -/
structure Fst where
  kd : Int
  nd : Int
  off : Int
  sz : Int
  dt : Int
def IsSteps (w : World) (a : Option Addr) (len cap : Nat) (X : Nat → Fst) : Prop :=
  len = 0 ∨ ∃ b off, a = some ⟨b, off, none⟩ ∧ len ≤ cap ∧ cap ≤ maxLen ∧ ∀ i, i < len →
    w.cell? ⟨b, off + i * 5, none⟩ = some (.int .i64 (X i).kd) ∧ w.cell? ⟨b, off + i * 5 + 1, none⟩ = some (.int .i64 (X i).nd) ∧ w.cell? ⟨b, off + i * 5 + 2, none⟩ = some (.int .i64 (X i).off) ∧ w.cell? ⟨b, off + i * 5 + 3, none⟩ = some (.int .i64 (X i).sz) ∧ w.cell? ⟨b, off + i * 5 + 4, none⟩ = some (.int .i64 (X i).dt)
theorem IsSteps.cell {w : World} {a : Option Addr} {len cap : Nat} {X : Nat → Fst} (h : IsSteps w a len cap X) {i : Nat} (hi : i < len) :
    ∃ b off, a = some ⟨b, off, none⟩ ∧ len ≤ cap ∧ cap ≤ 9223372036854775807 ∧ 
    w.cell? ⟨b, off + i * 5, none⟩ = some (.int .i64 (X i).kd) ∧ w.cell? ⟨b, off + i * 5 + 1, none⟩ = some (.int .i64 (X i).nd) ∧ w.cell? ⟨b, off + i * 5 + 2, none⟩ = some (.int .i64 (X i).off) ∧ w.cell? ⟨b, off + i * 5 + 3, none⟩ = some (.int .i64 (X i).sz) ∧ w.cell? ⟨b, off + i * 5 + 4, none⟩ = some (.int .i64 (X i).dt) := by
  rcases h with rfl | ⟨b, off, rfl, hl, hm, hc⟩
  · omega
  · exact ⟨b, off, rfl, hl, by simpa [maxLen] using hm, hc i hi⟩
section
variable {H : Type} {enc : TypeId × Value → H} {w : World}
set_option maxRecDepth 100000 in
/-- A slice of steps, opened. -/
theorem fsteps_of {fuel : Nat} {a : Option Addr} {len cap : Nat} {x : DataW H × List MemPlace} (hf : DataW.trod enc Try.prog w 0 (fun _ => true) true fuel 38 [.slice a len cap] = some x) : ∃ X, IsSteps w a len cap X := by
  have hC : Try.prog.cellsOf 40 = 5 := by kernel_rfl
  have hC2 : Try.prog.cellsOf 3 = 1 := by kernel_rfl
  have hnil : Fst := ⟨0, 0, 0, 0, 0⟩
  rcases Go.Deep.open_slice Try.underlying38 hf with ⟨hcs, _⟩ | ⟨ad, l, c, m, n, D, Pl, hcs, _, hl, hm, hmm, _, hi⟩
  · simp at hcs
    obtain ⟨rfl, rfl, rfl⟩ := hcs
    exact ⟨fun _ => hnil, .inl rfl⟩
  · simp at hcs
    obtain ⟨rfl, rfl, rfl⟩ := hcs
    simp only [if_true] at hmm
    rw [hC] at hi
    by_cases h0 : len = 0
    · exact ⟨fun _ => hnil, .inl h0⟩
    have key : ∀ i, i < len → ∃ s : Fst, w.cell? (ad.add (i * 5)) = some (.int .i64 s.kd) ∧ w.cell? ((ad.add (i * 5)).add 1) = some (.int .i64 s.nd) ∧ w.cell? ((ad.add (i * 5)).add 2) = some (.int .i64 s.off) ∧ w.cell? ((ad.add (i * 5)).add 3) = some (.int .i64 s.sz) ∧ w.cell? ((ad.add (i * 5)).add 4) = some (.int .i64 s.dt) := by
      intro i hil
      obtain ⟨cs', hc, ht⟩ := hi i (by omega)
      obtain ⟨ys, n', _, _, hlen, hyl, hfl⟩ := DataW.trod_struct Try.underlying40 ht
      obtain ⟨_, hcl, hat⟩ := World.cells?_some hc
      rw [hC] at hlen
      match cs', hlen, hat, hfl with
      | [c0, c1, c2, c3, c4], _, hat, hfl =>
        have f0 := hfl 0 _ rfl
        have f1 := hfl 1 _ rfl
        have f2 := hfl 2 _ rfl
        have f3 := hfl 3 _ rfl
        have f4 := hfl 4 _ rfl
        have hy3 : ys.length = 5 := hyl
        rw [List.getElem?_eq_getElem (by omega)] at f0 f1 f2 f3 f4
        replace f0 : DataW.trod enc Try.prog w 0 (fun _ => true) true n' 3 (List.take (Try.prog.cellsOf 3) [c0, c1, c2, c3, c4]) = some (ys[0]) := f0
        replace f1 : DataW.trod enc Try.prog w 0 (fun _ => true) true n' 3 (List.take (Try.prog.cellsOf 3) [c1, c2, c3, c4]) = some (ys[1]) := f1
        replace f2 : DataW.trod enc Try.prog w 0 (fun _ => true) true n' 3 (List.take (Try.prog.cellsOf 3) [c2, c3, c4]) = some (ys[2]) := f2
        replace f3 : DataW.trod enc Try.prog w 0 (fun _ => true) true n' 3 (List.take (Try.prog.cellsOf 3) [c3, c4]) = some (ys[3]) := f3
        replace f4 : DataW.trod enc Try.prog w 0 (fun _ => true) true n' 3 (List.take (Try.prog.cellsOf 3) [c4]) = some (ys[4]) := f4
        rw [hC2] at f0 f1 f2 f3 f4
        obtain ⟨v0, e0, _, _⟩ := DataW.trod_int Try.underlying3 f0
        obtain ⟨v1, e1, _, _⟩ := DataW.trod_int Try.underlying3 f1
        obtain ⟨v2, e2, _, _⟩ := DataW.trod_int Try.underlying3 f2
        obtain ⟨v3, e3, _, _⟩ := DataW.trod_int Try.underlying3 f3
        obtain ⟨v4, e4, _, _⟩ := DataW.trod_int Try.underlying3 f4
        simp at e0 e1 e2 e3 e4
        have g0 := hat 0 (by simp)
        have g1 := hat 1 (by simp)
        have g2 := hat 2 (by simp)
        have g3 := hat 3 (by simp)
        have g4 := hat 4 (by simp)
        simp at g0 g1 g2 g3 g4
        exact ⟨⟨v0, v1, v2, v3, v4⟩, by rw [← e0, ← g0]; simp [Addr.add], by rw [← e1]; exact g1, by rw [← e2]; exact g2, by rw [← e3]; exact g3, by rw [← e4]; exact g4⟩
    have hspot : ∃ b off, ad = ⟨b, off, none⟩ := by
      obtain ⟨s, h1, _⟩ := key 0 (by omega)
      obtain ⟨b, off, spot⟩ := ad
      have : spot = none := by simpa [Addr.add] using World.cell?_spot h1
      exact ⟨b, off, by rw [this]⟩
    obtain ⟨b, off, rfl⟩ := hspot
    have key2 : ∀ i, ∃ s : Fst, i < len → w.cell? ⟨b, off + i * 5, none⟩ = some (.int .i64 s.kd) ∧ w.cell? ⟨b, off + i * 5 + 1, none⟩ = some (.int .i64 s.nd) ∧ w.cell? ⟨b, off + i * 5 + 2, none⟩ = some (.int .i64 s.off) ∧ w.cell? ⟨b, off + i * 5 + 3, none⟩ = some (.int .i64 s.sz) ∧ w.cell? ⟨b, off + i * 5 + 4, none⟩ = some (.int .i64 s.dt) := by
      intro i
      by_cases hil : i < len
      · obtain ⟨s, h1, h2, h3, h4, h5⟩ := key i hil
        rw [Addr.add_lit] at h1
        rw [Addr.add_lit, Addr.add_lit] at h2 h3 h4 h5
        exact ⟨s, fun _ => ⟨h1, h2, h3, h4, h5⟩⟩
      · exact ⟨hnil, fun h => absurd h hil⟩
    exact ⟨fun i => Classical.choose (key2 i), .inr ⟨b, off, rfl, hl, hm, fun i hil => Classical.choose_spec (key2 i) hil⟩⟩
end
section
variable {n : Nat} {x : Fx n} {b k id : Nat} {A : Nat → Option AF} {f : AF} {w : World} {F : Assn}
def ChQ (x : Fx n) (b : Nat) (A : Nat → Option AF) (k : Nat) (F : Assn) (w : World) (e : Ending) (w' : World) : Prop := e = .returned (.tuple #[]) ∧ Side w w' ∧ Sat w' (fsA x b A k * F)
def stV (kd nd off sz dt : Int) : Value := .agg #[.int .i64 kd, .int .i64 nd, .int .i64 off, .int .i64 sz, .int .i64 dt]
theorem sl_cap {w : World} {T : TypeId} {va : Option Addr} {m c : Nat} {xs : List Value} {F : Assn} (h : Sat w (sl T 1 (.slice va m c) m xs * F)) : m ≤ c := by
  rcases h.slCases with ⟨e, h0, -⟩ | ⟨g, cap, cur, e, h3, -⟩
  · omega
  · simp only [Value.slice.injEq] at e
    omega
set_option maxRecDepth 100000 in
set_option maxHeartbeats 2000000 in
theorem change_any (h : Sat w (fsA x b A k * F)) (hf : A id = some f) (hsm : smallF f) (kd nd : Int) (off sz : Nat) (dt : Int) (ho : off ≤ 8999) (hz : sz ≤ 1499) (hk : 24 ≤ k + needP f.pr) :
    Calls Try.prog 15 #[spV b n, .int .i64 (id : Int), stV kd nd (off : Int) (sz : Int) dt] w (ChQ x b (upO A id (some (stepF f kd off sz dt))) (k + needP f.pr - needP (stepF f kd off sz dt).pr) F w) := by
  refine callsQ fun Q HQ => ?_
  have hns := (hsm.step kd ho (sz := (sz : Int)) (by omega) dt).need
  have hA := ((h.alloc (.cells #[.pointer (some ⟨b, 0, none⟩), .int .i64 (n : Int)] 26 (0, 0))).alloc (.cells #[.int .i64 kd, .int .i64 nd, .int .i64 (off : Int), .int .i64 (sz : Int), .int .i64 dt] 40 (0, 0)))
  have dA := SL.hid (((Side.refl w).alloc (.cells #[.pointer (some ⟨b, 0, none⟩), .int .i64 (n : Int)] 26 (0, 0))).alloc (.cells #[.int .i64 kd, .int .i64 nd, .int .i64 (off : Int), .int .i64 (sz : Int), .int .i64 dt] 40 (0, 0)))
  rw [World.size_alloc] at hA
  have hB := SL.hid (hA.to (by ac_rfl : _ = fsA x b A k * (pt w.heap.size (.cells #[.pointer (some ⟨b, 0, none⟩), .int .i64 (n : Int)] 26 (0, 0)) * (pt (w.heap.size + 1) (.cells #[.int .i64 kd, .int .i64 nd, .int .i64 (off : Int), .int .i64 (sz : Int), .int .i64 dt] 40 (0, 0)) * F))))
  clear hA h
  have HF := SL.hid hf; have HS := SL.hid hns
  clear hf hsm hns
  by_cases h78 : kd = 7 ∨ kd = 8
  · have e : stepF f kd off sz dt = f.cut off := if_pos h78
    rw [e] at HQ HS
    have hc := y_trunc hB.out HF.out off (by omega)
    have Hc := SL.hid hc
    have cA := hB.out.front2.cell 0
    have cB := hB.out.front2.cell 1
    have c0 := hB.out.front3.cell 0
    have c2 := hB.out.front3.cell 2
    simp at cA cB c0 c2
    have h7 : kd = 7 ∨ (kd ≠ 7 ∧ kd = 8) := by omega
    clear hc h78 e
    unfold spV stV
    rcases h7 with rfl | ⟨h7, rfl⟩
    all_goals
      go_enter Try.func15, Try.ntmps15
      go_wp2_with fail
      refine Hc.out.mono ?_
      rintro e w1 ⟨rfl, d1, h1⟩
      have h2 := h1.drop2
      go_wp2_with fail
      exact bodyPost_ret (v := .tuple #[]) (by simp [results, Try.results15, go_sem]) rfl (HQ.out _ _ ⟨rfl, dA.out.trans d1, h2.drop2⟩)
  · have e : stepF f kd off sz dt = f.wr off (byteL sz dt) := if_neg h78
    rw [e] at HQ HS
    have hlen : (byteL sz dt).length = sz := by rw [byteL_length]; omega
    have h7 : (kd == 7) = false := by rw [beq_eq_false_iff_ne]; exact fun h => h78 (.inl h)
    have h8 : (kd == 8) = false := by rw [beq_eq_false_iff_ne]; exact fun h => h78 (.inr h)
    have hby := fun w' F' h' => bytes_any (sz : Int) dt F' w' h'
    have hwr := fun w' va vc (h' : Sat w' (fsA x b A k * (bs 5 (.slice va (byteL sz dt).length vc) (byteL sz dt) * (pt w.heap.size (.cells #[.pointer (some ⟨b, 0, none⟩), .int .i64 (n : Int)] 26 (0, 0)) * (pt (w.heap.size + 1) (.cells #[.int .i64 kd, .int .i64 nd, .int .i64 (off : Int), .int .i64 (sz : Int), .int .i64 dt] 40 (0, 0)) * F))))) (hcap : (byteL sz dt).length ≤ vc) =>
      y_write (l := byteL sz dt) (va := va) (cap := vc) HF.out off (hD_bs _ _) hcap (by omega) (by omega) (by have := HS.out; omega) h'
    have c := hB.out
    have HBy := SL.hid hby; have HWr := SL.hid hwr
    generalize hsp : w.heap.size = sp at *
    have Keep := SL.hid (fun w' (P : Assn) (h' : Sat w' (P * (pt sp (.cells #[.pointer (some ⟨b, 0, none⟩), .int .i64 (n : Int)] 26 (0, 0)) * (pt (sp + 1) (.cells #[.int .i64 kd, .int .i64 nd, .int .i64 (off : Int), .int .i64 (sz : Int), .int .i64 dt] 40 (0, 0)) * F)))) =>
      (⟨h'.front2.cell 0, h'.front2.cell 1, h'.front3.cell 0, h'.front3.cell 2, h'.front3.cell 3, h'.front3.cell 4⟩ :
        w'.cell? ⟨sp, 0, none⟩ = some (.pointer (some ⟨b, 0, none⟩)) ∧ w'.cell? ⟨sp, 1, none⟩ = some (.int .i64 (n : Int)) ∧ w'.cell? ⟨sp + 1, 0, none⟩ = some (.int .i64 kd) ∧ w'.cell? ⟨sp + 1, 2, none⟩ = some (.int .i64 (off : Int)) ∧ w'.cell? ⟨sp + 1, 3, none⟩ = some (.int .i64 (sz : Int)) ∧ w'.cell? ⟨sp + 1, 4, none⟩ = some (.int .i64 dt)))
    have k0 := Keep.out _ _ c
    clear hby hwr c h78 hlen e
    unfold spV stV
    go_enter Try.func15, Try.ntmps15
    go_wp2_with fail
    generalize (w.alloc (.cells #[.pointer (some ⟨b, 0, none⟩), .int .i64 (n : Int)] 26 (0, 0))).alloc (.cells #[.int .i64 kd, .int .i64 nd, .int .i64 (off : Int), .int .i64 (sz : Int), .int .i64 dt] 40 (0, 0)) = w1 at *
    have k0d : w1.drew.cell? ⟨sp, 0, none⟩ = some (.pointer (some ⟨b, 0, none⟩)) ∧ w1.drew.cell? ⟨sp, 1, none⟩ = some (.int .i64 (n : Int)) ∧ w1.drew.cell? ⟨sp + 1, 0, none⟩ = some (.int .i64 kd) ∧ w1.drew.cell? ⟨sp + 1, 2, none⟩ = some (.int .i64 (off : Int)) ∧ w1.drew.cell? ⟨sp + 1, 3, none⟩ = some (.int .i64 (sz : Int)) ∧ w1.drew.cell? ⟨sp + 1, 4, none⟩ = some (.int .i64 dt) := k0
    go_region_held3 (fun w' => w'.cell? ⟨sp, 0, none⟩ = some (.pointer (some ⟨b, 0, none⟩)) ∧ w'.cell? ⟨sp, 1, none⟩ = some (.int .i64 (n : Int)) ∧ w'.cell? ⟨sp + 1, 0, none⟩ = some (.int .i64 kd) ∧ w'.cell? ⟨sp + 1, 2, none⟩ = some (.int .i64 (off : Int)) ∧ w'.cell? ⟨sp + 1, 3, none⟩ = some (.int .i64 (sz : Int)) ∧ w'.cell? ⟨sp + 1, 4, none⟩ = some (.int .i64 dt))
      (first | (with_reducible exact k0) | (with_reducible exact k0d) | (with_reducible exact k2) | (with_reducible exact k3))
      (first
        | (go_at_call 44; (first | (with_reducible refine (HBy.out _ _ hB.out).mono ?_) | (with_reducible refine (HBy.out _ _ hB.out.drew).mono ?_)); rintro e w2 ⟨v, rfl, h2, d2⟩; obtain ⟨va, vc, rfl⟩ := sl_shape h2; have hcp := sl_cap h2; have h2' := h2.front2; have k2 := Keep.out _ _ (h2.to (star_assoc _ _ _).symm))
        | (go_at_call 11; refine (HWr.out _ _ _ h2' hcp).mono ?_; rintro e w3 ⟨rfl, d3, h3⟩; have k3 := Keep.out _ _ (h3.to (star_assoc _ _ _).symm)))
    go_wp2_with fail
    go_end0
    have e3 := h3.drop2
    exact HQ.out _ _ ⟨rfl, (dA.out.drew.trans d2).trans d3, e3.drop2.drop2⟩
end
section
variable {n m : Nat} {x : Fx n} {y : Fx m} {b c k j id od : Nat} {A B : Nat → Option AF} {f : AF} {w : World} {F : Assn}
def AlQ (x : Fx n) (b : Nat) (A : Nat → Option AF) (k : Nat) (y : Fx m) (c : Nat) (B : Nat → Option AF) (j : Nat) (F : Assn) (w : World) (e : Ending) (w' : World) : Prop := e = .returned (.bool true) ∧ Side w w' ∧ Sat w' (fsA x b A k * (fsA y c B j * F))
set_option maxRecDepth 100000 in
set_option maxHeartbeats 2000000 in
theorem alike_any (h : Sat w (fsA x b A k * (fsA y c B j * F))) (hf : A id = some f) (hg : B od = some f) :
    Calls Try.prog 16 #[spV b n, .int .i64 (id : Int), spV c m, .int .i64 (od : Int)] w (AlQ x b A k y c B j F w) := by
  refine callsQ fun Q HQ => ?_
  have hA := ((h.alloc (.cells #[.pointer (some ⟨b, 0, none⟩), .int .i64 (n : Int)] 26 (0, 0))).alloc (.cells #[.pointer (some ⟨c, 0, none⟩), .int .i64 (m : Int)] 26 (0, 0)))
  have dA := SL.hid (((Side.refl w).alloc (.cells #[.pointer (some ⟨b, 0, none⟩), .int .i64 (n : Int)] 26 (0, 0))).alloc (.cells #[.pointer (some ⟨c, 0, none⟩), .int .i64 (m : Int)] 26 (0, 0)))
  rw [World.size_alloc] at hA
  have hB : Sat ((w.alloc (.cells #[.pointer (some ⟨b, 0, none⟩), .int .i64 (n : Int)] 26 (0, 0))).alloc (.cells #[.pointer (some ⟨c, 0, none⟩), .int .i64 (m : Int)] 26 (0, 0))) (fsA x b A k * (fsA y c B j * (pt w.heap.size (.cells #[.pointer (some ⟨b, 0, none⟩), .int .i64 (n : Int)] 26 (0, 0)) * (pt (w.heap.size + 1) (.cells #[.pointer (some ⟨c, 0, none⟩), .int .i64 (m : Int)] 26 (0, 0)) * F)))) := hA.to (by ac_rfl)
  have HB := SL.hid hB
  have HF := SL.hid hf; have HG := SL.hid hg
  have c0 := hB.front3.cell 0
  have c1 := hB.front3.cell 1
  have c2 := hB.front4.cell 0
  have c3 := hB.front4.cell 1
  simp at c0 c1 c2 c3
  clear hA hB hf hg h
  unfold spV
  go_enter Try.func16, Try.ntmps16
  go_wp2_with fail
  generalize (w.alloc (.cells #[.pointer (some ⟨b, 0, none⟩), .int .i64 (n : Int)] 26 (0, 0))).alloc (.cells #[.pointer (some ⟨c, 0, none⟩), .int .i64 (m : Int)] 26 (0, 0)) = w1 at *
  generalize w.heap.size = sp at *
  have hr : Calls Try.prog 12 #[spV b n, .int .i64 (id : Int), .int .i64 0, .int .i64 20000] w1 (YB x b A k (f.sub 0 20000) _ w1) := y_read HB.out HF.out 0 20000
  refine hr.mono ?_
  rintro e w2 ⟨v, rfl, d2, h2⟩
  have c2 : w2.cell? ⟨sp + 1, 0, none⟩ = some (.pointer (some ⟨c, 0, none⟩)) := h2.front5.cell 0
  have c3 : w2.cell? ⟨sp + 1, 1, none⟩ = some (.int .i64 (m : Int)) := h2.front5.cell 1
  have h3 := h2.to (by ac_rfl : _ = fsA y c B j * (bs 5 v (f.sub 0 20000) * (fsA x b A k * (pt sp (.cells #[.pointer (some ⟨b, 0, none⟩), .int .i64 (n : Int)] 26 (0, 0)) * (pt (sp + 1) (.cells #[.pointer (some ⟨c, 0, none⟩), .int .i64 (m : Int)] 26 (0, 0)) * F)))))
  have hr2 : Calls Try.prog 12 #[spV c m, .int .i64 (od : Int), .int .i64 0, .int .i64 20000] w2 (YB y c B j (f.sub 0 20000) _ w2) := y_read h3 HG.out 0 20000
  have Hr2 := SL.hid hr2
  clear hr hr2 h2 h3 HB c0 c1
  go_wp2_with fail
  refine Hr2.out.mono ?_
  rintro e w3 ⟨v3, rfl, d3, h4⟩
  have t1 : (convert 22 9 v).run Try.prog w3 = .ok (.string (str (f.sub 0 20000))) w3 := run_text _ _ _ (hD_bs _ _ _ _ (h4.front3))
  have t2 : (convert 22 9 v3).run Try.prog w3 = .ok (.string (str (f.sub 0 20000))) w3 := run_text _ _ _ (hD_bs _ _ _ _ h4)
  have H4 := SL.hid h4
  clear h4 Hr2
  generalize str (f.sub 0 20000) = SL1 at t1 t2
  go_wp2_with fail
  refine HQ.out _ _ ⟨rfl, (dA.out.trans d2).trans d3, ?_⟩
  have h5 := H4.out.to (by ac_rfl : _ = fsA x b A k * (fsA y c B j * (F * (bs 5 v (f.sub 0 20000) * bs 5 v3 (f.sub 0 20000) * pt sp (.cells #[.pointer (some ⟨b, 0, none⟩), .int .i64 (n : Int)] 26 (0, 0)) * pt (sp + 1) (.cells #[.pointer (some ⟨c, 0, none⟩), .int .i64 (m : Int)] 26 (0, 0))))))
  exact (h5.to (by ac_rfl : _ = (fsA x b A k * (fsA y c B j * F)) * (bs 5 v (f.sub 0 20000) * bs 5 v3 (f.sub 0 20000) * pt sp (.cells #[.pointer (some ⟨b, 0, none⟩), .int .i64 (n : Int)] 26 (0, 0)) * pt (sp + 1) (.cells #[.pointer (some ⟨c, 0, none⟩), .int .i64 (m : Int)] 26 (0, 0))))).left
end
end Go.Proofs.Ytaoohjeaaccnfaa.Fs

/- file: a space over a reader that is good, as who calls it has it: its files. -/
import Derived.Test.YtaoohjeaaccnfaaGreatOe
import Derived.Test.YtaoohjeaaccnfaaGreatYi
namespace Go.SL
set_option linter.unusedVariables false
set_option linter.unusedSimpArgs false
open Go.RowKit
theorem upO_up {α : Type} (f : Nat → α) (k : Nat) (x y : α) : upO (upO f k x) k y = upO f k y := by
  funext b; unfold upO; split <;> rfl
theorem upO_comm {α : Type} (f : Nat → α) {k j : Nat} (x y : α) (h : k ≠ j) : upO (upO f k x) j y = upO (upO f j y) k x := by
  funext b; unfold upO; by_cases h1 : b = j <;> by_cases h2 : b = k <;> simp [h1, h2] <;> omega
end Go.SL
namespace Go.Proofs.YtaoohjeaaccnfaaGreat.Fs
set_option linter.unusedVariables false
set_option linter.unusedSimpArgs false
open Go.RowKit Go.SL Go.Proofs.YtaoohjeaaccnfaaGreat.Ba
/-- Where a space stands: over a reader that has n blocks. -/
structure Fx (n : Nat) where
  σ : Type
  c : Cx σ
  V0 : Nat → List UInt8
  I : σ → Prop
  ok : c.Ok
  rdr : Rdr c.ask n V0 I
  h4 : 4 ≤ n
  hn : n ≤ 3840
  R : Hp → Assn
  hR : ∀ S S', Ext S S' → ∀ h, R S h → R S' h
/-- A space, as its batch is. -/
def spM {n : Nat} (x : Fx n) (b : Nat) (M : Bst x.σ) : Assn := ex fun S => btA x.c S b M * (pool S * x.R S)
abbrev AbsX {n : Nat} (x : Fx n) (M : Bst x.σ) (A : Nat → Option AF) (k : Nat) : Prop := Abs n x.V0 x.I M A k
/-- A space that has these files, and so many blocks that are free. -/
def fsA {n : Nat} (x : Fx n) (b : Nat) (A : Nat → Option AF) (k : Nat) : Assn := ex fun M => fact (AbsX x M A k) * spM x b M
section
variable {n : Nat} {x : Fx n} {b k : Nat} {A : Nat → Option AF} {M : Bst x.σ} {w w' : World} {F : Assn}
theorem Sat.mOpen (h : Sat w (spM x b M * F)) : ∃ S, Sat w (btA x.c S b M * (pool S * (x.R S * F))) := by
  obtain ⟨S, h1⟩ := Sat.ex_star_iff.1 h
  exact ⟨S, h1.to (by ac_rfl)⟩
theorem Sat.mShut {S S' : Hp} (hE : Ext S S') (h : Sat w (btA x.c S' b M * (pool S' * (x.R S * F)))) : Sat w (spM x b M * F) := by
  have h1 := (h.to (by ac_rfl : _ = x.R S * (btA x.c S' b M * (pool S' * F)))).weak (x.hR S S' hE)
  exact Sat.ex_star_iff.2 ⟨S', h1.to (by ac_rfl)⟩
theorem Sat.fOpen (h : Sat w (fsA x b A k * F)) : ∃ M, AbsX x M A k ∧ Sat w (spM x b M * F) := by
  obtain ⟨M, h1⟩ := Sat.ex_star_iff.1 h
  obtain ⟨h2, h3⟩ := Sat.fact_iff.1 (h1.to (star_assoc _ _ _))
  exact ⟨M, h2, h3⟩
theorem Sat.fShut (hm : AbsX x M A k) (h : Sat w (spM x b M * F)) : Sat w (fsA x b A k * F) :=
  Sat.ex_star_iff.2 ⟨M, (Sat.fact_iff.2 ⟨hm, h⟩ : Sat w (fact (AbsX x M A k) * (spM x b M * F))).to (star_assoc _ _ _).symm⟩
/-- A call answers a number, and the space is so. -/
def YI {n : Nat} (x : Fx n) (b : Nat) (A : Nat → Option AF) (k : Nat) (v c : Int) (F : Assn) (w : World) (e : Ending) (w' : World) : Prop :=
  e = .returned (.tuple #[.int .i64 v, .int .i64 c]) ∧ Side w w' ∧ Sat w' (fsA x b A k * F)
def YE {n : Nat} (x : Fx n) (b : Nat) (A : Nat → Option AF) (k : Nat) (c : Int) (F : Assn) (w : World) (e : Ending) (w' : World) : Prop :=
  e = .returned (.int .i64 c) ∧ Side w w' ∧ Sat w' (fsA x b A k * F)
def YB {n : Nat} (x : Fx n) (b : Nat) (A : Nat → Option AF) (k : Nat) (l : List UInt8) (F : Assn) (w : World) (e : Ending) (w' : World) : Prop :=
  ∃ v, e = .returned (.tuple #[v, .int .i64 0]) ∧ Side w w' ∧ Sat w' (bs 5 v l * (fsA x b A k * F))
def YN {n : Nat} (x : Fx n) (b : Nat) (A : Nat → Option AF) (k : Nat) (f : AF) (F : Assn) (w : World) (e : Ending) (w' : World) : Prop :=
  ∃ y : Nd, e = .returned (.tuple #[.agg (ints y.l), .int .i64 0]) ∧ y.dr.length = 16 ∧ y.kd = f.kd ∧ y.lk = f.lk ∧ y.sz = f.sz ∧ Side w w' ∧ Sat w' (fsA x b A k * F)
def YNew {n : Nat} (x : Fx n) (b : Nat) (A : Nat → Option AF) (k : Nat) (kd : Int) (F : Assn) (w : World) (e : Ending) (w' : World) : Prop :=
  ∃ id : Nat, e = .returned (.tuple #[.int .i64 (id : Int), .int .i64 0]) ∧ A id = none ∧ 0 < id ∧ id < n ∧ Side w w' ∧ Sat w' (fsA x b (upO A id (some (newF kd))) (k - 1) * F)
section
variable {S : Hp} {c : Int} {M' : Bst x.σ} {A' : Nat → Option AF} {k' : Nat} {e : Ending}
theorem DoQ.ye {p : Rs Unit × Bst x.σ} (h : DoQ x.c b S (x.R S * F) w p e w') (hp : p = (.ok (), M')) (hA : AbsX x M' A' k') : YE x b A' k' 0 F w e w' := by
  subst hp
  obtain ⟨S', hE, d, he, hs⟩ := h
  exact ⟨he, d, Sat.fShut hA (Sat.mShut hE hs)⟩
theorem DoQ.no {p : Rs Unit × Bst x.σ} (h : DoQ x.c b S (x.R S * F) w p e w') (hp : p = (.bad c, M')) (hA : AbsX x M' A' k') : YE x b A' k' c F w e w' := by
  subst hp
  obtain ⟨S', hE, d, he, hs⟩ := h
  exact ⟨he, d, Sat.fShut hA (Sat.mShut hE hs)⟩
theorem SpQ.ye {p : Rs Nat × Bst x.σ} {v : Nat} (h : SpQ x.c b S (x.R S * F) w p e w') (hp : p = (.ok v, M')) (hA : AbsX x M' A' k') : YI x b A' k' v 0 F w e w' := by
  subst hp
  obtain ⟨S', hE, d, he, hs⟩ := h
  exact ⟨he, d, Sat.fShut hA (Sat.mShut hE hs)⟩
theorem SpQ.no {p : Rs Nat × Bst x.σ} (h : SpQ x.c b S (x.R S * F) w p e w') (hp : p = (.bad c, M')) (hA : AbsX x M' A' k') : YI x b A' k' 0 c F w e w' := by
  subst hp
  obtain ⟨S', hE, d, he, hs⟩ := h
  exact ⟨he, d, Sat.fShut hA (Sat.mShut hE hs)⟩
end
variable (h : Sat w (fsA x b A k * F))
include h
theorem y_wf {id : Nat} {f : AF} (hf : A id = some f) : f.Wf ∧ 0 < id ∧ id < n := by
  obtain ⟨M, hm, -⟩ := Sat.fOpen h
  exact hm.wf hf
theorem y_new {kd : Int} (hkd : kd = 1 ∨ kd = 2) (hk : 0 < k) : Calls Tryz.prog 15 #[spV b n, .int .i64 kd] w (YNew x b A k kd F w) := by
  obtain ⟨M, hm, h0⟩ := Sat.fOpen h
  obtain ⟨S, h1⟩ := Sat.mOpen h0
  refine (sp_new x.c x.ok n x.h4 x.hn b M w S kd (x.R S * F) h1).mono fun e w' hq => ?_
  rcases abs_new x.rdr (by have := x.h4; omega) x.hn hm hkd with ⟨id, M1, e1, r1, i0, i1, -, A1⟩ | ⟨s', -, h0, -⟩
  · rw [e1] at hq
    obtain ⟨S', hE, d, he, hs⟩ := hq
    exact ⟨id, he, r1, i0, i1, d, Sat.fShut A1 (Sat.mShut hE hs)⟩
  · omega
theorem y_new0 {kd : Int} (hkd : kd = 1 ∨ kd = 2) (hk : k = 0) : Calls Tryz.prog 15 #[spV b n, .int .i64 kd] w (YI x b A k 0 7 F w) := by
  obtain ⟨M, hm, h0⟩ := Sat.fOpen h
  obtain ⟨S, h1⟩ := Sat.mOpen h0
  refine (sp_new x.c x.ok n x.h4 x.hn b M w S kd (x.R S * F) h1).mono fun e w' hq => ?_
  rcases abs_new x.rdr (by have := x.h4; omega) x.hn hm hkd with ⟨id, M1, e1, r1, i0, i1, hp, A1⟩ | ⟨s', e1, -, A1⟩
  · omega
  · exact hq.no e1 A1
theorem y_left : Calls Tryz.prog 13 #[spV b n] w (YI x b A k k 0 F w) := by
  obtain ⟨M, hm, h0⟩ := Sat.fOpen h
  obtain ⟨S, h1⟩ := Sat.mOpen h0
  refine (sp_left x.c x.ok n x.h4 x.hn b M w S (x.R S * F) h1).mono fun e w' hq => ?_
  obtain ⟨M1, e1, A1⟩ := abs_left x.rdr (by have := x.h4; omega) hm
  exact hq.ye e1 A1
theorem y_need {id : Nat} {f : AF} (hf : A id = some f) : Calls Tryz.prog 50 #[spV b n, .int .i64 (id : Int)] w (YI x b A k (needP f.pr : Nat) 0 F w) := by
  obtain ⟨M, hm, h0⟩ := Sat.fOpen h
  obtain ⟨S, h1⟩ := Sat.mOpen h0
  refine (sp_need x.c x.ok n x.h4 x.hn b M w S id (x.R S * F) h1).mono fun e w' hq => ?_
  obtain ⟨M1, e1, A1⟩ := abs_need x.rdr (by have := x.h4; omega) x.hn hm hf
  exact hq.ye e1 A1
theorem y_free {id : Nat} {f : AF} (hf : A id = some f) : Calls Tryz.prog 22 #[spV b n, .int .i64 (id : Int)] w (YE x b (upO A id none) (k + needP f.pr) 0 F w) := by
  obtain ⟨M, hm, h0⟩ := Sat.fOpen h
  obtain ⟨S, h1⟩ := Sat.mOpen h0
  refine (sp_free x.c x.ok n x.h4 x.hn b M w S id (x.R S * F) h1).mono fun e w' hq => ?_
  obtain ⟨M1, e1, A1⟩ := abs_free x.rdr (by have := x.h4; omega) x.hn hm hf
  exact hq.ye e1 A1
theorem y_trunc {id : Nat} {f : AF} (hf : A id = some f) (size : Nat) (hs : size ≤ 122880) : Calls Tryz.prog 30 #[spV b n, .int .i64 (id : Int), .int .i64 (size : Int)] w (YE x b (upO A id (some (f.cut size))) (k + needP f.pr - needP (f.cut size).pr) 0 F w) := by
  obtain ⟨M, hm, h0⟩ := Sat.fOpen h
  obtain ⟨S, h1⟩ := Sat.mOpen h0
  refine (sp_trunc x.c x.ok n x.h4 x.hn b M w S id size (x.R S * F) h1).mono fun e w' hq => ?_
  obtain ⟨M1, e1, A1⟩ := abs_trunc x.rdr (by have := x.h4; omega) x.hn hm hf size hs
  exact hq.ye e1 A1
theorem y_read {id : Nat} {f : AF} (hf : A id = some f) (off cnt : Nat) : Calls Tryz.prog 49 #[spV b n, .int .i64 (id : Int), .int .i64 (off : Int), .int .i64 (cnt : Int)] w (YB x b A k (f.sub off cnt) F w) := by
  obtain ⟨M, hm, h0⟩ := Sat.fOpen h
  obtain ⟨S, h1⟩ := Sat.mOpen h0
  refine (sp_readat x.c x.ok n x.h4 x.hn b M w S id off cnt (x.R S * F) h1).mono fun e w' hq => ?_
  obtain ⟨M1, e1, A1⟩ := abs_readAt x.rdr (by have := x.h4; omega) x.hn hm hf off cnt
  rw [e1] at hq
  obtain ⟨S', u, hE, d, he, hs⟩ := hq
  refine ⟨u, he, d, ?_⟩
  have h2 := Sat.fShut A1 (Sat.mShut hE (hs.to (by unfold bytesR; ac_rfl : _ = btA x.c S' b M1 * (pool S' * (x.R S * (bs 5 u (f.sub off cnt) * F))))))
  exact h2.front2
theorem y_node {id : Nat} {f : AF} (hf : A id = some f) : Calls Tryz.prog 12 #[spV b n, .int .i64 (id : Int)] w (YN x b A k f F w) := by
  obtain ⟨M, hm, h0⟩ := Sat.fOpen h
  obtain ⟨S, h1⟩ := Sat.mOpen h0
  refine (sp_node x.c x.ok n x.h4 x.hn b M w S id (x.R S * F) h1).mono fun e w' hq => ?_
  obtain ⟨y, M1, e1, y1, y2, y3, A1⟩ := abs_node x.rdr (by have := x.h4; omega) x.hn hm hf
  rw [e1] at hq
  obtain ⟨S', u, hE, d, he, hs⟩ := hq
  obtain ⟨⟨rfl, h16⟩, h2⟩ := Sat.fact_iff.1 hs
  exact ⟨y, he, h16, y1, y2, y3, d, Sat.fShut A1 (Sat.mShut hE h2)⟩
omit h
variable {D : Assn} {va : Option Addr} {cap : Nat} {l : List UInt8}
theorem y_write {id : Nat} {f : AF} (hf : A id = some f) (off : Nat) (hD : ∀ W P, Sat W (D * P) → Rd W (.slice va l.length cap) l) (hcap : l.length ≤ cap) (hl : l.length ≤ 4096) (hm : off + l.length ≤ 122880) (hk : needP (f.wr off l).pr ≤ k + needP f.pr) (h : Sat w (fsA x b A k * (D * F))) :
    Calls Tryz.prog 21 #[spV b n, .int .i64 (id : Int), .int .i64 (off : Int), .slice va l.length cap] w (YE x b (upO A id (some (f.wr off l))) (k + needP f.pr - needP (f.wr off l).pr) 0 (D * F) w) := by
  obtain ⟨M, hm', h0⟩ := Sat.fOpen h
  obtain ⟨S, h1⟩ := Sat.mOpen h0
  refine (sp_writeat x.c x.ok n x.h4 x.hn b M w S id off l va cap D hD hcap (by omega) (x.R S * F) (h1.to (by ac_rfl))).mono fun e w' hq => ?_
  rw [star_left_comm] at hq
  rcases abs_writeAt x.rdr (by have := x.h4; omega) x.hn hm' hf off l hl hm with ⟨M1, e1, -, A1⟩ | ⟨s', -, h9, -⟩
  · exact hq.ye e1 A1
  · omega
theorem y_writeN {id : Nat} {f : AF} (hf : A id = some f) (off : Nat) (hD : ∀ W P, Sat W (D * P) → Rd W (.slice va l.length cap) l) (hcap : l.length ≤ cap) (hl : l.length ≤ 4096) (hm : off + l.length ≤ 122880) (hk : k + needP f.pr < needP (f.wr off l).pr) (h : Sat w (fsA x b A k * (D * F))) :
    Calls Tryz.prog 21 #[spV b n, .int .i64 (id : Int), .int .i64 (off : Int), .slice va l.length cap] w (YE x b A k 7 (D * F) w) := by
  obtain ⟨M, hm', h0⟩ := Sat.fOpen h
  obtain ⟨S, h1⟩ := Sat.mOpen h0
  refine (sp_writeat x.c x.ok n x.h4 x.hn b M w S id off l va cap D hD hcap (by omega) (x.R S * F) (h1.to (by ac_rfl))).mono fun e w' hq => ?_
  rw [star_left_comm] at hq
  rcases abs_writeAt x.rdr (by have := x.h4; omega) x.hn hm' hf off l hl hm with ⟨M1, e1, h9, A1⟩ | ⟨s', e1, -, A1⟩
  · omega
  · exact hq.no e1 A1
end
end Go.Proofs.YtaoohjeaaccnfaaGreat.Fs

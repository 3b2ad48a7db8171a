/- Steps towards the statement StoreC. -/
import Derived.Test.YtdafdidmbeecfaaGreatDoorStoreCP34
section
namespace Go.Proofs.YtdafdidmbeecfaaGreatDoor
set_option linter.unusedVariables false
set_option linter.unusedSimpArgs false
open Go.RowKit Go.SL
def rdH (has : Has) (id : Int) : List UInt8 := (has id).getD (zs 480)
def SameH (a b : Has) : Prop := ∀ id, rdH a id = rdH b id
theorem SameH.refl (a : Has) : SameH a a := fun _ => rfl
theorem SameH.trans {a b c : Has} (h : SameH a b) (k : SameH b c) : SameH a c := fun id => (h id).trans (k id)
theorem SameH.symm {a b : Has} (h : SameH a b) : SameH b a := fun id => (h id).symm
section
variable {n P B : Nat} {Sp : List UInt8} {J : Jr} {D E : Dev} {has : Has} {L : Bl} {m : Nat} {K : List Int} {o : Ar}
theorem rdH_len (h : JInv J D has) (id : Int) : (rdH has id).length = 480 := by
 unfold rdH
 cases ht : told J.T.ps id with
 | none => rw [h.non id ht]; show (zs 480).length = 480; exact List.length_replicate
 | some p =>
  obtain ⟨t, b, h1, h2, _⟩ := h.dat id p ht
  rw [h1]; exact h2
def w0 (has : Has) : Bl := [((0 : Int), rdH has 0)]
theorem w0_batch (h : JInv J D has) (hn : 1 ≤ n) : Batch (n : Int) (w0 has) :=
 ⟨by simp [w0], by simp [w0], fun x hx => by simp [w0] at hx; subst hx; exact ⟨Int.le_refl _, by show (0 : Int) < _; omega⟩, fun x hx => by simp [w0] at hx; subst hx; exact rdH_len h 0, by simp [w0]⟩
theorem w0_same (has : Has) : SameH (updB has (w0 has)) has := by
 intro id
 show ((kget (w0 has) id).or (has id)).getD (zs 480) = _
 by_cases h : id = 0
 ·subst h
  simp [w0, kget]
 ·have : kget (w0 has) id = none := by simp [w0, kget]; exact fun e => h e.symm
  rw [this]; rfl
theorem addN_addS (c : Int) (a b : Nat) : addN (addN c a) b = addN c (a + b) := by
 induction b with
 | zero => rfl
 | succ b ih => show i64w (addN (addN c a) b + 1) = i64w (addN c (a + b) + 1); rw [ih]
def Still (n P B : Nat) (Sp : List UInt8) (E : Dev) (has : Has) : Prop := ∃ J' has', Mnt n P B Sp J' E has' ∧ SameH has' has
theorem Still.more {B' : Nat} (h : Still n P B Sp E has) (hB : B ≤ B') : Still n P B' Sp E has := by
 obtain ⟨J', has', h1, h2⟩ := h
 exact ⟨J', has', h1.more hB, h2⟩
theorem Mnt.still (h : Mnt n P B Sp J D has) : Still n P B Sp D has := ⟨J, has, h, SameH.refl _⟩
theorem dry_fates (hw : D.wait = []) (K : List Int) (k : Nat) : D.fates K k = D := by
 induction k with
 | zero => rfl
 | succ k ih => rw [Dev.fates, hw]; simpa using ih
theorem again_dry (h : D.Calm) (hw : D.wait = []) : Dev.again D K = { D with armed := false, left := 0, keep := [] } := by
 unfold Dev.again Dev.crash
 rw [dry_fates hw]
 obtain ⟨a1, a2, a3, a4, a5, a6, a7, a8, a9, a10⟩ := D
 obtain ⟨h1, h2⟩ := h
 simp only at h1 h2 hw
 subst h1; subst hw
 rfl
theorem Mnt.dry (h : Mnt n P B Sp J D has) (hw : D.wait = []) : Mnt n P B Sp J (Dev.again D K) has := by
 have hi := h.told.inv
 rw [again_dry hi.calm hw]
 refine h.dev (hi.dev ⟨hi.dok.n, hi.dok.wait, hi.dok.many, ?_⟩ ⟨hi.calm.down, rfl⟩ rfl fun _ _ => rfl) fun _ _ => rfl
 show (0 : Nat) ≤ _
 omega
theorem still_mid (h : Mid J D has (w0 has) m E) (hS : Sj n P B Sp J D has) (hP : 5 * n + 240 ≤ 2 * P) (hB : B ≤ 1000000) (hn : 1 ≤ n) : Still n P (B + 1) Sp (Dev.again E K) has := by
 rcases mid_crash (keep := K) h hS hP hB (w0_batch hS.jt.inv hn) with ⟨J', h1⟩ | ⟨J', h1⟩
 ·exact ⟨J', _, h1, SameH.refl _⟩
 ·exact ⟨J', _, h1, w0_same has⟩
theorem arHit_ne (h : arHit o) : o ≠ none := fun e => by obtain ⟨K, hK⟩ := h; rw [e] at hK; cases hK
theorem arK_dec (o : Ar) : arK (arDec o) = arK o := by cases o <;> rfl
theorem arDec_none (e : o = none) : arDec o = none := by rw [e]; rfl
structure ArTo (o o' : Ar) : Prop where
 ok : arOk o'
 none : o = none → o' = none
 K : arK o' = arK o
theorem ArTo.refl (h : arOk o) : ArTo o o := ⟨h, id, rfl⟩
theorem ArTo.trans {a b c : Ar} (h : ArTo a b) (k : ArTo b c) : ArTo a c := ⟨k.ok, fun e => k.none (h.none e), k.K.trans h.K⟩
theorem ArTo.dec (h : arOk o) : ArTo o (arDec o) := ⟨h.dec, arDec_none, arK_dec o⟩
theorem read_armed (h : JInv J D has) (ho : arOk o) {id : Int} (h0 : 0 ≤ id) (h1 : id < J.n) :
  (∃ o' r, ArTo o o' ∧ (r = D.cr ∨ r = i64w (D.cr + 1)) ∧ J.read (D.wth o) id = ((0, rdH has id), J, ({ D with cr := r } : Dev).wth o')) ∨
  (∃ J', arHit o ∧ J.read (D.wth o) id = ((2, []), J', D.crash (arK o)) ∧ J'.br = true) := by
 unfold Jr.read
 rw [if_neg (by omega), h.br]
 simp only [Bool.false_eq_true, if_false]
 cases ht : told J.T.ps id with
 | none =>
  refine .inl ⟨o, D.cr, ArTo.refl ho, .inl rfl, ?_⟩
  unfold rdH
  rw [h.non id ht]; rfl
 | some p =>
  by_cases hh : arHit o
  ·refine .inr ⟨_, hh, ld_hit h hh ht, rfl⟩
  ·exact .inl ⟨_, _, ArTo.dec ho, .inr rfl, ld_go h ho hh ht⟩
theorem flush_armed (h : JInv J D has) (ho : arOk o) :
  (¬ arHit o ∧ J.flush (D.wth o) = (0, J, D.flushed.wth (arDec o))) ∨ (arHit o ∧ J.flush (D.wth o) = (2, { J with br := true }, D.crash (arK o))) := by
 unfold Jr.flush
 rw [h.br]
 simp only [Bool.false_eq_true, if_false]
 by_cases hh : arHit o
 ·rw [wth_flush_hit h.calm hh]
  exact .inr ⟨hh, rfl⟩
 ·rw [wth_flush_go h.calm ho hh]
  exact .inl ⟨hh, rfl⟩
theorem flush_armedD (h : JInv J D has) (ho : arOk o) : (¬ arHit o ∧ (D.wth o).flush = (0, D.flushed.wth (arDec o))) ∨ (arHit o ∧ (D.wth o).flush = (2, D.crash (arK o))) := by
 by_cases hh : arHit o
 ·exact .inr ⟨hh, wth_flush_hit h.calm hh⟩
 ·exact .inl ⟨hh, wth_flush_go h.calm ho hh⟩
theorem crash_okS {D : Dev} (h : D.Ok) (K : List Int) : (D.crash K).Ok ∧ (D.crash K).sec.length = D.sec.length := by
 have hk := (fates_keep D K D.wait.length).2.2
 refine ⟨⟨by show (D.fates K D.wait.length).sec.length ≤ 20000; rw [hk]; exact h.n, by simp [Dev.crash], by simp [Dev.crash], ?_⟩, hk⟩
 show (0 : Nat) ≤ _
 omega
end
end Go.Proofs.YtdafdidmbeecfaaGreatDoor
end

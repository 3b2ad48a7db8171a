/- The laws of layer 8: a journal with room, step by step. -/
import Derived.Test.YtlfooilcngjeiaaHc
namespace Go.Proofs.Ytlfooilcngjeiaa
set_option linter.unusedVariables false
set_option linter.unusedSimpArgs false
open Go.RowKit Go.SL
/-- A journal that keeps what it is given, of n blocks and P places, behind at most B batches and reads. -/
structure JW (n P B : Nat) (J : Jr) (D : Dev) (has : Has) : Prop where
  inv : JInv J D has
  bound : JBound J
  jn : J.n = (n : Int)
  jP : J.P = P
  ep : J.ep = 1
  st : J.st = 1
  sq : J.sq ≤ (B : Int)
  cr0 : 0 ≤ D.cr
  cr1 : D.cr ≤ 100 * (B : Int)
  cw0 : 0 ≤ D.cw
  cw1 : D.cw ≤ 100 * (B : Int)
  cf0 : 0 ≤ D.cf
  cf1 : D.cf ≤ (B : Int)
theorem jw_fresh {n P : Nat} (hP : 1 ≤ P) (hP2 : P ≤ 19999) (h0 : 1 ≤ n) (h1 : n ≤ 3840) : JW n P 0 (J0 P n) (Dev.fresh (P + 1)) fun _ => none :=
  ⟨fresh_inv hP hP2 h0 h1, fresh_bound P n, J0_n P n, rfl, rfl, rfl, show (0 : Int) ≤ 0 by decide, show (0 : Int) ≤ 0 by decide, show (0 : Int) ≤ 0 by decide, show (0 : Int) ≤ 0 by decide, show (0 : Int) ≤ 0 by decide, show (0 : Int) ≤ 0 by decide, show (0 : Int) ≤ 0 by decide⟩
theorem jw_more {n P B B' : Nat} {J : Jr} {D : Dev} {has : Has} (h : JW n P B J D has) (hB : B ≤ B') : JW n P B' J D has :=
  ⟨h.inv, h.bound, h.jn, h.jP, h.ep, h.st, by have := h.sq; omega, h.cr0, by have := h.cr1; omega, h.cw0, by have := h.cw1; omega, h.cf0, by have := h.cf1; omega⟩
theorem jw_commit {n P B : Nat} {J : Jr} {D : Dev} {has : Has} (h : JW n P B J D has) (hP : 5 * n + 240 ≤ 2 * P) (hB : B ≤ 1000000) {L : Bl} (hb : Batch (n : Int) L) :
    ∃ J' D', jcommit J D true L = (0, J', D') ∧ JW n P (B + 1) J' D' (updB has L) ∧ D.cr ≤ D'.cr ∧ D'.cr ≤ D.cr + 2 * (L.length : Int) ∧ D.cw ≤ D'.cw ∧ D'.cw ≤ D.cw + 3 * (L.length : Int) ∧ D'.cf = D.cf + 1 := by
  have hb' : Batch J.n L := by rw [h.jn]; exact hb
  have hnf := never_full h.inv h.bound (by rw [h.jn, h.jP]; omega) hb'
  obtain ⟨D', hd⟩ := commit_done h.inv hb' (by have := h.sq; omega) hnf
  have hbd := bound_done h.inv h.bound hb' hnf
  have hml := movB_len J has L h.inv.ok.us0
  have hc := Jr.cleaned_range h.inv.ok.us0 L.length
  have hn1 := hb.n1
  have e1 := h.cr0; have e2 := h.cr1; have e3 := h.cw0; have e4 := h.cw1; have e5 := h.cf0; have e6 := h.cf1; have e7 := h.sq
  have h1 := hd.cr; have h2 := hd.cw; have h3 := hd.cf
  rw [addN_eq _ e1 (by omega)] at h1
  rw [addN_eq _ e3 (by omega)] at h2
  have h3' : D'.cf = D.cf + 1 := by rw [h3]; simp only [i64w, wrap64]; omega
  refine ⟨_, D', hd.run, ⟨hd.inv, hbd, h.jn, h.jP, h.ep, h.st, ?_, by omega, by omega, by omega, by omega, by omega, by omega⟩, by omega, by omega, by omega, by omega, h3'⟩
  show J.sq + 1 ≤ _
  omega
theorem jw_read {n P B : Nat} {J : Jr} {D : Dev} {has : Has} (h : JW n P B J D has) (hB : B ≤ 1000000) {id : Int} (h0 : 0 ≤ id) (h1 : id < (n : Int)) :
    ∃ D', J.read D id = ((0, (has id).getD (zs 480)), J, D') ∧ JW n P (B + 1) J D' has ∧ D'.cr = D.cr + (if (told J.T.ps id).isSome then 1 else 0) ∧ D'.cw = D.cw ∧ D'.cf = D.cf := by
  have hr := h.inv.read h0 (by rw [h.jn]; exact h1)
  have e1 := h.cr0; have e2 := h.cr1
  have hw : i64w (D.cr + 1) = D.cr + 1 := by simp only [i64w, wrap64]; omega
  have hm := jw_more h (Nat.le_succ B)
  cases ht : (told J.T.ps id).isSome with
  | false =>
    rw [ht] at hr
    simp only [Bool.false_eq_true, if_false] at hr ⊢
    exact ⟨D, hr, hm, by omega, rfl, rfl⟩
  | true =>
    rw [ht] at hr
    simp only [if_true] at hr ⊢
    refine ⟨_, hr, ⟨hm.inv.cr _, hm.bound, hm.jn, hm.jP, hm.ep, hm.st, hm.sq, ?_, ?_, hm.cw0, hm.cw1, hm.cf0, hm.cf1⟩, ?_, rfl, rfl⟩
    · show 0 ≤ i64w (D.cr + 1); rw [hw]; omega
    · show i64w (D.cr + 1) ≤ _; rw [hw]; omega
    · show i64w (D.cr + 1) = _; rw [hw]
def CYesQ (S : Hp) (j d n P B : Nat) (v : Value) (L : Wo) (D : Dev) (has : Has) (F : Assn) (w : World) (e : Ending) (w' : World) : Prop :=
  ∃ S' J' D', Ext S S' ∧ e = .returned (.int .i64 0) ∧ Sat w' (jrA j d J' * (devA S' d D' * (pool S' * (wrsA v L * F)))) ∧ Side w w' ∧ JW n P (B + 1) J' D' (updB has L.bl) ∧
    D.cr ≤ D'.cr ∧ D'.cr ≤ D.cr + 2 * (L.length : Int) ∧ D.cw ≤ D'.cw ∧ D'.cw ≤ D.cw + 3 * (L.length : Int) ∧ D'.cf = D.cf + 1
def CNoQ (S : Hp) (j d : Nat) (v : Value) (L : Wo) (J : Jr) (D : Dev) (F : Assn) (w : World) (e : Ending) (w' : World) : Prop :=
  ∃ S', Ext S S' ∧ e = .returned (.int .i64 1) ∧ Sat w' (jrA j d J * (devA S' d D * (pool S' * (wrsA v L * F)))) ∧ Side w w'
def CAnyQ (S : Hp) (j d n P B : Nat) (v : Value) (L : Wo) (F : Assn) (w : World) (e : Ending) (w' : World) : Prop :=
  ∃ S' J' D' has' rc, Ext S S' ∧ e = .returned (.int .i64 rc) ∧ Sat w' (jrA j d J' * (devA S' d D' * (pool S' * (wrsA v L * F)))) ∧ Side w w' ∧ JW n P (B + 1) J' D' has'
theorem bl_len (L : Wo) : (Wo.bl L).length = L.length := by simp [Wo.bl]
section
variable (w : World) (S : Hp) (j d : Nat) (J : Jr) (D : Dev) (F : Assn) (v : Value) (L : Wo) (has : Has) {n P B : Nat}
theorem cyes_any (h : Sat w (jrA j d J * (devA S d D * (pool S * (wrsA v L * F))))) (hW : JW n P B J D has) (hP : 5 * n + 240 ≤ 2 * P) (hB : B ≤ 1000000) (h480 : ∀ x ∈ L, x.2.2.length = 480) (hb : Batch (n : Int) L.bl) :
    Calls Try.prog 21 #[ptV j, v] w (CYesQ S j d n P B v L D has F w) := by
  obtain ⟨J', D', h1, h2, h3⟩ := jw_commit hW hP hB hb
  have hl := hb.n1
  rw [bl_len] at hl h3
  have := commitW_any w S j d J D F v L has h hW.inv h480 (by omega) true ⟨fun _ => may_batch (by rw [hW.jn]; exact hb), fun _ => rfl⟩
  rw [h1] at this
  exact this.mono fun e w' ⟨S', a, b, c, dd⟩ => ⟨S', J', D', a, b, c, dd, h2, h3⟩
theorem cno_any (h : Sat w (jrA j d J * (devA S d D * (pool S * (wrsA v L * F))))) (hW : JW n P B J D has) (h480 : ∀ x ∈ L, x.2.2.length = 480) (hl : L.length ≤ 1000) (hb : ¬ Batch (n : Int) L.bl) :
    Calls Try.prog 21 #[ptV j, v] w (CNoQ S j d v L J D F w) := by
  have := commitW_any w S j d J D F v L has h hW.inv h480 hl false ⟨fun h => (by cases h), fun h => absurd (by rw [← hW.jn]; exact batch_may h) hb⟩
  have en : jcommit J D false L.bl = (1, J, D) := by unfold jcommit; rw [if_pos rfl]
  rw [en] at this
  exact this
theorem cany_any (h : Sat w (jrA j d J * (devA S d D * (pool S * (wrsA v L * F))))) (hW : JW n P B J D has) (hP : 5 * n + 240 ≤ 2 * P) (hB : B ≤ 1000000) (h480 : ∀ x ∈ L, x.2.2.length = 480) (hl : L.length ≤ 1000) :
    Calls Try.prog 21 #[ptV j, v] w (CAnyQ S j d n P B v L F w) := by
  by_cases hb : Batch (n : Int) L.bl
  · exact (cyes_any w S j d J D F v L has h hW hP hB h480 hb).mono fun e w' ⟨S', J', D', a, b, c, dd, h2, _⟩ => ⟨S', J', D', _, 0, a, b, c, dd, h2⟩
  · exact (cno_any w S j d J D F v L has h hW h480 hl hb).mono fun e w' ⟨S', a, b, c, dd⟩ => ⟨S', J, D, has, 1, a, b, c, dd, jw_more hW (Nat.le_succ B)⟩
end
theorem stepW_480 (zs : List Int) (data : Int) (k : Nat) {L : Wo} (h : Wo.bl L = stepW zs data k) : ∀ x ∈ L, x.2.2.length = 480 := by
  intro x hx
  have : (x.2.1, x.2.2) ∈ Wo.bl L := List.mem_map.2 ⟨x, hx, rfl⟩
  rw [h] at this
  obtain ⟨i, _, e⟩ := List.mem_map.1 this
  injection e with _ e
  rw [← e]; exact bj_len _
def JReadQ (S : Hp) (j d n P B : Nat) (J : Jr) (D : Dev) (has : Has) (id : Int) (F : Assn) (w : World) (e : Ending) (w' : World) : Prop :=
  ∃ dv D', e = .returned (.tuple #[dv, .int .i64 0]) ∧ Sat w' (bs 5 dv ((has id).getD (zs 480)) * (jrA j d J * (devA S d D' * (pool S * F)))) ∧ Side w w' ∧ JW n P (B + 1) J D' has ∧ D'.cr = D.cr + (if (told J.T.ps id).isSome then 1 else 0) ∧ D'.cw = D.cw ∧ D'.cf = D.cf
theorem jreadW_any (w : World) (S : Hp) (j d : Nat) (J : Jr) (D : Dev) (F : Assn) (has : Has) {n P B : Nat} (h : Sat w (jrA j d J * (devA S d D * (pool S * F)))) (hW : JW n P B J D has) (hB : B ≤ 1000000) {id : Int} (h0 : 0 ≤ id) (h1 : id < (n : Int)) :
    Calls Try.prog 22 #[ptV j, .int .i64 id] w (JReadQ S j d n P B J D has id F w) := by
  obtain ⟨D', r1, r2, r3, r4, r5⟩ := jw_read hW hB h0 h1
  have := jread_any w S j d J D id F h hW.inv.ok hW.inv.dok
  rw [r1] at this
  exact this.mono fun e w' ⟨dv, a, b, c⟩ => ⟨dv, D', a, b.ansYes, c, r2, r3, r4, r5⟩
def JReadNoQ (S : Hp) (j d : Nat) (J : Jr) (D : Dev) (F : Assn) (w : World) (e : Ending) (w' : World) : Prop :=
  e = .returned (.tuple #[.slice none 0 0, .int .i64 1]) ∧ Sat w' (jrA j d J * (devA S d D * (pool S * F))) ∧ Side w w'
theorem jreadNo_any (w : World) (S : Hp) (j d : Nat) (J : Jr) (D : Dev) (F : Assn) (has : Has) {n P B : Nat} (h : Sat w (jrA j d J * (devA S d D * (pool S * F)))) (hW : JW n P B J D has) {id : Int} (h0 : id < 0 ∨ (n : Int) ≤ id) :
    Calls Try.prog 22 #[ptV j, .int .i64 id] w (JReadNoQ S j d J D F w) := by
  have := jread_any w S j d J D id F h hW.inv.ok hW.inv.dok
  have e : J.read D id = ((1, []), J, D) := by unfold Jr.read; rw [if_pos (by rw [hW.jn]; exact h0)]
  rw [e] at this
  refine this.mono ?_
  rintro e w' ⟨dv, a, b, c⟩
  obtain ⟨rfl, b'⟩ := b.ansNo (show (1 : Int) ≠ 0 by decide)
  exact ⟨a, b', c⟩
theorem room_quiet (w : World) (j d : Nat) (J : Jr) (F : Assn) (h : Sat w (jrA j d J * F)) (hJ : J.Ok) :
    Calls Try.prog 17 #[ptV j] w fun e w' => e = .returned (.int .i64 ((J.P : Int) - J.us - J.fr)) ∧ ∃ m, w' = w.drewN m := by
  obtain ⟨r, t, hx⟩ := h.jrOpen
  have c1 : w.cell? ⟨j, 1, none⟩ = some (ptV r) := hx.cell 1
  have c8 : w.cell? ⟨j, 8, none⟩ = some (.int .i64 J.us) := hx.cell 8
  have c9 : w.cell? ⟨j, 9, none⟩ = some (.int .i64 J.fr) := hx.cell 9
  have hR := hx.front2
  have hlen : ∀ w', Sat w' (ringA r (ringL J.P) * (pt j (.cells (J.cells d r t) 101 (0, 0)) * (tableA t J.T * F))) → Calls Try.prog 44 #[ptV r] w' (IntIs J.P w') := fun w' h => by
    have := ringLen_any w' r (ringL J.P) _ h
    rwa [ringL_length] at this
  obtain ⟨p0, p1, _, _, _, u0, u1, _, _, f0, f1⟩ := hJ
  have hl := hlen w hR
  have hld := hlen w.drew hR
  have hP : (J.P : Int) ≤ 20000 := by omega
  have hP0 : 0 ≤ (J.P : Int) := by omega
  have hu2 : J.us ≤ 20000 := by omega
  clear h hx hR hlen
  go_enter Try.func17, Try.ntmps17
  have s1 : IntKind.i64.wrap ((J.P : Int) - J.us) = (J.P : Int) - J.us := by rw [IntKind.wrap_i64]; omega
  have s2 : IntKind.i64.wrap ((J.P : Int) - J.us - J.fr) = (J.P : Int) - J.us - J.fr := by rw [IntKind.wrap_i64]; omega
  go_wp2_with fail
  go_region_held3 (fun w' => w'.cell? ⟨j, 1, none⟩ = some (ptV r) ∧ w'.cell? ⟨j, 8, none⟩ = some (.int .i64 J.us) ∧ w'.cell? ⟨j, 9, none⟩ = some (.int .i64 J.fr)) (first | exact ⟨c1, c8, c9⟩) (first
    | (go_at_call 44; (with_reducible refine hld.mono ?_); rintro e w1 ⟨rfl, rfl⟩))
  go_wp2
  go_ret
  exact ⟨rfl, 1, rfl⟩
end Go.Proofs.Ytlfooilcngjeiaa

/- batch: a book's put. -/
import Derived.Test.YtcgpegdnicnciaaW2
import Derived.Test.YtcgpegdnicnciaaBt
namespace Go.Proofs.Ytcgpegdnicnciaa
set_option linter.unusedVariables false
set_option linter.unusedSimpArgs false
open Go.RowKit Go.SL
def PutQ (S : Hp) (b o : Nat) (cs : Array Value) (C : CB) (id : Int) (l : List UInt8) (F : Assn) (w : World) (e : Ending) (w' : World) : Prop :=
  ∃ m, e = .returned (.tuple #[]) ∧ Sat w' (pt b (.cells ((cs.setIfInBounds o (.map (some m))).setIfInBounds (o + 1) (.bool false)) 54 (0, 0)) * (bookA 5 S (.map (some m)) false (SL.upd C id l) * (pool S * F))) ∧ Side w w'
theorem set_same {cs : Array Value} {o : Nat} {v : Value} (h : cs[o]? = some v) : cs.setIfInBounds o v = cs := by
  apply Array.ext_getElem?
  intro i
  rw [Array.getElem?_setIfInBounds]
  split
  · rename_i e; subst e; split
    · exact h.symm
    · rename_i h2; exact absurd (Array.getElem?_eq_some_iff.1 h).1 h2
  · rfl
theorem perm_lift {α β : Type} (f : α → β) {D E : List β} (h : D.Perm E) : ∀ {Z : List α}, Z.map f = E → ∃ Z' : List α, Z'.Perm Z ∧ Z'.map f = D := by
  induction h with
  | nil => intro Z e; exact ⟨Z, List.Perm.refl _, e⟩
  | cons x h ih =>
    intro Z e
    cases Z with
    | nil => cases e
    | cons z Z =>
      simp only [List.map_cons, List.cons.injEq] at e
      obtain ⟨Z', h1, h2⟩ := ih e.2
      exact ⟨z :: Z', h1.cons z, by simp [h2, e.1]⟩
  | swap x y l =>
    intro Z e
    match Z, e with
    | a :: c :: Z, e =>
      simp only [List.map_cons, List.cons.injEq] at e
      exact ⟨c :: a :: Z, List.Perm.swap _ _ _, by simp [e.1, e.2.1, e.2.2]⟩
  | trans h1 h2 ih1 ih2 =>
    intro Z e
    obtain ⟨Z1, p1, e1⟩ := ih2 e
    obtain ⟨Z2, p2, e2⟩ := ih1 e1
    exact ⟨Z2, p2.trans p1, e2⟩
theorem book_upd {Z : List (Int × Value × List UInt8)} {C : CB} {S : Hp} {T : TypeId} (h1 : (Z.map fun z => (z.1, z.2.2)).Perm C) (h2 : (Z.map Prod.fst).Nodup) (h3 : ∀ z ∈ Z, Val T S z.2.1 z.2.2) (id : Int) {dv : Value} {l : List UInt8} (hv : Val T S dv l) :
    ((SL.upd Z id (dv, l)).map fun z => (z.1, z.2.2)).Perm (SL.upd C id l) ∧ ((SL.upd Z id (dv, l)).map Prod.fst).Nodup ∧ (∀ z ∈ SL.upd Z id (dv, l), Val T S z.2.1 z.2.2) ∧
    SL.upd (Z.map fun z => (z.1, z.2.1)) id dv = (SL.upd Z id (dv, l)).map fun z => (z.1, z.2.1) := by
  refine ⟨?_, nodup_upd h2 _ _, ?_, ?_⟩
  · rw [← upd_map (fun z : Value × List UInt8 => z.2) Z id (dv, l)]
    exact perm_upd h1 (by rw [List.map_map]; exact h2) id l
  · intro z hz
    rcases mem_upd hz with rfl | hz
    · exact hv
    · exact h3 z hz
  · exact upd_map (fun z : Value × List UInt8 => z.1) Z id (dv, l)
set_option maxRecDepth 100000 in
set_option maxHeartbeats 1000000 in
theorem put_any (w : World) (S : Hp) (b o : Nat) (cs : Array Value) (bv : Value) (sh : Bool) (C : CB) (id : Int) (dv : Value) (l : List UInt8) (F : Assn)
    (h : Sat w (pt b (.cells cs 54 (0, 0)) * (bookA 5 S bv sh C * (pool S * F)))) (h0 : cs[o]? = some bv) (h1 : cs[o + 1]? = some (.bool sh)) (hv : Val 5 S dv l) :
    Calls Try.prog 21 #[.pointer (some ⟨b, o, none⟩), .int .i64 id, dv] w (PutQ S b o cs C id l F w) := by
  have hc0 : w.cell? ⟨b, o, none⟩ = some bv := (h.cell o).trans h0
  have hc1 : w.cell? ⟨b, o + 1, none⟩ = some (.bool sh) := (h.cell (o + 1)).trans h1
  have hf0 : ∀ o, w.frozen? ⟨b, o, none⟩ = false := h.frozen
  have hneq : o ≠ o + 1 := by omega
  obtain ⟨Z, z1, z2, z3, hrd, hcase⟩ := (h.to (by ac_rfl : _ = bookA 5 S bv sh C * (pool S * (pt b (.cells cs 54 (0, 0)) * F)))).bookCases
  rcases hcase with ⟨rfl, hs⟩ | ⟨rfl, hs⟩ | ⟨m, rfl, rfl, hs⟩
  · skip
    have hnil : ∀ w, (binOp .eql 49 (.map none) (.map none)).run Try.prog w = .ok (.bool true) w := fun w => run_eql_map_nil (P := Try.prog) w 49 3 31 _ Try.underlying49
    have hlt : b < w.heap.size := h.lt
    have H := hid h0; have H1 := hid h1; clear h0 h1
    have hne : (o == o + 1) = false := by simp
    go_enter Try.func21, Try.ntmps21
    go_wp2_with fail
    refine (copied_any w _ _ hrd).mono ?_
    rintro e w1 ⟨c, D, rfl, hperm, hsat, hside⟩
    have Hp := hid hperm; clear hperm
    have hS1 := hsat.under h
    have g0 : w1.cell? ⟨b, o, none⟩ = some (.map none) := hsat.cellOld hc0
    have g1 : w1.cell? ⟨b, o + 1, none⟩ = some (.bool sh) := hsat.cellOld hc1
    have gf : ∀ o, w1.frozen? ⟨b, o, none⟩ = false := fun o => (hsat.frozenOld hlt).trans (hf0 o)
    clear hc0 hc1 hf0
    have hS2 := ((hS1.to (star_left_comm _ _ _)).setCell o (.map (some c))).setCell (o + 1) (.bool false)
    have hS3 := hS2.to (star_left_comm _ _ _)
    obtain ⟨w2, hrun, hsat2, hside2, _⟩ := Sat.mapUpdate (P := Try.prog) Try.underlying49 Try.underlying3 hS3 id dv
    clear hS1 hS2 hS3 h hsat hs
    go_wp2
    go_end0
    obtain ⟨Z', p1, p2⟩ := perm_lift _ Hp.out rfl
    subst p2
    obtain ⟨u1, u2, u3, u4⟩ := book_upd ((p1.map _).trans z1) ((p1.map Prod.fst).nodup_iff.2 z2) (fun z hz => z3 z (p1.mem_iff.1 hz)) id hv
    refine ⟨c, rfl, ?_, ((hside.setCell _ _).setCell _ _).trans hside2⟩
    rw [u4] at hsat2
    have := Sat.bookOf hsat2 u1 u2 u3
    exact (this.to (by ac_rfl : _ = bookA 5 S (.map none) sh C * (pt b (.cells ((cs.setIfInBounds o (.map (some c))).setIfInBounds (o + 1) (.bool false)) 54 (0, 0)) * (bookA 5 S (.map (some c)) false (SL.upd C id l) * (pool S * F))))).right
  · obtain ⟨mo, rfl⟩ : ∃ mo, bv = .map mo := by
      rcases hrd with ⟨rfl, _⟩ | ⟨m, _, rfl, _⟩
      · exact ⟨_, rfl⟩
      · exact ⟨_, rfl⟩
    rcases mo with _ | mo
    · skip
      have hnil : ∀ w, (binOp .eql 49 (.map none) (.map none)).run Try.prog w = .ok (.bool true) w := fun w => run_eql_map_nil (P := Try.prog) w 49 3 31 _ Try.underlying49
      have hlt : b < w.heap.size := h.lt
      have H := hid h0; have H1 := hid h1; clear h0 h1
      have hne : (o == o + 1) = false := by simp
      go_enter Try.func21, Try.ntmps21
      go_wp2_with fail
      refine (copied_any w _ _ hrd).mono ?_
      rintro e w1 ⟨c, D, rfl, hperm, hsat, hside⟩
      have Hp := hid hperm; clear hperm
      have hS1 := hsat.under h
      have g0 : w1.cell? ⟨b, o, none⟩ = some (.map none) := hsat.cellOld hc0
      have g1 : w1.cell? ⟨b, o + 1, none⟩ = some (.bool true) := hsat.cellOld hc1
      have gf : ∀ o, w1.frozen? ⟨b, o, none⟩ = false := fun o => (hsat.frozenOld hlt).trans (hf0 o)
      clear hc0 hc1 hf0
      have hS2 := ((hS1.to (star_left_comm _ _ _)).setCell o (.map (some c))).setCell (o + 1) (.bool false)
      have hS3 := hS2.to (star_left_comm _ _ _)
      obtain ⟨w2, hrun, hsat2, hside2, _⟩ := Sat.mapUpdate (P := Try.prog) Try.underlying49 Try.underlying3 hS3 id dv
      clear hS1 hS2 hS3 h hsat hs
      go_wp2
      go_end0
      obtain ⟨Z', p1, p2⟩ := perm_lift _ Hp.out rfl
      subst p2
      obtain ⟨u1, u2, u3, u4⟩ := book_upd ((p1.map _).trans z1) ((p1.map Prod.fst).nodup_iff.2 z2) (fun z hz => z3 z (p1.mem_iff.1 hz)) id hv
      refine ⟨c, rfl, ?_, ((hside.setCell _ _).setCell _ _).trans hside2⟩
      rw [u4] at hsat2
      have := Sat.bookOf hsat2 u1 u2 u3
      exact (this.to (by ac_rfl : _ = bookA 5 S (.map none) true C * (pt b (.cells ((cs.setIfInBounds o (.map (some c))).setIfInBounds (o + 1) (.bool false)) 54 (0, 0)) * (bookA 5 S (.map (some c)) false (SL.upd C id l) * (pool S * F))))).right
    · skip
      have hnil : ∀ w, (binOp .eql 49 (.map (some mo)) (.map none)).run Try.prog w = .ok (.bool false) w := fun w => run_eql_map_nil (P := Try.prog) w 49 3 31 _ Try.underlying49
      have hlt : b < w.heap.size := h.lt
      have H := hid h0; have H1 := hid h1; clear h0 h1
      have hne : (o == o + 1) = false := by simp
      go_enter Try.func21, Try.ntmps21
      go_wp2_with fail
      refine (copied_any w _ _ hrd).mono ?_
      rintro e w1 ⟨c, D, rfl, hperm, hsat, hside⟩
      have Hp := hid hperm; clear hperm
      have hS1 := hsat.under h
      have g0 : w1.cell? ⟨b, o, none⟩ = some (.map (some mo)) := hsat.cellOld hc0
      have g1 : w1.cell? ⟨b, o + 1, none⟩ = some (.bool true) := hsat.cellOld hc1
      have gf : ∀ o, w1.frozen? ⟨b, o, none⟩ = false := fun o => (hsat.frozenOld hlt).trans (hf0 o)
      clear hc0 hc1 hf0
      have hS2 := ((hS1.to (star_left_comm _ _ _)).setCell o (.map (some c))).setCell (o + 1) (.bool false)
      have hS3 := hS2.to (star_left_comm _ _ _)
      obtain ⟨w2, hrun, hsat2, hside2, _⟩ := Sat.mapUpdate (P := Try.prog) Try.underlying49 Try.underlying3 hS3 id dv
      clear hS1 hS2 hS3 h hsat hs
      go_wp2
      go_end0
      obtain ⟨Z', p1, p2⟩ := perm_lift _ Hp.out rfl
      subst p2
      obtain ⟨u1, u2, u3, u4⟩ := book_upd ((p1.map _).trans z1) ((p1.map Prod.fst).nodup_iff.2 z2) (fun z hz => z3 z (p1.mem_iff.1 hz)) id hv
      refine ⟨c, rfl, ?_, ((hside.setCell _ _).setCell _ _).trans hside2⟩
      rw [u4] at hsat2
      have := Sat.bookOf hsat2 u1 u2 u3
      exact (this.to (by ac_rfl : _ = bookA 5 S (.map (some mo)) true C * (pt b (.cells ((cs.setIfInBounds o (.map (some c))).setIfInBounds (o + 1) (.bool false)) 54 (0, 0)) * (bookA 5 S (.map (some c)) false (SL.upd C id l) * (pool S * F))))).right
  · obtain ⟨u1, u2, u3, u4⟩ := book_upd z1 z2 z3 id hv
    obtain ⟨w', hrun, hsat', hside, _⟩ := Sat.mapUpdate (P := Try.prog) Try.underlying49 Try.underlying3 hs id dv
    have hnil := run_eql_map_nil (P := Try.prog) w 49 3 31 (some m) Try.underlying49
    have H := hid h0; have H1 := hid h1; have U := hid u4; clear h0 h1 u4 hneq hs
    go_enter Try.func21, Try.ntmps21
    go_wp2
    go_end0
    refine ⟨m, rfl, ?_, hside⟩
    rw [set_same H.out, set_same H1.out]
    rw [U.out] at hsat'
    exact (Sat.bookOf hsat' u1 u2 u3).to (by ac_rfl)
end Go.Proofs.Ytcgpegdnicnciaa

/- bytes.Clone; batch: copied, share, put. -/
import Derived.Test.YtcgpegdnicnciaaW1
import Derived.Test.YtcgpegdnicnciaaMp
import Derived.Deep.LoopGhost
namespace Go.Proofs.Ytcgpegdnicnciaa
set_option linter.unusedVariables false
set_option linter.unusedSimpArgs false
open Go.RowKit Go.SL
def CloneQ (w : World) (l : List UInt8) (e : Ending) (w' : World) : Prop := ∃ v, e = .returned v ∧ Sat w' (bs 5 v l * whole w) ∧ Side w w'
set_option maxHeartbeats 400000 in
theorem clone_any (w : World) (v : Value) (l : List UInt8) (hr : Rd w v l) (hl : l.length ≤ 1000000000) :
    Calls Try.prog 22 #[v] w (CloneQ w l) := by
  obtain ⟨i0, hi, hz, hs0, hb0⟩ := info_parts info_u8
  obtain ⟨hlen, hr⟩ := hr
  rcases hr with ⟨rfl, h0⟩ | ⟨a, c, rfl, ha⟩
  · have : l = [] := List.eq_nil_of_length_eq_zero h0
    subst this
    have hq := fun w => Lib.run_eql_slice_nil (P := Try.prog) w 31 5 none 0 0 0 0 Try.underlying31
    clear hl
    go_enter Try.func22, Try.ntmps22
    go_wp2
    go_ret
    exact ⟨_, rfl, (Sat.whole w).slNil _ _, Side.refl w⟩
  · have hR : Rds (w.alloc (.cells #[] 5 (0, 0))) 1 (.slice (some a) l.length c) l.length (l.map u8) :=
      Rds.alloc ⟨hlen, .inr ⟨a, c, rfl, ha⟩⟩ _
    have hA := (Sat.whole w).alloc (.cells #[] 5 (0, 0))
    have hA' := Sat.slOf (n := 0) (cap := 0) (sz := 1) hA (Nat.le_refl _) (by decide) rfl
    obtain ⟨v', w', hrun, hsat', hside'⟩ := Sat.append (P := Try.prog) (ty := 31) Try.underlying31 hi hz hs0 hb0 rfl hA' hR (by simp [u8, Value.oneCell']) (by unfold maxLen; omega) (by omega)
    have Hrun := hid hrun; clear hrun hA hA' hR hi hz hs0 hb0 hl
    have hq := fun w => Lib.run_eql_slice_nil (P := Try.prog) w 31 5 (some a) l.length c 0 0 Try.underlying31
    go_enter Try.func22, Try.ntmps22
    go_wp2_with (at_builtin; refine wpList_append_run Hrun.out _ _ rfl rfl rfl rfl rfl ?_)
    go_ret
    refine ⟨v', rfl, hsat'.to ?_, ((Side.refl w).alloc _).trans hside'⟩
    simp [bs]
def CopiedQ (w : World) (M : KV) (e : Ending) (w' : World) : Prop := ∃ c D, e = .returned (.map (some c)) ∧ D.Perm M ∧ Sat w' (mp c D * whole w) ∧ Side w w'
def CopiedRel (w : World) (b : Nat) (o : Obj) (M : KV) (k : Nat) (wr : World) : Prop :=
  ∃ D it, M.length ≤ D.length + k ∧ Iter b o M D it ∧ Sat wr (pt (w.heap.size + 1) it * (mp w.heap.size D * whole w)) ∧ Side w wr
set_option maxRecDepth 100000 in
set_option maxHeartbeats 1000000 in
theorem copied_any (w : World) (v : Value) (M : KV) (hr : RdM w v M) :
    Calls Try.prog 26 #[v] w (CopiedQ w M) := by
  have hmm := @run_makeMap_some Try.prog _ _ _ Try.underlying49
  rcases hr with ⟨rfl, rfl⟩ | ⟨b, o, rfl, hb, hm⟩
  · have hrg : ∀ w, (Instr.range 49 (.map none)).run Try.prog w = .ok (.pointer (some ⟨w.heap.size, 0, none⟩)) (w.alloc (.mapIter none 0 #[] 0)) := by
      intro w; simp [Instr.range, run_underlying Try.underlying49]
    have hnx : ∀ ty, (Instr.next (.pointer (some ⟨w.heap.size + 1, 0, none⟩)) false ty).run Try.prog ((w.alloc (.map #[] 0)).alloc (.mapIter none 0 #[] 0)) = .ok (.tuple #[.bool false]) ((w.alloc (.map #[] 0)).alloc (.mapIter none 0 #[] 0)) := by
      intro ty
      have := (Sat.whole (w.alloc (.map #[] 0))).alloc (.mapIter none 0 #[] 0)
      have h := this.heap
      rw [World.size_alloc] at h
      simp only [Instr.next, getObj, Sem.run_bind, Sem.run, h, Result.andThen]
      rfl
    go_enter Try.func26, Try.ntmps26
    go_wp2
    refine wp_loop_rounds 1 ?_; rw [rounds_succ]
    go_wp2
    go_ret
    exact ⟨_, [], rfl, List.Perm.refl _, (((Sat.whole w).alloc (.map #[] 0)).mpOf isMap_empty |>.alloc (.mapIter none 0 #[] 0)).right, ((Side.refl w).alloc _).alloc _⟩
  · have hA := ((Sat.whole w).alloc (.map #[] 0)).mpOf isMap_empty
    have hb1 : (w.alloc (.map #[] 0)).heap[b]? = some o := hA.heapOld hb
    obtain ⟨it, hrg, hit⟩ := run_range_int (P := Try.prog) Try.underlying49 hb1 hm
    rw [World.size_alloc] at hrg
    have hln := run_lenM (P := Try.prog) hb hm Try.underlying49 3
    have H1 := hid hb1; clear hb1
    go_enter Try.func26, Try.ntmps26
    go_wp2
    go_loopg [] M.length (fun k wr => CopiedRel w b o M k wr)
    case atStart =>
      have h2 := hA.alloc it
      rw [World.size_alloc] at h2
      exact ⟨[], it, by simp, hit, h2, ((Side.refl w).alloc _).alloc _⟩
    case round =>
      obtain ⟨D, it', hlen, hit', hsat, hside⟩ := hrel
      clear hrg hmm hln
      have hbr : wr.heap[b]? = some o := (hsat.to (star_assoc _ _ _).symm).heapOld hb
      rcases hsat.next (P := Try.prog) hbr hit' with ⟨hperm, hnx⟩ | ⟨p, it2, w2, hp, hpD, hnx, hsat2, hit2, hside2, hb2, hen⟩
      · have Hp := hid hperm; clear hperm
        go_wp2
        go_ret
        exact ⟨_, D, rfl, Hp.out, hsat.right, hside⟩
      · obtain ⟨w3, hup, hsat3, hside3, _⟩ := Sat.mapUpdate (P := Try.prog) Try.underlying49 Try.underlying3 (hsat2.to (star_left_comm _ _ _)) p.1 p.2
        clear hbr
        go_wp2
        have hle := iter_le hit2
        rw [List.length_append, List.length_singleton] at hle
        go_roundg (gk - 1)
        case measure => omega
        case rel =>
          refine ⟨D ++ [p], it2, by simp; omega, hit2, ?_, (hside.trans hside2).trans hside3⟩
          rw [upd_new hpD] at hsat3
          exact hsat3.to (star_left_comm _ _ _)
end Go.Proofs.Ytcgpegdnicnciaa

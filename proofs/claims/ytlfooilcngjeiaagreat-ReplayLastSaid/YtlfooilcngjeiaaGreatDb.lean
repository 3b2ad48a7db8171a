/- device: done, crash, begin. -/
import Derived.Test.YtlfooilcngjeiaaGreatDv
namespace Go.Proofs.YtlfooilcngjeiaaGreat
set_option linter.unusedVariables false
set_option linter.unusedSimpArgs false
open Go.RowKit Go.SL
theorem val_shape {T : TypeId} {S : Hp} {v : Value} {l : List UInt8} (h : Val T S v l) : ∃ a c, v = .slice a l.length c := by
  rcases h.2 with ⟨rfl, rfl⟩ | ⟨g, cap, cur, rfl, _⟩
  · exact ⟨_, _, rfl⟩
  · exact ⟨_, _, rfl⟩
def DoneQ (x : Dx) (S : Hp) (d : Nat) (D : Dev) (p : Int × List UInt8) (dv : Value) (F : Assn) (w : World) (e : Ending) (w' : World) : Prop :=
  e = .returned (.tuple #[]) ∧ Sat w' (devX { x with Y := x.Y.set p.1.toNat (dv, p.2) } S d (D.done p) * F) ∧ Side w w'
set_option maxRecDepth 100000 in
set_option maxHeartbeats 2000000 in
theorem done_any (w : World) (S : Hp) (d : Nat) (D : Dev) (x : Dx) (p : Int × List UInt8) (dv : Value) (F : Assn) (h : Sat w (devX x S d D * F)) (hv : Val 5 S dv p.2) (hh : D.has p.1) :
    Calls Tryz.prog 39 #[.pointer (some ⟨d, 0, none⟩), .agg #[.int .i64 p.1, dv]] w (DoneQ x S d D p dv F w) := by
  obtain ⟨q, l⟩ := p
  obtain ⟨a, rfl⟩ := Int.eq_ofNat_of_zero_le hh.1
  have hlt : (a : Int) < (x.Y.length : Int) := by rw [h.devSecs]; exact hh.2
  have hlt' : a < x.Y.length := by omega
  obtain ⟨hf, hs⟩ := h.devOpen
  obtain ⟨da, dc, rfl⟩ := val_shape hv
  obtain ⟨va, ha⟩ : ∃ va, (x.Y.map Prod.fst)[a]? = some va := ⟨_, List.getElem?_eq_getElem (by simpa using hlt')⟩
  have hA := hs.alloc (.cells #[.int .i64 a, .slice da l.length dc] 96 (0, 0))
  have hside := (Side.refl w).alloc (.cells #[.int .i64 a, .slice da l.length dc] 96 (0, 0))
  go_enter Tryz.func39, Tryz.ntmps39
  go_wp2
  generalize hw1 : w.alloc (.cells #[.int .i64 a, .slice da l.length dc] 96 (0, 0)) = w1 at hA hside ⊢
  generalize w.heap.size = bx at hA ⊢
  have k0 : w1.cell? ⟨d, 0, none⟩ = some (.slice (some ⟨x.sg, 0, none⟩) x.Y.length x.Y.length) := hA.front2.cell 0
  have kb0 : w1.cell? ⟨bx, 0, none⟩ = some (.int .i64 a) := hA.cell 0
  have kb1 : w1.cell? ⟨bx, 1, none⟩ = some (.slice da l.length dc) := hA.cell 1
  have ks : w1.cell? ⟨x.sg, a, none⟩ = some va := (hA.front3.cell a).trans (by simpa using ha)
  have kf : w1.frozen? ⟨x.sg, a, none⟩ = false := hA.front3.frozen a
  have H2 := (hA.front3.setCell a (.slice da l.length dc)).back3
  have s0 : (w1.setCell ⟨x.sg, a, none⟩ (.slice da l.length dc)).cell? ⟨d, 0, none⟩ = some (.slice (some ⟨x.sg, 0, none⟩) x.Y.length x.Y.length) := H2.front2.cell 0
  have sb0 : (w1.setCell ⟨x.sg, a, none⟩ (.slice da l.length dc)).cell? ⟨bx, 0, none⟩ = some (.int .i64 a) := H2.cell 0
  have sb1 : (w1.setCell ⟨x.sg, a, none⟩ (.slice da l.length dc)).cell? ⟨bx, 1, none⟩ = some (.slice da l.length dc) := H2.cell 1
  have s2 : (w1.setCell ⟨x.sg, a, none⟩ (.slice da l.length dc)).cell? ⟨d, 2, none⟩ = some (.map (some x.tm)) := H2.front2.cell 2
  clear ha hlt'
  go_region_held3 (fun w' => w'.cell? ⟨d, 0, none⟩ = some (.slice (some ⟨x.sg, 0, none⟩) x.Y.length x.Y.length) ∧ w'.cell? ⟨bx, 0, none⟩ = some (.int .i64 a) ∧ w'.cell? ⟨bx, 1, none⟩ = some (.slice da l.length dc)) (first | go_keep | exact ⟨k0, kb0, kb1⟩ | exact ⟨s0, sb0, sb1⟩) (fail)
  have hside2 := (hside.setCell ⟨x.sg, a, none⟩ (.slice da l.length dc)).drew
  generalize hw2 : (w1.setCell ⟨x.sg, a, none⟩ (.slice da l.length dc)) = w2 at H2 hside2 s0 sb0 sb1 s2 ⊢
  obtain ⟨w3, hrun, H3, hside3, _⟩ := Sat.delete (P := Tryz.prog) Tryz.underlying61 Tryz.underlying3 0 3 (w := w2.drew.drew) (Sat.front5 H2) (a : Int)
  have H4 := H3.back5
  have t0 : w3.cell? ⟨bx, 0, none⟩ = some (.int .i64 a) := H4.cell 0
  have t2 : w3.cell? ⟨d, 2, none⟩ = some (.map (some x.tm)) := H4.front2.cell 2
  go_wp2
  go_region_held3 (fun w' => w'.cell? ⟨bx, 0, none⟩ = some (.int .i64 a) ∧ w'.cell? ⟨d, 2, none⟩ = some (.map (some x.tm))) (first | go_keep | exact ⟨sb0, s2⟩ | exact ⟨t0, t2⟩) (fail)
  go_wp2
  go_end0
  refine ⟨rfl, Sat.devShut ⟨?_, ?_, hf.wait, hf.wvals⟩ (H4.right.to ?_), hside2.drew.trans hside3⟩
  · show (x.Y.set (a : Int).toNat (.slice da l.length dc, l)).map Prod.snd = D.sec.set (a : Int).toNat l
    rw [List.map_set, hf.sec]
  · intro y hy
    rcases List.mem_or_eq_of_mem_set hy with hy | rfl
    · exact hf.vals y hy
    · exact hv
  · simp only [tornKV_del, Dx.cells, Dev.done, List.length_set, Int.toNat_natCast, List.map_set, List.setIfInBounds_toArray]
/-- Where the fates of a crash are read. -/
def KeepR (x : Dx) (S : Hp) (d : Nat) (D : Dev) (F : Assn) (kv : Value) (keep : List Int) : Prop :=
  ∃ a c, kv = .slice a keep.length c ∧ keep.length ≤ 9223372036854775807 ∧ ∀ i, i < keep.length → ∃ b off, a = some ⟨b, off, none⟩ ∧
    ∀ w' Y D', D'.keep = D.keep → Sat w' (devX { x with Y := Y } S d D' * F) → w'.cell? ⟨b, off + i, none⟩ = some (.int .i64 (keep.getD i 0))
def CrashQ (x : Dx) (S : Hp) (d : Nat) (D : Dev) (keep : List Int) (F : Assn) (w : World) (e : Ending) (w' : World) : Prop :=
  e = .returned (.tuple #[]) ∧ Sat w' (devA S d (D.crash keep) * F) ∧ Side w w'
def CrashRel (x : Dx) (S : Hp) (d : Nat) (D : Dev) (keep : List Int) (F : Assn) (w : World) (n : Nat) (u : Value) (wr : World) : Prop :=
  ∃ (k : Nat) (Y : List (Value × List UInt8)), k ≤ n ∧ u = .int .i64 k ∧ Sat wr (devX { x with Y := Y } S d (D.fates keep k) * F) ∧ Side w wr
theorem fates_keep (D : Dev) (keep : List Int) : ∀ k, (D.fates keep k).keep = D.keep ∧ (D.fates keep k).wait = D.wait ∧ (D.fates keep k).sec.length = D.sec.length
  | 0 => ⟨rfl, rfl, rfl⟩
  | k + 1 => by
    obtain ⟨h1, h2, h3⟩ := fates_keep D keep k
    unfold Dev.fates
    split
    · unfold Dev.fate
      split
      · exact ⟨h1, h2, by simp [Dev.done, h3]⟩
      · split
        · exact ⟨h1, h2, h3⟩
        · exact ⟨h1, h2, h3⟩
    · exact ⟨h1, h2, h3⟩
set_option maxRecDepth 100000 in
set_option maxHeartbeats 4000000 in
theorem crash_any (w : World) (S : Hp) (d : Nat) (D : Dev) (x : Dx) (keep : List Int) (kv : Value) (F : Assn) (h : Sat w (devX x S d D * F)) (hD : D.Ok) (hk : KeepR x S d D F kv keep) :
    Calls Tryz.prog 14 #[.pointer (some ⟨d, 0, none⟩), kv] w (CrashQ x S d D keep F w) := by
  obtain ⟨ka, kc, rfl, hkl, hcell⟩ := hk
  obtain ⟨wa, wc, hwv⟩ := h.devW
  have hn : (D.wait.length : Int) ≤ 1000000 := by have := hD.many; omega
  have k1 : w.cell? ⟨d, 1, none⟩ = some (.slice wa D.wait.length wc) := (h.devCell 1).trans (by simp only [Dx.cells, hwv]; rfl)
  have Hwv := SL.hid hwv; have Hcell := SL.hid hcell; clear hwv hcell
  go_enter Tryz.func14, Tryz.ntmps14
  go_wp2
  go_loopw [14] (fun u wr => CrashRel x S d D keep F w D.wait.length u wr) (fun u _ => D.wait.length - (intOf u).toNat)
  case atStart => exact ⟨0, x.Y, Nat.zero_le _, rfl, h, Side.refl w⟩
  case round =>
    obtain ⟨k, Y, hkn, rfl, hsat, hside⟩ := hrel
    clear k1
    obtain ⟨e1, e2, e3⟩ := fates_keep D keep k
    by_cases hlt : k < D.wait.length
    · have hlt' : (k : Int) < (D.wait.length : Int) := by omega
      have hzn : x.Z.length = D.wait.length := hsat.devWaits.trans (by rw [e2])
      have hzl : k < x.Z.length := by omega
      obtain ⟨g, hwa⟩ : ∃ g, wa = some ⟨g, 0, none⟩ := by
        have hpos : 0 < x.Z.length := by omega
        have := sl_addr hsat.devOpen.2.front3 hpos
        obtain ⟨g, c, hh⟩ := this
        rw [Hwv.out] at hh
        exact ⟨_, (Value.slice.inj hh).1⟩
      subst hwa
      have hcz : wr.cell? ⟨g, k * 2, none⟩ = some (.int .i64 x.Z[k].1) ∧ wr.cell? ⟨g, k * 2 + 1, none⟩ = some x.Z[k].2.1 := by
        have := hsat.devOpen.2.front3
        simp only [Hwv.out] at this
        exact this.writeCells hzl
      obtain ⟨hc0, hc1⟩ := hcz
      have hwk : D.wait[k]? = some (x.Z[k].1, x.Z[k].2.2) := by
        rw [← e2, ← hsat.devOpen.1.wait]
        simp [hzl]
      have hval : Val 5 S x.Z[k].2.1 x.Z[k].2.2 := hsat.devOpen.1.wvals _ (List.getElem_mem hzl)
      obtain ⟨da, dc, hdv⟩ := val_shape hval
      rw [hdv] at hc1 hval
      have hhas : (D.fates keep k).has x.Z[k].1 := by
        have := hD.wait _ (List.mem_of_getElem? hwk)
        unfold Dev.has at this ⊢
        rw [e3]; exact this
      generalize x.Z[k].1 = at' at hc0 hwk hhas
      generalize x.Z[k].2.2 = dl at hc1 hwk hval
      have Hwk := SL.hid hwk
      have hwg : ∀ (cs : Array Value), (wr.alloc (.cells cs 96 (0, 0))).cell? ⟨wr.heap.size, 0, none⟩ = cs[0]? := fun cs => (hsat.alloc (.cells cs 96 (0, 0))).cell 0
      clear hwk hdv e1 e2 e3 hwg
      have hgl : g < wr.heap.size := World.block_lt_of_cell? wr _ hc0
      have hA := hsat.alloc (.cells #[.int .i64 at', .slice da dl.length dc] 96 (0, 0))
      have hsA := hside.alloc (.cells #[.int .i64 at', .slice da dl.length dc] 96 (0, 0))
      by_cases hkk : k < keep.length
      · have hkk' : (k : Int) < (keep.length : Int) := by omega
        obtain ⟨kb, ko, rfl, hkf⟩ := Hcell.out k hkk
        have hkc := hkf wr Y _ (fates_keep D keep k).1 hsat
        have hkb : kb < wr.heap.size := World.block_lt_of_cell? wr _ hkc
        clear hkf
        generalize hf : keep.getD k 0 = f at hkc
        have Hf := SL.hid hf; clear hf
        by_cases hf1 : f = 1
        · subst hf1
          go_wp2_with (go_at_call 39; refine (done_any _ S d _ _ (at', dl) _ _ hA.right hval hhas).mono ?_; rintro e w2 ⟨rfl, h2, d2⟩)
          go_roundw
          case rel =>
            refine ⟨k + 1, Y.set at'.toNat (.slice da dl.length dc, dl), by omega, by go_num, ?_, hsA.trans d2⟩
            have e : D.fates keep (k + 1) = (D.fates keep k).done (at', dl) := by
              rw [Dev.fates, Hwk.out]; simp only [Dev.fate, Hf.out, if_true]
            rw [e]; exact h2
          case measure => simp [intOf]; omega
        · by_cases hf2 : f = 2
          · subst hf2
            have hfit := hA.front2.devOpen.1
            obtain ⟨w2, hrun, h2, d2, hce⟩ := Sat.mapUpdate (P := Tryz.prog) Tryz.underlying61 Tryz.underlying3 (w := (wr.alloc (.cells #[.int .i64 at', .slice da dl.length dc] 96 (0, 0))).drew) hA.front2.devOpen.2.front4 at' (.agg #[])
            have c2 : (wr.alloc (.cells #[.int .i64 at', .slice da dl.length dc] 96 (0, 0))).cell? ⟨d, 2, none⟩ = some (.map (some x.tm)) := hA.front2.devCell 2
            have cb : (wr.alloc (.cells #[.int .i64 at', .slice da dl.length dc] 96 (0, 0))).cell? ⟨wr.heap.size, 0, none⟩ = some (.int .i64 at') := hA.cell 0
            have c2' : w2.cell? ⟨d, 2, none⟩ = some (.map (some x.tm)) := (hce.1 _).trans c2
            have cb' : w2.cell? ⟨wr.heap.size, 0, none⟩ = some (.int .i64 at') := (hce.1 _).trans cb
            clear hce
            go_wp2_with fail
            generalize hW1 : wr.alloc (.cells #[.int .i64 at', .slice da dl.length dc] 96 (0, 0)) = W1 at hrun c2 cb d2 hsA ⊢
            clear hW1
            go_region_held3 (fun w' => w'.cell? ⟨d, 2, none⟩ = some (.map (some x.tm)) ∧ w'.cell? ⟨wr.heap.size, 0, none⟩ = some (.int .i64 at')) (first | go_keep | exact ⟨c2', cb'⟩) (fail)
            go_wp2
            go_roundw
            case rel =>
              refine ⟨k + 1, Y, by omega, by go_num, ?_, hsA.drew.trans d2⟩
              have e : D.fates keep (k + 1) = (D.fates keep k).tear (at', dl) := by
                rw [Dev.fates, Hwk.out]; simp only [Dev.fate, Hf.out]; rfl
              rw [e]
              rw [tornKV_upd] at h2
              exact (Sat.devShut (D := (D.fates keep k).tear (at', dl)) ⟨hfit.sec, hfit.vals, hfit.wait, hfit.wvals⟩ h2.back4).drop2
            case measure => simp [intOf]; omega
          · go_wp2
            go_roundw
            case rel =>
              refine ⟨k + 1, Y, by omega, by go_num, ?_, hsA⟩
              have e : D.fates keep (k + 1) = D.fates keep k := by
                rw [Dev.fates, Hwk.out]; simp only [Dev.fate, Hf.out, if_neg hf1, if_neg hf2]
              rw [e]; exact hA.right
            case measure => simp [intOf]; omega
      · have hkk' : ¬ (k : Int) < (keep.length : Int) := by omega
        go_wp2
        go_roundw
        case rel =>
          refine ⟨k + 1, Y, by omega, by go_num, ?_, hsA⟩
          have e : D.fates keep (k + 1) = D.fates keep k := by
            rw [Dev.fates, Hwk.out]; simp [Dev.fate, List.getD, List.getElem?_eq_none (Nat.le_of_not_lt hkk)]
          rw [e]; exact hA.right
        case measure => simp [intOf]; omega
    · obtain rfl : k = D.wait.length := by omega
      have k1 := hsat.devCell 1
      have k6 := hsat.devCell 6
      have k7 := hsat.devCell 7
      have k8 := hsat.devCell 8
      have k9 := hsat.devCell 9
      have kf := hsat.devFree
      simp only [Dx.cells] at k1 k6 k7 k8 k9
      have hfit := hsat.devOpen.1
      have H2 := ((((hsat.devOpen.2.setCell 1 (.slice none 0 0)).setCell 6 (.bool true)).setCell 7 (.bool false)).setCell 8 (.int .i64 0)).setCell 9 (.slice none 0 0)
      clear e1 e2 e3
      go_wp2
      go_end0
      refine ⟨rfl, ?_, ((((hside.setCell _ _).setCell _ _).setCell _ _).setCell _ _).setCell _ _⟩
      have H3 := ((H2.drop3).front4.right.slNil 96 2).slNil 3 1
      refine Sat.devOf (x := { x with Y := Y, wv := .slice none 0 0, Z := [], kv := .slice none 0 0 }) (Sat.devShut ⟨hfit.sec, hfit.vals, rfl, by simp⟩ ?_)
      exact H3.to (by
        simp only [Dx.cells, Dev.crash, List.length_nil, flatW, i64v, List.flatMap_nil, List.map_nil]
        ac_rfl)
end Go.Proofs.YtlfooilcngjeiaaGreat

/- Steps towards the statement StoreForms. -/
import Derived.Test.YtdafdidmbeecfaaGreatDoorStoreFormsP3
import Derived.Deep.RegionLaw
import Derived.OwnWalkIn
import Derived.RangeFuncNested
import Derived.RangeFuncBound
import Derived.RangeFuncCalls
import Derived.RangeFuncLeaves
import Derived.Test.YtdafdidmbeecfaaGreatDoorStoreFormsP1
section
namespace Go.Proofs.YtdafdidmbeecfaaGreatDoor
set_option linter.unusedVariables false
set_option linter.unusedSimpArgs false
open Go.RowKit Go.SL
theorem val_shape {T : TypeId} {S : Hp} {v : Value} {l : List UInt8} (h : Val T S v l) : ∃ a c, v = .slice a l.length c := by
  rcases h.2 with ⟨rfl, rfl⟩ | ⟨g, cap, cur, rfl, _⟩
  · exact ⟨_, _, rfl⟩
  · exact ⟨_, _, rfl⟩
def DoneQ (x : Dx) (S : Hp) (d : Nat) (D : Dev) (p : Int × List UInt8) (dv : Value) (F : Assn) (w : World) (e : Ending) (w' : World) : Prop :=
  e = .returned (.tuple #[]) ∧ Sat w' (devX { x with Y := x.Y.set p.1.toNat (dv, p.2) } S d (D.done p) * F) ∧ Side w w'
set_option maxRecDepth 100000 in
set_option maxHeartbeats 2000000 in
theorem done_any (w : World) (S : Hp) (d : Nat) (D : Dev) (x : Dx) (p : Int × List UInt8) (dv : Value) (F : Assn) (h : Sat w (devX x S d D * F)) (hv : Val 5 S dv p.2) (hh : D.has p.1) :
    Calls Tryz.prog 62 #[.pointer (some ⟨d, 0, none⟩), .agg #[.int .i64 p.1, dv]] w (DoneQ x S d D p dv F w) := by
  obtain ⟨q, l⟩ := p
  obtain ⟨a, rfl⟩ := Int.eq_ofNat_of_zero_le hh.1
  have hlt : (a : Int) < (x.Y.length : Int) := by rw [h.devSecs]; exact hh.2
  have hlt' : a < x.Y.length := by omega
  obtain ⟨hf, hs⟩ := h.devOpen
  obtain ⟨da, dc, rfl⟩ := val_shape hv
  obtain ⟨va, ha⟩ : ∃ va, (x.Y.map Prod.fst)[a]? = some va := ⟨_, List.getElem?_eq_getElem (by simpa using hlt')⟩
  have hA := hs.alloc (.cells #[.int .i64 a, .slice da l.length dc] 80 (0, 0))
  have hside := (Side.refl w).alloc (.cells #[.int .i64 a, .slice da l.length dc] 80 (0, 0))
  go_enter Tryz.func62, Tryz.ntmps62
  go_wp2
  generalize hw1 : w.alloc (.cells #[.int .i64 a, .slice da l.length dc] 80 (0, 0)) = w1 at hA hside ⊢
  generalize w.heap.size = bx at hA ⊢
  have k0 : w1.cell? ⟨d, 0, none⟩ = some (.slice (some ⟨x.sg, 0, none⟩) x.Y.length x.Y.length) := hA.front2.cell 0
  have kb0 : w1.cell? ⟨bx, 0, none⟩ = some (.int .i64 a) := hA.cell 0
  have kb1 : w1.cell? ⟨bx, 1, none⟩ = some (.slice da l.length dc) := hA.cell 1
  have ks : w1.cell? ⟨x.sg, a, none⟩ = some va := (hA.front3.cell a).trans (by simpa using ha)
  have kf : w1.frozen? ⟨x.sg, a, none⟩ = false := hA.front3.frozen a
  have H2 := (hA.front3.setCell a (.slice da l.length dc)).back3
  have s0 : (w1.setCell ⟨x.sg, a, none⟩ (.slice da l.length dc)).cell? ⟨d, 0, none⟩ = some (.slice (some ⟨x.sg, 0, none⟩) x.Y.length x.Y.length) := H2.front2.cell 0
  have sb0 : (w1.setCell ⟨x.sg, a, none⟩ (.slice da l.length dc)).cell? ⟨bx, 0, none⟩ = some (.int .i64 a) := H2.cell 0
  have sb1 : (w1.setCell ⟨x.sg, a, none⟩ (.slice da l.length dc)).cell? ⟨bx, 1, none⟩ = some (.slice da l.length dc) := H2.cell 1
  have s2 : (w1.setCell ⟨x.sg, a, none⟩ (.slice da l.length dc)).cell? ⟨d, 2, none⟩ = some (.map (some x.tm)) := H2.front2.cell 2
  clear ha hlt'
  go_region_held3 (fun w' => w'.cell? ⟨d, 0, none⟩ = some (.slice (some ⟨x.sg, 0, none⟩) x.Y.length x.Y.length) ∧ w'.cell? ⟨bx, 0, none⟩ = some (.int .i64 a) ∧ w'.cell? ⟨bx, 1, none⟩ = some (.slice da l.length dc)) (first | go_keep | exact ⟨k0, kb0, kb1⟩ | exact ⟨s0, sb0, sb1⟩) (fail)
  have hside2 := (hside.setCell ⟨x.sg, a, none⟩ (.slice da l.length dc)).drew
  generalize hw2 : (w1.setCell ⟨x.sg, a, none⟩ (.slice da l.length dc)) = w2 at H2 hside2 s0 sb0 sb1 s2 ⊢
  obtain ⟨w3, hrun, H3, hside3, _⟩ := Sat.delete (P := Tryz.prog) Tryz.underlying73 Tryz.underlying3 0 3 (w := w2.drew.drew) (Sat.front5 H2) (a : Int)
  have H4 := H3.back5
  have t0 : w3.cell? ⟨bx, 0, none⟩ = some (.int .i64 a) := H4.cell 0
  have t2 : w3.cell? ⟨d, 2, none⟩ = some (.map (some x.tm)) := H4.front2.cell 2
  go_wp2
  go_region_held3 (fun w' => w'.cell? ⟨bx, 0, none⟩ = some (.int .i64 a) ∧ w'.cell? ⟨d, 2, none⟩ = some (.map (some x.tm))) (first | go_keep | exact ⟨sb0, s2⟩ | exact ⟨t0, t2⟩) (fail)
  go_wp2
  go_end0
  refine ⟨rfl, Sat.devShut ⟨?_, ?_, hf.wait, hf.wvals⟩ (H4.right.to ?_), hside2.drew.trans hside3⟩
  · show (x.Y.set (a : Int).toNat (.slice da l.length dc, l)).map Prod.snd = D.sec.set (a : Int).toNat l
    rw [List.map_set, hf.sec]
  · intro y hy
    rcases List.mem_or_eq_of_mem_set hy with hy | rfl
    · exact hf.vals y hy
    · exact hv
  · simp only [tornKV_del, Dx.cells, Dev.done, List.length_set, Int.toNat_natCast, List.map_set, List.setIfInBounds_toArray]
def KeepR (x : Dx) (S : Hp) (d : Nat) (D : Dev) (F : Assn) (kv : Value) (keep : List Int) : Prop :=
  ∃ a c, kv = .slice a keep.length c ∧ keep.length ≤ 9223372036854775807 ∧ ∀ i, i < keep.length → ∃ b off, a = some ⟨b, off, none⟩ ∧
    ∀ w' Y D', D'.keep = D.keep → Sat w' (devX { x with Y := Y } S d D' * F) → w'.cell? ⟨b, off + i, none⟩ = some (.int .i64 (keep.getD i 0))
def CrashQ (x : Dx) (S : Hp) (d : Nat) (D : Dev) (keep : List Int) (F : Assn) (w : World) (e : Ending) (w' : World) : Prop :=
  e = .returned (.tuple #[]) ∧ Sat w' (devA S d (D.crash keep) * F) ∧ Side w w'
def CrashRel (x : Dx) (S : Hp) (d : Nat) (D : Dev) (keep : List Int) (F : Assn) (w : World) (n : Nat) (u : Value) (wr : World) : Prop :=
  ∃ (k : Nat) (Y : List (Value × List UInt8)), k ≤ n ∧ u = .int .i64 k ∧ Sat wr (devX { x with Y := Y } S d (D.fates keep k) * F) ∧ Side w wr
theorem fates_keep (D : Dev) (keep : List Int) : ∀ k, (D.fates keep k).keep = D.keep ∧ (D.fates keep k).wait = D.wait ∧ (D.fates keep k).sec.length = D.sec.length
  | 0 => ⟨rfl, rfl, rfl⟩
  | k + 1 => by
    obtain ⟨h1, h2, h3⟩ := fates_keep D keep k
    unfold Dev.fates
    split
    · unfold Dev.fate
      split
      · exact ⟨h1, h2, by simp [Dev.done, h3]⟩
      · split
        · exact ⟨h1, h2, h3⟩
        · exact ⟨h1, h2, h3⟩
    · exact ⟨h1, h2, h3⟩
set_option maxRecDepth 100000 in
set_option maxHeartbeats 4000000 in
theorem crash_any (w : World) (S : Hp) (d : Nat) (D : Dev) (x : Dx) (keep : List Int) (kv : Value) (F : Assn) (h : Sat w (devX x S d D * F)) (hD : D.Ok) (hk : KeepR x S d D F kv keep) :
    Calls Tryz.prog 28 #[.pointer (some ⟨d, 0, none⟩), kv] w (CrashQ x S d D keep F w) := by
  obtain ⟨ka, kc, rfl, hkl, hcell⟩ := hk
  obtain ⟨wa, wc, hwv⟩ := h.devW
  have hn : (D.wait.length : Int) ≤ 1000000 := by have := hD.many; omega
  have k1 : w.cell? ⟨d, 1, none⟩ = some (.slice wa D.wait.length wc) := (h.devCell 1).trans (by simp only [Dx.cells, hwv]; rfl)
  have Hwv := SL.hid hwv; have Hcell := SL.hid hcell; clear hwv hcell
  go_enter Tryz.func28, Tryz.ntmps28
  go_wp2
  go_loopw [14] (fun u wr => CrashRel x S d D keep F w D.wait.length u wr) (fun u _ => D.wait.length - (intOf u).toNat)
  case atStart => exact ⟨0, x.Y, Nat.zero_le _, rfl, h, Side.refl w⟩
  case round =>
    obtain ⟨k, Y, hkn, rfl, hsat, hside⟩ := hrel
    clear k1
    obtain ⟨e1, e2, e3⟩ := fates_keep D keep k
    by_cases hlt : k < D.wait.length
    · have hlt' : (k : Int) < (D.wait.length : Int) := by omega
      have hzn : x.Z.length = D.wait.length := hsat.devWaits.trans (by rw [e2])
      have hzl : k < x.Z.length := by omega
      obtain ⟨g, hwa⟩ : ∃ g, wa = some ⟨g, 0, none⟩ := by
        have hpos : 0 < x.Z.length := by omega
        have := sl_addr hsat.devOpen.2.front3 hpos
        obtain ⟨g, c, hh⟩ := this
        rw [Hwv.out] at hh
        exact ⟨_, (Value.slice.inj hh).1⟩
      subst hwa
      have hcz : wr.cell? ⟨g, k * 2, none⟩ = some (.int .i64 x.Z[k].1) ∧ wr.cell? ⟨g, k * 2 + 1, none⟩ = some x.Z[k].2.1 := by
        have := hsat.devOpen.2.front3
        simp only [Hwv.out] at this
        exact this.writeCells hzl
      obtain ⟨hc0, hc1⟩ := hcz
      have hwk : D.wait[k]? = some (x.Z[k].1, x.Z[k].2.2) := by
        rw [← e2, ← hsat.devOpen.1.wait]
        simp [hzl]
      have hval : Val 5 S x.Z[k].2.1 x.Z[k].2.2 := hsat.devOpen.1.wvals _ (List.getElem_mem hzl)
      obtain ⟨da, dc, hdv⟩ := val_shape hval
      rw [hdv] at hc1 hval
      have hhas : (D.fates keep k).has x.Z[k].1 := by
        have := hD.wait _ (List.mem_of_getElem? hwk)
        unfold Dev.has at this ⊢
        rw [e3]; exact this
      generalize x.Z[k].1 = at' at hc0 hwk hhas
      generalize x.Z[k].2.2 = dl at hc1 hwk hval
      have Hwk := SL.hid hwk
      have hwg : ∀ (cs : Array Value), (wr.alloc (.cells cs 80 (0, 0))).cell? ⟨wr.heap.size, 0, none⟩ = cs[0]? := fun cs => (hsat.alloc (.cells cs 80 (0, 0))).cell 0
      clear hwk hdv e1 e2 e3 hwg
      have hgl : g < wr.heap.size := World.block_lt_of_cell? wr _ hc0
      have hA := hsat.alloc (.cells #[.int .i64 at', .slice da dl.length dc] 80 (0, 0))
      have hsA := hside.alloc (.cells #[.int .i64 at', .slice da dl.length dc] 80 (0, 0))
      by_cases hkk : k < keep.length
      · have hkk' : (k : Int) < (keep.length : Int) := by omega
        obtain ⟨kb, ko, rfl, hkf⟩ := Hcell.out k hkk
        have hkc := hkf wr Y _ (fates_keep D keep k).1 hsat
        have hkb : kb < wr.heap.size := World.block_lt_of_cell? wr _ hkc
        clear hkf
        generalize hf : keep.getD k 0 = f at hkc
        have Hf := SL.hid hf; clear hf
        by_cases hf1 : f = 1
        · subst hf1
          go_wp2_with (go_at_call 62; refine (done_any _ S d _ _ (at', dl) _ _ hA.right hval hhas).mono ?_; rintro e w2 ⟨rfl, h2, d2⟩)
          go_roundw
          case rel =>
            refine ⟨k + 1, Y.set at'.toNat (.slice da dl.length dc, dl), by omega, by go_num, ?_, hsA.trans d2⟩
            have e : D.fates keep (k + 1) = (D.fates keep k).done (at', dl) := by
              rw [Dev.fates, Hwk.out]; simp only [Dev.fate, Hf.out, if_true]
            rw [e]; exact h2
          case measure => simp [intOf]; omega
        · by_cases hf2 : f = 2
          · subst hf2
            have hfit := hA.front2.devOpen.1
            obtain ⟨w2, hrun, h2, d2, hce⟩ := Sat.mapUpdate (P := Tryz.prog) Tryz.underlying73 Tryz.underlying3 (w := (wr.alloc (.cells #[.int .i64 at', .slice da dl.length dc] 80 (0, 0))).drew) hA.front2.devOpen.2.front4 at' (.agg #[])
            have c2 : (wr.alloc (.cells #[.int .i64 at', .slice da dl.length dc] 80 (0, 0))).cell? ⟨d, 2, none⟩ = some (.map (some x.tm)) := hA.front2.devCell 2
            have cb : (wr.alloc (.cells #[.int .i64 at', .slice da dl.length dc] 80 (0, 0))).cell? ⟨wr.heap.size, 0, none⟩ = some (.int .i64 at') := hA.cell 0
            have c2' : w2.cell? ⟨d, 2, none⟩ = some (.map (some x.tm)) := (hce.1 _).trans c2
            have cb' : w2.cell? ⟨wr.heap.size, 0, none⟩ = some (.int .i64 at') := (hce.1 _).trans cb
            clear hce
            go_wp2_with fail
            generalize hW1 : wr.alloc (.cells #[.int .i64 at', .slice da dl.length dc] 80 (0, 0)) = W1 at hrun c2 cb d2 hsA ⊢
            clear hW1
            go_region_held3 (fun w' => w'.cell? ⟨d, 2, none⟩ = some (.map (some x.tm)) ∧ w'.cell? ⟨wr.heap.size, 0, none⟩ = some (.int .i64 at')) (first | go_keep | exact ⟨c2', cb'⟩) (fail)
            go_wp2
            go_roundw
            case rel =>
              refine ⟨k + 1, Y, by omega, by go_num, ?_, hsA.drew.trans d2⟩
              have e : D.fates keep (k + 1) = (D.fates keep k).tear (at', dl) := by
                rw [Dev.fates, Hwk.out]; simp only [Dev.fate, Hf.out]; rfl
              rw [e]
              rw [tornKV_upd] at h2
              exact (Sat.devShut (D := (D.fates keep k).tear (at', dl)) ⟨hfit.sec, hfit.vals, hfit.wait, hfit.wvals⟩ h2.back4).drop2
            case measure => simp [intOf]; omega
          · go_wp2
            go_roundw
            case rel =>
              refine ⟨k + 1, Y, by omega, by go_num, ?_, hsA⟩
              have e : D.fates keep (k + 1) = D.fates keep k := by
                rw [Dev.fates, Hwk.out]; simp only [Dev.fate, Hf.out, if_neg hf1, if_neg hf2]
              rw [e]; exact hA.right
            case measure => simp [intOf]; omega
      · have hkk' : ¬ (k : Int) < (keep.length : Int) := by omega
        go_wp2
        go_roundw
        case rel =>
          refine ⟨k + 1, Y, by omega, by go_num, ?_, hsA⟩
          have e : D.fates keep (k + 1) = D.fates keep k := by
            rw [Dev.fates, Hwk.out]; simp [Dev.fate, List.getD, List.getElem?_eq_none (Nat.le_of_not_lt hkk)]
          rw [e]; exact hA.right
        case measure => simp [intOf]; omega
    · obtain rfl : k = D.wait.length := by omega
      have k1 := hsat.devCell 1
      have k6 := hsat.devCell 6
      have k7 := hsat.devCell 7
      have k8 := hsat.devCell 8
      have k9 := hsat.devCell 9
      have kf := hsat.devFree
      simp only [Dx.cells] at k1 k6 k7 k8 k9
      have hfit := hsat.devOpen.1
      have H2 := ((((hsat.devOpen.2.setCell 1 (.slice none 0 0)).setCell 6 (.bool true)).setCell 7 (.bool false)).setCell 8 (.int .i64 0)).setCell 9 (.slice none 0 0)
      clear e1 e2 e3
      go_wp2
      go_end0
      refine ⟨rfl, ?_, ((((hside.setCell _ _).setCell _ _).setCell _ _).setCell _ _).setCell _ _⟩
      have H3 := ((H2.drop3).front4.right.slNil 80 2).slNil 3 1
      refine Sat.devOf (x := { x with Y := Y, wv := .slice none 0 0, Z := [], kv := .slice none 0 0 }) (Sat.devShut ⟨hfit.sec, hfit.vals, rfl, by simp⟩ ?_)
      exact H3.to (by
        simp only [Dx.cells, Dev.crash, List.length_nil, flatW, i64v, List.flatMap_nil, List.map_nil]
        ac_rfl)
end Go.Proofs.YtdafdidmbeecfaaGreatDoor
end
section
namespace Go.Proofs.YtdafdidmbeecfaaGreatDoor
set_option linter.unusedVariables false
set_option linter.unusedSimpArgs false
open Go.RowKit Go.SL
def DevQ (S : Hp) (d : Nat) (D : Dev) (v : Value) (F : Assn) (w : World) (e : Ending) (w' : World) : Prop :=
  e = .returned v ∧ Sat w' (devA S d D * F) ∧ Side w w'
theorem keepR_own (x : Dx) (S : Hp) (d : Nat) (D : Dev) (F : Assn) (w : World) (hD : D.Ok) (h : Sat w (devX x S d D * F)) : KeepR x S d D F x.kv D.keep := by
  obtain ⟨a, c, hv⟩ := sl_shape h.devOpen.2.front5
  refine ⟨a, c, hv, by have := hD.keep; omega, fun i hi => ?_⟩
  obtain ⟨g, c2, hv2⟩ := sl_addr h.devOpen.2.front5 (by omega)
  refine ⟨g, 0, (Value.slice.inj (hv.symm.trans hv2)).1, fun w' Y D' hk hs => ?_⟩
  have h5 := hs.devOpen.2.front5
  rw [hk] at h5
  obtain ⟨_, hr⟩ := h5.rds
  rcases hr with ⟨hn, h0⟩ | ⟨ad, c', he, ha⟩
  · rw [show ({ x with Y := Y } : Dx).kv = x.kv from rfl, hv2] at hn; cases hn
  · rw [show ({ x with Y := Y } : Dx).kv = x.kv from rfl, hv2] at he
    have hea := (Value.slice.inj he).1
    cases hea
    have := ha i (.int .i64 (D.keep.getD i 0)) (by simp [i64v, List.getElem?_eq_getElem hi])
    rwa [Addr.add_lit] at this
set_option maxRecDepth 100000 in
set_option maxHeartbeats 2000000 in
theorem begin_any (w : World) (S : Hp) (d : Nat) (D : Dev) (F : Assn) (h : Sat w (devA S d D * F)) (hD : D.Ok) :
    Calls Tryz.prog 36 #[.pointer (some ⟨d, 0, none⟩)] w (DevQ S d D.begun (.int .i64 D.begins) F w) := by
  obtain ⟨x, hx⟩ := h.devEx
  have k6 : w.cell? ⟨d, 6, none⟩ = some (.bool D.down) := hx.devCell 6
  have k7 : w.cell? ⟨d, 7, none⟩ = some (.bool D.armed) := hx.devCell 7
  have k8 : w.cell? ⟨d, 8, none⟩ = some (.int .i64 D.left) := hx.devCell 8
  have k9 : w.cell? ⟨d, 9, none⟩ = some x.kv := hx.devCell 9
  have kf := hx.devFree
  by_cases hd : D.down = true
  · have e1 : D.begins = 2 := by simp [Dev.begins, Dev.strike, hd]
    have e2 : D.begun = D := by simp [Dev.begun, Dev.strike, hd]
    rw [e1, e2]; rw [hd] at k6
    clear e1 e2 hd hD
    go_enter Tryz.func36, Tryz.ntmps36
    go_wp2
    go_ret
    exact ⟨rfl, h, Side.refl w⟩
  · simp only [Bool.not_eq_true] at hd
    rw [hd] at k6
    by_cases ha : D.armed = true
    · rw [ha] at k7
      by_cases hl : D.left = 0
      · have e1 : D.begins = 2 := by simp [Dev.begins, Dev.strike, hd, ha, hl, Dev.crash]
        have e2 : D.begun = D.crash D.keep := by simp [Dev.begun, Dev.strike, hd, ha, hl, Dev.crash]
        rw [e1, e2]; rw [hl] at k8
        have hc := crash_any w S d D x D.keep x.kv F hx hD (keepR_own x S d D F w hD hx)
        clear e1 e2 hd ha hl hD hx h
        go_enter Tryz.func36, Tryz.ntmps36
        go_wp2_with fail
        refine hc.mono ?_
        rintro e w2 ⟨rfl, h2, d2⟩
        obtain ⟨x2, hx2⟩ := h2.devEx
        have k6' : w2.cell? ⟨d, 6, none⟩ = some (.bool true) := hx2.devCell 6
        clear hc k6 k7 k8 k9 kf hx2
        go_wp2
        go_ret
        exact ⟨rfl, h2, d2⟩
      · have e1 : D.begins = 0 := by simp [Dev.begins, Dev.strike, hd, ha, hl]
        have e2 : D.begun = { D with left := i64w (D.left - 1) } := by simp [Dev.begun, Dev.strike, hd, ha, hl]
        rw [e1, e2]
        have hfit := hx.devOpen.1
        have h2 := hx.devOpen.2.setCell 8 (.int .i64 (i64w (D.left - 1)))
        have hlb : (D.left == 0) = false := by simpa using hl
        have H2 := SL.hid h2
        clear e1 e2 hd ha hl hD hx h k9 h2
        go_enter Tryz.func36, Tryz.ntmps36
        go_wp2
        go_ret
        refine ⟨rfl, Sat.devOf (x := x) (Sat.devShut ⟨hfit.sec, hfit.vals, hfit.wait, hfit.wvals⟩ ?_), (Side.refl w).setCell _ _⟩
        exact H2.out
    · simp only [Bool.not_eq_true] at ha
      have e1 : D.begins = 0 := by simp [Dev.begins, Dev.strike, hd, ha]
      have e2 : D.begun = D := by simp [Dev.begun, Dev.strike, hd, ha]
      rw [e1, e2]; rw [ha] at k7
      clear e1 e2 hd ha hD
      go_enter Tryz.func36, Tryz.ntmps36
      go_wp2
      go_ret
      exact ⟨rfl, h, Side.refl w⟩
theorem info_waiting : (Tryz.prog.info? 80).map (fun i => (i.zero, i.size, i.bytes)) = some (some (.agg #[.int .i64 0, .slice none 0 0]), 2, 32) := by kernel_rfl
theorem bs_sector (T : TypeId) (g : Nat) {l : List UInt8} (hl : l.length = 512) : bs T (.slice (some ⟨g, 0, none⟩) 512 512) l = sl T 1 (.slice (some ⟨g, 0, none⟩) 512 512) 512 ((u8s (padTo 512 l)).toList.take (512 * 1)) := by
  have e : (u8s (padTo 512 l)).toList.take (512 * 1) = l.map u8 := by
    rw [padTo_self hl]
    exact List.take_of_length_le (by rw [u8s, List.toList_toArray, List.length_map, hl]; exact Nat.le_refl _)
  rw [e, bs, hl]
theorem append_wait {w1 w2 : World} {S : Hp} {d g : Nat} {D : Dev} {x : Dx} {a : Int} {l : List UInt8} {F : Assn} (hx : Sat w1 (devX x S d D * (pool S * F))) (hl : l.length = 512) (hm : D.wait.length ≤ 1000000)
    (h2 : Sat w2 (pt g (.cells (u8s (padTo 512 l)) 5 (0, 0)) * whole w1)) :
    ∃ va vn vc w3, (Builtin.append_ #[74, 74] 74 #[x.wv, .slice (some ⟨w2.heap.size, 0, none⟩) 1 1]).run Tryz.prog (w2.alloc (.cells #[.int .i64 a, .slice (some ⟨g, 0, none⟩) 512 512] 80 (0, 0))) = .ok (.slice va vn vc) w3 ∧
      w3.cell? ⟨d, 1, none⟩ = some x.wv ∧ (∀ o, w3.frozen? ⟨d, o, none⟩ = false) ∧ Side w2 w3 ∧
      ∃ S', Ext S S' ∧ Sat (w3.setCell ⟨d, 1, none⟩ (.slice va vn vc)) (devA S' d { D with wait := D.wait ++ [(a, l)] } * (pool S' * F)) := by
  obtain ⟨i0, hi, hz, hs0, hb0⟩ := info_parts info_waiting
  have h3 := h2.under hx
  obtain ⟨hfit, h4⟩ := (h3.to (star_left_comm _ _ _)).devOpen
  have hZ : x.Z.length = D.wait.length := by rw [← hfit.wait, List.length_map]
  have hA := h4.alloc (.cells #[.int .i64 a, .slice (some ⟨g, 0, none⟩) 512 512] 80 (0, 0))
  have hR : Rds (w2.alloc (.cells #[.int .i64 a, .slice (some ⟨g, 0, none⟩) 512 512] 80 (0, 0))) 2 (.slice (some ⟨w2.heap.size, 0, none⟩) 1 1) 1 [.int .i64 a, .slice (some ⟨g, 0, none⟩) 512 512] :=
    ⟨rfl, .inr ⟨_, _, rfl, fun j u hu => by
      rw [Addr.add_lit, Nat.zero_add]
      exact (hA.cell j).trans (by simpa using hu)⟩⟩
  obtain ⟨v', w3, hrun, h5, d5⟩ := Sat.append (P := Tryz.prog) (ty := 74) Tryz.underlying74 hi hz hs0 hb0 rfl (hA.right.front3) hR (by simp [Value.oneCell']) (by unfold maxLen; omega) (by omega)
  have h6 := h5.back3
  obtain ⟨va, vc, rfl⟩ := sl_shape h5
  refine ⟨_, _, _, w3, hrun, (h6.cell 1).trans rfl, h6.frozen, ((Side.refl w2).alloc _).trans d5, ?_⟩
  have h7 := h6.setCell 1 (.slice va (x.Z.length + 1) vc)
  have h8 := h7.front7.front7
  have hg : Sat (w3.setCell ⟨d, 1, none⟩ (.slice va (x.Z.length + 1) vc)) (pool S * (bs 5 (.slice (some ⟨g, 0, none⟩) 512 512) l * (pt d (.cells ((x.cells D).setIfInBounds 1 (.slice va (x.Z.length + 1) vc)) 76 (0, 0)) * (pt x.sg (.cells (x.Y.map Prod.fst).toArray 22 (0, 0)) * (sl 80 2 (.slice va (x.Z.length + 1) vc) (x.Z.length + 1) (flatW x.Z ++ [.int .i64 a, .slice (some ⟨g, 0, none⟩) 512 512]) * (mp x.tm (tornKV D.torn) * (sl 3 1 x.kv D.keep.length (i64v D.keep) * F))))))) := by
    have h9 : Sat _ (pt g (.cells (u8s (padTo 512 l)) 5 (0, 0)) * _) := h8
    have h10 := Sat.slOf (sz := 1) (n := 512) (cap := 512) h9 (by omega) (by unfold maxLen; omega) (by simp [size_u8s, padTo_length])
    refine h10.to ?_
    rw [bs_sector _ g hl]
    ac_rfl
  obtain ⟨S', hE, hV, h11⟩ := Sat.poolBs hg (by rw [small, hl]; omega)
  refine ⟨S', hE, ?_⟩
  have hfit2 : ({ x with wv := .slice va (x.Z.length + 1) vc, Z := x.Z ++ [(a, .slice (some ⟨g, 0, none⟩) 512 512, l)] } : Dx).Fit 5 S' { D with wait := D.wait ++ [(a, l)] } := by
    refine ⟨hfit.sec, fun y hy => (hfit.vals y hy).mono hE, ?_, fun z hz => ?_⟩
    · show (x.Z ++ [_]).map _ = _
      rw [List.map_append, hfit.wait]; rfl
    · rcases List.mem_append.1 hz with hz | hz
      · exact (hfit.wvals z hz).mono hE
      · rw [List.mem_singleton.1 hz]; exact hV
  refine Sat.devOf (Sat.devShut hfit2 (h11.to ?_))
  simp only [Dx.cells, flatW, List.flatMap_append, List.flatMap_cons, List.flatMap_nil, List.append_nil, List.length_append, List.length_cons, List.length_nil, List.setIfInBounds_toArray, List.set_cons_zero, List.set_cons_succ]
  ac_rfl
theorem copied_enters : ∀ args w, (callFunc 37 args).run Tryz.prog w = .ok (.enter 37 args) w := enters Tryz.func37 (by kernel_rfl) rfl
def WriteQ (S : Hp) (d : Nat) (D : Dev) (v : Value) (F : Assn) (w : World) (e : Ending) (w' : World) : Prop :=
  ∃ S', Ext S S' ∧ e = .returned v ∧ Sat w' (devA S' d D * (pool S' * F)) ∧ Side w w'
theorem WriteQ.of {S : Hp} {d : Nat} {D : Dev} {v : Value} {F : Assn} {w : World} {e : Ending} {w' : World} (h : DevQ S d D v (pool S * F) w e w') : WriteQ S d D v F w e w' :=
  ⟨S, Ext.refl S, h.1, h.2.1, h.2.2⟩
set_option maxRecDepth 100000 in
set_option maxHeartbeats 4000000 in
theorem write_any (w : World) (S : Hp) (d : Nat) (D : Dev) (a : Int) (bv : Value) (l : List UInt8) (F : Assn) (h : Sat w (devA S d D * (pool S * F))) (hD : D.Ok) (hr : Rd w bv l) (hK : ∀ w' D', Sat w' (devA S d D' * (pool S * F)) → Rd w' bv l) (hl63 : l.length ≤ 9223372036854775807) :
    Calls Tryz.prog 11 #[.pointer (some ⟨d, 0, none⟩), .int .i64 a, bv] w (WriteQ S d (D.write a l).2 (.int .i64 (D.write a l).1) F w) := by
  obtain ⟨ba, bc, rfl⟩ := hr.shape
  have ch := has_any w S d D a _ h
  by_cases hh : D.has a
  · rw [show decide (D.has a) = true by simpa using hh] at ch
    by_cases hl : l.length = 512
    · have hl' : ((l.length : Int) != 512) = false := by simp [hl]
      have cb := begin_any w S d D _ h hD
      rcases D.begins_cases with hb | hb
      · have e : D.write a l = (0, { D.begun with cw := i64w (D.begun.cw + 1), wait := D.begun.wait ++ [(a, l)] }) := by simp [Dev.write, hh, hl, hb]
        rw [e]
        rw [hb] at cb
        have hok := hD.up hb
        have Hl := SL.hid hl
        clear e hb hl hr hh hD
        generalize D.begun = D1 at cb hok ⊢
        go_enter Tryz.func11, Tryz.ntmps11
        go_wp2_with (go_at_call 35; refine ch.mono ?_; rintro e w1 ⟨rfl, rfl⟩)
        refine cb.mono ?_
        rintro e w2 ⟨rfl, h2, d2⟩
        obtain ⟨x2, hx2⟩ := h2.devEx
        have hfit := hx2.devOpen.1
        have k4 : w2.cell? ⟨d, 4, none⟩ = some (.int .i64 D1.cw) := hx2.devCell 4
        have kf := hx2.devFree
        have hx3 : Sat (w2.setCell ⟨d, 4, none⟩ (.int .i64 (i64w (D1.cw + 1)))) (devX x2 S d { D1 with cw := i64w (D1.cw + 1) } * (pool S * F)) :=
          Sat.devShut ⟨hfit.sec, hfit.vals, hfit.wait, hfit.wvals⟩ (hx2.devOpen.2.setCell 4 (.int .i64 (i64w (D1.cw + 1))))
        have d3 := d2.setCell ⟨d, 4, none⟩ (.int .i64 (i64w (D1.cw + 1)))
        have hm : D1.wait.length ≤ 1000000 := hok.many
        have hr3 : Rd (w2.setCell ⟨d, 4, none⟩ (.int .i64 (i64w (D1.cw + 1)))) (.slice ba l.length bc) l := hK _ _ hx3.devOf
        clear cb ch h hx2 hok h2
        go_wp2_with fail
        generalize w2.setCell ⟨d, 4, none⟩ (.int .i64 (wrap64 (D1.cw + 1))) = w3 at hx3 d3 hr3 ⊢
        have k1 : w3.cell? ⟨d, 1, none⟩ = some x2.wv := hx3.devCell 1
        have hr4 : Rd w3.drew (.slice ba l.length bc) l := hr3
        clear k4 kf d2 hl'
        go_region_law (first
          | (refine step_call_run (copiedB_any w3.drew _ l hr4 hl63) copied_enters rfl _ _ rfl (by rfl) ?_; rintro e w4 ⟨g, rfl, h4, d4⟩; refine ⟨_, rfl, ?_⟩; have q4 : w4.cell? ⟨d, 1, none⟩ = some x2.wv := h4.cellOld (W := w3.drew) k1; have ql : d < w4.heap.size := World.block_lt_of_cell? w4 _ q4; obtain ⟨va, vn, vc, w5, hrun, q1, qf, d5, S5, E5, h5⟩ := append_wait (w1 := w3.drew) (a := a) (SL.Sat.drew hx3) Hl.out hm h4)
          | (refine step_append_run hrun rfl _ _ rfl rfl (by rfl) (by rfl) ?_))
        all_goals
          go_wp2
          go_ret
          exact ⟨S5, E5, rfl, h5, ((d3.drew.trans d4).trans d5).setCell _ _⟩
      · have e : D.write a l = (2, D.begun) := by simp [Dev.write, hh, hl, hb]
        rw [e]
        rw [hb] at cb
        clear e hb hl hr hh hD hK
        go_enter Tryz.func11, Tryz.ntmps11
        go_wp2_with (first
          | (go_at_call 35; refine ch.mono ?_; rintro e w1 ⟨rfl, rfl⟩)
          | (go_at_call 36; refine cb.mono ?_; rintro e w2 ⟨rfl, h2, d2⟩))
        go_ret
        exact ⟨S, Ext.refl S, rfl, h2, d2⟩
    · have hl' : ((l.length : Int) != 512) = true := by simp; omega
      have e : D.write a l = (1, D) := by simp [Dev.write, hl]
      rw [e]
      clear e hl hr hh hD hK
      go_enter Tryz.func11, Tryz.ntmps11
      go_wp2_with (go_at_call 35; refine ch.mono ?_; rintro e w1 ⟨rfl, rfl⟩)
      go_ret
      exact ⟨S, Ext.refl S, rfl, h, Side.refl w⟩
  · rw [show decide (D.has a) = false by simpa using hh] at ch
    have e : D.write a l = (1, D) := by simp [Dev.write, hh]
    rw [e]
    clear e hr hh hD hK
    go_enter Tryz.func11, Tryz.ntmps11
    go_wp2_with (go_at_call 35; refine ch.mono ?_; rintro e w1 ⟨rfl, rfl⟩)
    go_ret
    exact ⟨S, Ext.refl S, rfl, h, Side.refl w⟩
def FlushRel (x : Dx) (S : Hp) (d : Nat) (D : Dev) (F : Assn) (w : World) (n : Nat) (u : Value) (wr : World) : Prop :=
  ∃ (k : Nat) (Y : List (Value × List UInt8)), k ≤ n ∧ u = .int .i64 k ∧ Sat wr (devX { x with Y := Y } S d (D.doneAll (D.wait.take k)) * F) ∧ Side w wr
theorem doneAll_keep (D : Dev) (l : List (Int × List UInt8)) : (D.doneAll l).keep = D.keep ∧ (D.doneAll l).wait = D.wait ∧ (D.doneAll l).sec.length = D.sec.length ∧ (D.doneAll l).left = D.left := by
  unfold Dev.doneAll
  induction l generalizing D with
  | nil => exact ⟨rfl, rfl, rfl, rfl⟩
  | cons p l ih =>
    obtain ⟨h1, h2, h3, h4⟩ := ih (D.done p)
    exact ⟨h1, h2, h3.trans (by simp [Dev.done]), h4⟩
set_option maxRecDepth 100000 in
set_option maxHeartbeats 4000000 in
theorem flush_any (w : World) (S : Hp) (d : Nat) (D : Dev) (F : Assn) (h : Sat w (devA S d D * F)) (hD : D.Ok) :
    Calls Tryz.prog 41 #[.pointer (some ⟨d, 0, none⟩)] w (DevQ S d D.flush.2 (.int .i64 D.flush.1) F w) := by
  have cb := begin_any w S d D _ h hD
  rcases D.begins_cases with hb | hb
  · have e : D.flush = (0, D.begun.flushed) := by simp [Dev.flush, hb]
    rw [e]
    rw [hb] at cb
    have hok := hD.up hb
    clear e hb hD
    generalize D.begun = D1 at cb hok ⊢
    go_enter Tryz.func41, Tryz.ntmps41
    go_wp2_with fail
    refine cb.mono ?_
    rintro e w2 ⟨rfl, h2, d2⟩
    obtain ⟨x2, hx2⟩ := h2.devEx
    have hfit := hx2.devOpen.1
    have k5 : w2.cell? ⟨d, 5, none⟩ = some (.int .i64 D1.cf) := hx2.devCell 5
    have kf := hx2.devFree
    have hx3 : Sat (w2.setCell ⟨d, 5, none⟩ (.int .i64 (i64w (D1.cf + 1)))) (devX x2 S d { D1 with cf := i64w (D1.cf + 1) } * F) :=
      Sat.devShut ⟨hfit.sec, hfit.vals, hfit.wait, hfit.wvals⟩ (hx2.devOpen.2.setCell 5 (.int .i64 (i64w (D1.cf + 1))))
    have d3 := d2.setCell ⟨d, 5, none⟩ (.int .i64 (i64w (D1.cf + 1)))
    have hok2 : ({ D1 with cf := i64w (D1.cf + 1) } : Dev).Ok := ⟨hok.n, hok.wait, hok.many, hok.keep⟩
    obtain ⟨wa, wc, hwv⟩ := hx3.devW
    have k1 : (w2.setCell ⟨d, 5, none⟩ (.int .i64 (i64w (D1.cf + 1)))).cell? ⟨d, 1, none⟩ = some (.slice wa D1.wait.length wc) := (hx3.devCell 1).trans (by simp only [Dx.cells, hwv]; rfl)
    have hn : (D1.wait.length : Int) ≤ 1000000 := by have := hok.many; omega
    have Hwv := SL.hid hwv
    clear cb hx2 hok h2 h hwv
    go_wp2_with fail
    generalize w2.setCell ⟨d, 5, none⟩ (.int .i64 (wrap64 (D1.cf + 1))) = w3 at hx3 d3 k1 ⊢
    change Sat w3 (devX x2 S d { D1 with cf := i64w (D1.cf + 1) } * F) at hx3
    obtain ⟨D2, hD2⟩ : ∃ D2, D2 = ({ D1 with cf := i64w (D1.cf + 1) } : Dev) := ⟨_, rfl⟩
    have hw2 : D1.wait = D2.wait := by rw [hD2]
    have hq : D1.flushed = { D2.doneAll D2.wait with wait := [] } := by rw [hD2]; rfl
    have Hq := SL.hid hq
    rw [← hD2] at hx3 hok2
    rw [hw2] at k1 hn ⊢
    have Hwv2 : Hid (x2.wv = .slice wa D2.wait.length wc) := by rw [← hw2]; exact Hwv.out
    clear hD2 hw2 k5 kf d2 hq Hwv
    go_loopw [27] (fun u wr => FlushRel x2 S d D2 F w D2.wait.length u wr) (fun u _ => D2.wait.length - (intOf u).toNat)
    case atStart => exact ⟨0, x2.Y, Nat.zero_le _, rfl, hx3, d3⟩
    case round =>
      obtain ⟨k, Y, hkn, rfl, hsat, hside⟩ := hrel
      clear k1 hx3 d3
      obtain ⟨e1, e2, e3, e4⟩ := doneAll_keep D2 (D2.wait.take k)
      by_cases hlt : k < D2.wait.length
      · have hlt' : (k : Int) < (D2.wait.length : Int) := by omega
        have hzn : x2.Z.length = D2.wait.length := hsat.devWaits.trans (by rw [e2])
        have hzl : k < x2.Z.length := by omega
        obtain ⟨g, hwa⟩ : ∃ g, wa = some ⟨g, 0, none⟩ := by
          have hpos : 0 < x2.Z.length := by omega
          have := sl_addr hsat.devOpen.2.front3 hpos
          obtain ⟨g, c, hh⟩ := this
          rw [Hwv2.out] at hh
          exact ⟨_, (Value.slice.inj hh).1⟩
        subst hwa
        have hcz : wr.cell? ⟨g, k * 2, none⟩ = some (.int .i64 x2.Z[k].1) ∧ wr.cell? ⟨g, k * 2 + 1, none⟩ = some x2.Z[k].2.1 := by
          have := hsat.devOpen.2.front3
          simp only [Hwv2.out] at this
          exact this.writeCells hzl
        obtain ⟨hc0, hc1⟩ := hcz
        have hwk : D2.wait[k]? = some (x2.Z[k].1, x2.Z[k].2.2) := by
          rw [← e2, ← hsat.devOpen.1.wait]
          simp [hzl]
        have hval : Val 5 S x2.Z[k].2.1 x2.Z[k].2.2 := hsat.devOpen.1.wvals _ (List.getElem_mem hzl)
        obtain ⟨da, dc, hdv⟩ := val_shape hval
        rw [hdv] at hc1 hval
        have hhas : (D2.doneAll (D2.wait.take k)).has x2.Z[k].1 := by
          have := hok2.wait _ (List.mem_of_getElem? hwk)
          unfold Dev.has at this ⊢
          rw [e3]; exact this
        generalize x2.Z[k].1 = at' at hc0 hwk hhas
        generalize x2.Z[k].2.2 = dl at hc1 hwk hval
        have Hwk := SL.hid hwk
        clear hwk hdv e1 e2 e3 e4
        have hgl : g < wr.heap.size := World.block_lt_of_cell? wr _ hc0
        have hA := hsat.alloc (.cells #[.int .i64 at', .slice da dl.length dc] 80 (0, 0))
        have hsA := hside.alloc (.cells #[.int .i64 at', .slice da dl.length dc] 80 (0, 0))
        go_wp2_with (go_at_call 62; refine (done_any _ S d _ _ (at', dl) _ _ hA.right hval hhas).mono ?_; rintro e w2 ⟨rfl, h2, d2⟩)
        go_roundw
        case rel =>
          refine ⟨k + 1, Y.set at'.toNat (.slice da dl.length dc, dl), by omega, by go_num, ?_, hsA.trans d2⟩
          have e : D2.doneAll (D2.wait.take (k + 1)) = (D2.doneAll (D2.wait.take k)).done (at', dl) := by
            rw [List.take_add_one, Hwk.out]; simp [Dev.doneAll]
          rw [e]; exact h2
        case measure => simp [intOf]; omega
      · obtain rfl : k = D2.wait.length := by omega
        have k1 := hsat.devCell 1
        have kf := hsat.devFree
        simp only [Dx.cells] at k1
        have hfit := hsat.devOpen.1
        have H2 := hsat.devOpen.2.setCell 1 (.slice none 0 0)
        rw [List.take_length] at H2 hfit
        clear e1 e2 e3 e4
        go_wp2
        go_ret
        refine ⟨rfl, ?_, hside.setCell _ _⟩
        rw [Hq.out]
        have H3 := (H2.drop3).slNil 80 2
        refine Sat.devOf (x := { x2 with Y := Y, wv := .slice none 0 0, Z := [] }) (Sat.devShut ⟨hfit.sec, hfit.vals, rfl, by simp⟩ ?_)
        exact H3.to (by
          simp only [Dx.cells, List.length_nil, flatW, List.flatMap_nil, List.setIfInBounds_toArray, List.set_cons_zero, List.set_cons_succ]
          ac_rfl)
  · have e : D.flush = (2, D.begun) := by simp [Dev.flush, hb]
    rw [e]
    rw [hb] at cb
    clear e hb hD
    go_enter Tryz.func41, Tryz.ntmps41
    go_wp2_with (go_at_call 36; refine cb.mono ?_; rintro e w2 ⟨rfl, h2, d2⟩)
    go_ret
    exact ⟨rfl, h2, d2⟩
end Go.Proofs.YtdafdidmbeecfaaGreatDoor
end
section
namespace Go.SL
set_option linter.unusedVariables false
set_option linter.unusedSimpArgs false
open Go.RowKit
variable {F : Fence} {n : Nat} {P : Program}
theorem Sat.putObj {w : World} {b : Nat} {o : Obj} {R : Assn} (h : Sat w (pt b o * R)) (o' : Obj) : Sat (w.putObj b o') (pt b o' * R) :=
  h.upd (World.putObj_heap_same h.lt) fun _ hc => World.putObj_heap_other hc
theorem Side.putObj {a b : World} (h : Side a b) (r : Nat) (o : Obj) : Side a (b.putObj r o) := h.trans ⟨rfl, rfl, rfl, by simp⟩
def Yields {α : Type} (F : Fence) (n : Nat) (P : Program) (l : Nat) (w0 : World) (A Ax : List α → Assn) (T : α → Array Value → Assn) (Sp : List α → Prop) : Prop :=
  ∀ (pre : List α) (x : α) (vs : Array Value) (Fr : Assn) (W : World), Sp (pre ++ [x]) → Side w0 W → Sat W (A pre * (T x vs * Fr)) →
    YieldAt F n P l vs W fun e W' => (e = .returned (.bool true) ∧ Side w0 W' ∧ Sat W' (A (pre ++ [x]) * Fr)) ∨ (e = .returned (.bool false) ∧ Side w0 W' ∧ Sat W' (Ax (pre ++ [x]) * Fr))
def Iterates {α : Type} (F : Fence) (n : Nat) (P : Program) (gf : Nat) (lb : Array Value) (It : Assn) (T : α → Array Value → Assn) (S Sp : List α → Prop) : Prop :=
  ∀ (l : Nat) (A Ax : List α → Assn) (G : Assn) (w0 w : World), Yields F (n - 1) P l w0 A Ax T Sp → Side w0 w → Sat w (A [] * (It * G)) →
    CallsIn F n P gf (#[.func (.yield l) #[] #[]] ++ lb) w fun e w' => (∃ v, e = .returned v) ∧ Side w0 w' ∧
      ((∃ ys, S ys ∧ Sat w' (A ys * (It * G))) ∨ ∃ ys, Sp ys ∧ Sat w' (Ax ys * (It * G)))
def IteratesC {α : Type} (C : (List α → Assn) → Prop) (F : Fence) (n : Nat) (P : Program) (gf : Nat) (lb : Array Value) (It : Assn) (T : α → Array Value → Assn) (S Sp : List α → Prop) : Prop :=
  ∀ (l : Nat) (A Ax : List α → Assn) (G : Assn) (w0 w : World), C A → Yields F (n - 1) P l w0 A Ax T Sp → Side w0 w → Sat w (A [] * (It * G)) →
    CallsIn F n P gf (#[.func (.yield l) #[] #[]] ++ lb) w fun e w' => (∃ v, e = .returned v) ∧ Side w0 w' ∧
      ((∃ ys, S ys ∧ Sat w' (A ys * (It * G))) ∨ ∃ ys, Sp ys ∧ Sat w' (Ax ys * (It * G)))
def withR {α : Type} (R : Assn) : (List α → Assn) → Prop := fun A => ∃ A' : List α → Assn, A = fun ys => R * A' ys
theorem withR_star {α : Type} {R : Assn} {A : List α → Assn} (h : withR R A) (X : Assn) : withR R fun ys => A ys * X := by
  obtain ⟨A', rfl⟩ := h
  exact ⟨fun ys => A' ys * X, by funext ys; exact star_assoc _ _ _⟩
theorem withR_mk {α : Type} (R : Assn) (A' : List α → Assn) : withR R fun ys => R * A' ys := ⟨A', rfl⟩
def roundS {α : Type} (w0 : World) (A : List α → Assn) (Ax : Code → List α → Assn) (ys : List α) (Fr : Assn) : Exit → Act → World → Prop
  | .normal, _, W => Side w0 W ∧ Sat W (A ys * Fr)
  | .ret, _, W => Side w0 W ∧ Sat W (Ax .ret ys * Fr)
  | .exit id, _, W => Side w0 W ∧ Sat W (Ax (.exit id) ys * Fr)
  | .goto t, _, W => Side w0 W ∧ Sat W (Ax (.goto t) ys * Fr)
  | .panic _, _, _ => False
  | .outgrown, _, _ => False
theorem yields_of {α : Type} {ps : Array Tmp} {assign body : Code} {tmps : Array Value} {w0 : World} {fn : FuncId} (hfn : F.fn fn) {m : Nat} (L D : Nat)
    (A : List α → Assn) (Ax : Code → List α → Assn) (B : List α → α → Act → Assn) (T : α → Array Value → Assn) (Sp : List α → Prop)
    (hps : ∀ x vs Fr W, Sat W (T x vs * Fr) → vs.size = ps.size)
    (hassign : ∀ (l : Nat) (r : Loop) (pre : List α) (x : α) (vs : Array Value) (Fr : Assn) (W : World) (K : Act → World → Prop), Sp (pre ++ [x]) → Side w0 W → Sat W (A pre * (T x vs * (pt l (.loop r) * Fr))) →
      (∀ a' W', Side w0 W' → Sat W' (B pre x a' * (pt l (.loop r) * Fr)) → K a' W') →
      assign.wpIn (F.inRound l) m P (Exit.then K (fun _ _ _ => False)) { tmps := (ps.zip vs).foldl (fun t (p, v) => t.setIfInBounds p v) tmps, defers := [] } W)
    (hbody : ∀ (l : Nat) (r : Loop) (pre : List α) (x : α) (a' : Act) (Fr : Assn) (W : World), Sp (pre ++ [x]) → Side w0 W → Sat W (B pre x a' * (pt l (.loop r) * Fr)) →
      body.wpIn (F.inRound l) m P (roundS w0 A Ax (pre ++ [x]) (pt l (.loop r) * Fr)) a' W)
    (rec : LoopState → Option Code → Loop) (hrec : rec = fun st pe => { state := st, pending := pe, fn, tmps, params := ps, assign, body, defers := D }) :
    Yields F m P L w0 (fun ys => A ys * pt L (.loop (rec .ready none))) (fun ys => ex fun c => Ax c ys * pt L (.loop (rec .done (some c)))) T Sp := by
  intro pre x vs Fr W hsp hsd H0
  have H : Sat W (A pre * pt L (.loop (rec .ready none)) * (T x vs * Fr)) := H0
  have HL : Sat W (pt L (.loop (rec .ready none)) * (A pre * (T x vs * Fr))) := H.to (by ac_rfl)
  have hl := HL.heap
  have hy := run_yield (P := P) (args := vs) hl (by rw [hrec]; exact hps x vs (A pre * (pt L (.loop (rec .ready none)) * Fr)) W (H.to (by ac_rfl)))
  rw [hrec] at hy
  refine ⟨fn, _, assign, body, hy, roundIn_of_wpIn hfn (hassign L (rec .ready none) pre x vs Fr W _ hsp hsd (H.to (by ac_rfl)) ?_)⟩
  clear hy
  intro a' Wa hsa HB
  have HBl : Sat Wa (pt L (.loop (rec .ready none)) * (B pre x a' * Fr)) := HB.to (by ac_rfl)
  refine ⟨_, run_beginRound HBl.heap (by rw [hrec]), ?_⟩
  have HB2 := HBl.putObj (.loop { rec .ready none with state := .busy })
  refine wpIn_mono (hbody L _ pre x a' Fr _ hsp (hsa.putObj _ _) (HB2.to (by ac_rfl))) ?_
  have fin : ∀ (X : Assn) (jump : Option Code) (W3 : World), Side w0 W3 → Sat W3 (X * (pt L (.loop { rec .ready none with state := .busy }) * Fr)) →
      ∃ W4, (Instr.endRound L jump).run P W3 = .ok (.bool jump.isNone) W4 ∧ Side w0 W4 ∧ Sat W4 (X * pt L (.loop (rec (if jump.isNone then .ready else .done) jump)) * Fr) := by
    intro X jump W3 hs3 H3
    have H3l : Sat W3 (pt L (.loop { rec .ready none with state := .busy }) * (X * Fr)) := H3.to (by ac_rfl)
    have := run_endRound (P := P) jump H3l.heap
    refine ⟨_, this, hs3.putObj _ _, ?_⟩
    have H4 := H3l.putObj (.loop { ({ rec .ready none with state := .busy } : Loop) with state := if jump.isNone then .ready else .done, pending := jump })
    rw [hrec] at H4 ⊢
    exact H4.to (by ac_rfl)
  rintro e a3 W3 hp
  cases e with
  | normal =>
    obtain ⟨W4, hr, hs4, H4⟩ := fin _ none W3 hp.1 hp.2
    exact ⟨_, _, hr, .inl ⟨rfl, hs4, H4⟩⟩
  | ret =>
    obtain ⟨W4, hr, hs4, H4⟩ := fin _ (some .ret) W3 hp.1 hp.2
    exact ⟨_, _, hr, .inr ⟨rfl, hs4, Sat.ex_star_iff.2 ⟨_, H4⟩⟩⟩
  | exit id =>
    obtain ⟨W4, hr, hs4, H4⟩ := fin _ (some (.exit id)) W3 hp.1 hp.2
    exact ⟨_, _, hr, .inr ⟨rfl, hs4, Sat.ex_star_iff.2 ⟨_, H4⟩⟩⟩
  | goto t =>
    obtain ⟨W4, hr, hs4, H4⟩ := fin _ (some (.goto t)) W3 hp.1 hp.2
    exact ⟨_, _, hr, .inr ⟨rfl, hs4, Sat.ex_star_iff.2 ⟨_, H4⟩⟩⟩
  | panic ch => exact hp.elim
  | outgrown => exact hp.elim
theorem wpIn_rangeC {α : Type} {C : (List α → Assn) → Prop} {g : Operand} {ps : Array Tmp} {assign body : Code} {Q : Exit → Act → World → Prop} {a : Act} {w w0 : World}
    (hro : F.round = none) (h1 : 1 ≤ n) {gf : Nat} {lb : Array Value} (hg : a.eval g = .func (.func gf) #[] lb) (hFg : F.fn gf) (eg : ∀ args w, (callFunc gf args).run P w = .ok (.enter gf args) w)
    {It : Assn} {T : α → Array Value → Assn} {S Sp : List α → Prop} (hit : IteratesC C F (n - 1) P gf lb It T S Sp)
    (A : List α → Assn) (hC : ∀ X, C fun ys => A ys * X) (Ax : Code → List α → Assn) (B : List α → α → Act → Assn) (G : Assn)
    (hps : ∀ x vs Fr W, Sat W (T x vs * Fr) → vs.size = ps.size) (hs : Side w0 w) (h0 : Sat w (A [] * (It * G)))
    (hassign : ∀ (l : Nat) (r : Loop) (pre : List α) (x : α) (vs : Array Value) (Fr : Assn) (W : World) (K : Act → World → Prop), Sp (pre ++ [x]) → Side w0 W → Sat W (A pre * (T x vs * (pt l (.loop r) * Fr))) →
      (∀ a' W', Side w0 W' → Sat W' (B pre x a' * (pt l (.loop r) * Fr)) → K a' W') →
      assign.wpIn (F.inRound l) (n - 1 - 1) P (Exit.then K (fun _ _ _ => False)) { tmps := (ps.zip vs).foldl (fun t (p, v) => t.setIfInBounds p v) a.tmps, defers := [] } W)
    (hbody : ∀ (l : Nat) (r : Loop) (pre : List α) (x : α) (a' : Act) (Fr : Assn) (W : World), Sp (pre ++ [x]) → Side w0 W → Sat W (B pre x a' * (pt l (.loop r) * Fr)) →
      body.wpIn (F.inRound l) (n - 1 - 1) P (roundS w0 A Ax (pre ++ [x]) (pt l (.loop r) * Fr)) a' W)
    (hdone : ∀ (D : Nat) (ys : List α) (W : World), S ys → Side w0 W → Sat W (A ys * (It * (pt D (.deferred (some [])) * G))) →
      Q .normal { a with defers := { target := .collected D, args := #[] } :: a.defers } W)
    (hstop : ∀ (D : Nat) (c : Code) (ys : List α) (W : World), Sp ys → Side w0 W → Sat W (Ax c ys * (It * (pt D (.deferred (some [])) * G))) →
      c.wpIn F n P Q { a with defers := { target := .collected D, args := #[] } :: a.defers } W) :
    (Code.rangeFunc g ps assign body).wpIn F n P Q a w := by
  refine wpIn_rangeFunc ?_
  intro fn hfn
  rw [hro]
  obtain ⟨rec, hrec⟩ : ∃ rec : LoopState → Option Code → Loop, rec = fun st pe => { state := st, pending := pe, fn, tmps := a.tmps, params := ps, assign, body, defers := w.heap.size } := ⟨_, rfl⟩
  obtain ⟨W1, hW1⟩ : ∃ W1, (w.alloc (.deferred (some []))).alloc (.loop (rec .ready none)) = W1 := ⟨_, rfl⟩
  have H1 : Sat W1 (pt (w.heap.size + 1) (.loop (rec .ready none)) * (pt w.heap.size (.deferred (some [])) * (A [] * (It * G)))) := by
    have := (h0.alloc (.deferred (some []))).alloc (.loop (rec .ready none))
    rw [World.size_alloc, hW1] at this
    exact this
  have hs1 : Side w0 W1 := by rw [← hW1]; exact (hs.alloc _).alloc _
  refine ⟨w.heap.size + 1, [{ target := .collected w.heap.size, args := #[] }], W1, { target := .fn (.func gf) lb, args := #[.func (.yield (w.heap.size + 1)) #[] #[]] }, W1, gf,
    #[.func (.yield (w.heap.size + 1)) #[] #[]] ++ lb, W1, ?_, ?_, ?_, ?_, fun _ => h1, ?_⟩
  · rw [← hW1, hrec]; exact run_enterLoop_outer _ _ _ _ _
  · simp only [resolve, hg]
    simp [go_sem]
  · intro f' hf'; simp [Target.leads] at hf'; subst hf'; exact hFg
  · simp [invoke, go_sem, eg]
  · refine (hit (w.heap.size + 1) _ _ (pt w.heap.size (.deferred (some [])) * G) w0 W1 (hC _)
      (yields_of hfn (w.heap.size + 1) w.heap.size A Ax B T Sp hps hassign hbody rec hrec) hs1 (show Sat W1 (A [] * pt _ (.loop (rec .ready none)) * _) from H1.to (by ac_rfl))).mono ?_
    rintro e W2 ⟨⟨v, rfl⟩, hs2, (⟨ys, hS, H2⟩ | ⟨ys, hSp, H2⟩)⟩
    · replace H2 : Sat W2 (A ys * pt (w.heap.size + 1) (.loop (rec .ready none)) * (It * (pt w.heap.size (.deferred (some [])) * G))) := H2
      have H2l : Sat W2 (pt (w.heap.size + 1) (.loop (rec .ready none)) * (A ys * (It * (pt w.heap.size (.deferred (some [])) * G)))) := H2.to (by ac_rfl)
      have := run_endLoop (P := P) H2l.heap (by rw [hrec]; simp)
      rw [hrec] at this
      exact ⟨none, _, this, hdone _ ys _ hS (hs2.putObj _ _) (H2l.putObj _).right⟩
    · obtain ⟨c, H2⟩ := Sat.ex_star_iff.1 H2
      have H2l : Sat W2 (pt (w.heap.size + 1) (.loop (rec .done (some c))) * (Ax c ys * (It * (pt w.heap.size (.deferred (some [])) * G)))) := H2.to (by ac_rfl)
      have := run_endLoop (P := P) H2l.heap (by rw [hrec]; simp)
      rw [hrec] at this
      exact ⟨some c, _, this, hstop _ c ys _ hSp (hs2.putObj _ _) (H2l.putObj _).right⟩
theorem wpIn_range {α : Type} {g : Operand} {ps : Array Tmp} {assign body : Code} {Q : Exit → Act → World → Prop} {a : Act} {w w0 : World}
    (hro : F.round = none) (h1 : 1 ≤ n) {gf : Nat} {lb : Array Value} (hg : a.eval g = .func (.func gf) #[] lb) (hFg : F.fn gf) (eg : ∀ args w, (callFunc gf args).run P w = .ok (.enter gf args) w)
    {It : Assn} {T : α → Array Value → Assn} {S Sp : List α → Prop} (hit : Iterates F (n - 1) P gf lb It T S Sp)
    (A : List α → Assn) (Ax : Code → List α → Assn) (B : List α → α → Act → Assn) (G : Assn)
    (hps : ∀ x vs Fr W, Sat W (T x vs * Fr) → vs.size = ps.size) (hs : Side w0 w) (h0 : Sat w (A [] * (It * G)))
    (hassign : ∀ (l : Nat) (r : Loop) (pre : List α) (x : α) (vs : Array Value) (Fr : Assn) (W : World) (K : Act → World → Prop), Sp (pre ++ [x]) → Side w0 W → Sat W (A pre * (T x vs * (pt l (.loop r) * Fr))) →
      (∀ a' W', Side w0 W' → Sat W' (B pre x a' * (pt l (.loop r) * Fr)) → K a' W') →
      assign.wpIn (F.inRound l) (n - 1 - 1) P (Exit.then K (fun _ _ _ => False)) { tmps := (ps.zip vs).foldl (fun t (p, v) => t.setIfInBounds p v) a.tmps, defers := [] } W)
    (hbody : ∀ (l : Nat) (r : Loop) (pre : List α) (x : α) (a' : Act) (Fr : Assn) (W : World), Sp (pre ++ [x]) → Side w0 W → Sat W (B pre x a' * (pt l (.loop r) * Fr)) →
      body.wpIn (F.inRound l) (n - 1 - 1) P (roundS w0 A Ax (pre ++ [x]) (pt l (.loop r) * Fr)) a' W)
    (hdone : ∀ (D : Nat) (ys : List α) (W : World), S ys → Side w0 W → Sat W (A ys * (It * (pt D (.deferred (some [])) * G))) →
      Q .normal { a with defers := { target := .collected D, args := #[] } :: a.defers } W)
    (hstop : ∀ (D : Nat) (c : Code) (ys : List α) (W : World), Sp ys → Side w0 W → Sat W (Ax c ys * (It * (pt D (.deferred (some [])) * G))) →
      c.wpIn F n P Q { a with defers := { target := .collected D, args := #[] } :: a.defers } W) :
    (Code.rangeFunc g ps assign body).wpIn F n P Q a w :=
  wpIn_rangeC (C := fun _ => True) hro h1 hg hFg eg (fun l A Ax G w0 w _ => hit l A Ax G w0 w) A (fun _ => trivial) Ax B G hps hs h0 hassign hbody hdone hstop
theorem Iterates.inRound {α : Type} {gf : Nat} {lb : Array Value} {It : Assn} {T : α → Array Value → Assn} {S Sp : List α → Prop} (l : Nat)
    (h : Iterates F n P gf lb It T S Sp) : Iterates (F.inRound l) n P gf lb It T S Sp := h
theorem wpListIn_append_run {F : Fence} {n : Nat} {P : Program} {w w' : World} {ops : Array Oper} {rest : List Oper} {o : Oper} {a : Act} {Q : Exit → Act → World → Prop} {v xv v' : Value} {t ty : TypeId}
    (hrun : (Builtin.append_ #[t, t] ty #[v, xv]).run P w = .ok v' w') (s x : Operand)
    (hg : o.guard = none) (hty : o.type = ty) (hop : o.op = Op.call { callee := Callee.builtin Builtin.append, args := #[s, x], argTypes := #[t, t] })
    (hs : a.eval s = v) (hx : a.eval x = xv)
    (hK : wpListIn F n P ops Q rest (a.put o.dst v') w') : wpListIn F n P ops Q (o :: rest) a w := by
  refine wpListIn_plain hg fun K hK' => ?_
  subst hty hs hx
  unfold Oper.wpIn
  refine ⟨?_, ?_⟩
  · simp [Oper.about, hop, resolve, Target.leads, Sem.run_pure]
  · rw [Oper.semAt_plain F _ _ (by rw [hop]; intro c hc'; cases hc')]
    simp [execOp, hop, resolve, invoke, builtin, hrun, Result.andThen]
    exact hK' _ _ hK
theorem wpIn_range_t {F : Fence} {n : Nat} {P : Program} {α : Type} {g : Operand} {ps : Array Tmp} {assign body : Code} {Q : Exit → Act → World → Prop} {a : Act} {w w0 : World}
    (hro : F.round = none) (h1 : 1 ≤ n) {gf : Nat} {lb : Array Value} (hg : a.eval g = .func (.func gf) #[] lb) (hFg : F.fn gf) (eg : ∀ args w, (callFunc gf args).run P w = .ok (.enter gf args) w)
    {It : Assn} {T : α → Array Value → Assn} {S Sp : List α → Prop} (hit : Iterates F (n - 1) P gf lb It T S Sp)
    (f : α → Array Value → Array Value) (A : List α → Assn) (B : List α → α → Assn) (G : Assn)
    (hps : ∀ x vs Fr W, Sat W (T x vs * Fr) → vs.size = ps.size) (hs : Side w0 w) (h0 : Sat w (A [] * (It * G)))
    (hassign : ∀ (l : Nat) (r : Loop) (pre : List α) (x : α) (vs : Array Value) (Fr : Assn) (W : World) (K : Act → World → Prop), Sp (pre ++ [x]) → Side w0 W → Sat W (A pre * (T x vs * (pt l (.loop r) * Fr))) →
      (∀ W', Side w0 W' → Sat W' (B pre x * (pt l (.loop r) * Fr)) → K { tmps := f x a.tmps, defers := [] } W') →
      assign.wpIn (F.inRound l) (n - 1 - 1) P (Exit.then K (fun _ _ _ => False)) { tmps := (ps.zip vs).foldl (fun t (p, v) => t.setIfInBounds p v) a.tmps, defers := [] } W)
    (hbody : ∀ (l : Nat) (r : Loop) (pre : List α) (x : α) (Fr : Assn) (W : World), Sp (pre ++ [x]) → Side w0 W → Sat W (B pre x * (pt l (.loop r) * Fr)) →
      body.wpIn (F.inRound l) (n - 1 - 1) P (roundS w0 A (fun _ _ => fact False) (pre ++ [x]) (pt l (.loop r) * Fr)) { tmps := f x a.tmps, defers := [] } W)
    (hdone : ∀ (D : Nat) (ys : List α) (W : World), S ys → Side w0 W → Sat W (A ys * (It * (pt D (.deferred (some [])) * G))) →
      Q .normal { a with defers := { target := .collected D, args := #[] } :: a.defers } W) :
    (Code.rangeFunc g ps assign body).wpIn F n P Q a w := by
  refine wpIn_range hro h1 hg hFg eg hit A (fun _ _ => fact False) (fun pre x a' => fact (a' = { tmps := f x a.tmps, defers := [] }) * B pre x) G hps hs h0 ?_ ?_ hdone ?_
  · intro l r pre x vs Fr W K hsp hsd H hK
    exact hassign l r pre x vs Fr W K hsp hsd H fun W' h1 h2 => hK _ W' h1 ((Sat.fact_iff.2 ⟨rfl, h2⟩ : Sat W' (fact _ * _)).to (star_assoc _ _ _).symm)
  · intro l r pre x a' Fr W hsp hsd H
    obtain ⟨rfl, H2⟩ := Sat.fact_iff.1 (H.to (star_assoc _ _ _))
    exact hbody l r pre x Fr W hsp hsd H2
  · intro D c ys W _ _ H
    exact (Sat.fact_iff.1 H).1.elim
end Go.SL
end

/- TreeDense: the walk. -/
import Derived.Test.YtaoohjeaaccnfaaGreatNs
import Derived.Deep.DeepCutAuto
import Derived.Deep.CutBlock
import Derived.Deep.CutRange
namespace Go.Proofs.YtaoohjeaaccnfaaGreat.Fs
set_option linter.unusedVariables false
set_option linter.unusedSimpArgs false
open Go.RowKit Go.SL Go.Proofs.YtaoohjeaaccnfaaGreat.Ba
/-- A row of truths. -/
def trV (n : Nat) (T : Nat → Bool) : Array Value := ((List.range n).map fun k => Value.bool (T k)).toArray
theorem trV_get {n k : Nat} {T : Nat → Bool} (hk : k < n) : (trV n T)[k]? = some (.bool (T k)) := by
  unfold trV; simp [hk]
theorem trV_set {n k : Nat} {T : Nat → Bool} (v : Bool) : (trV n T).setIfInBounds k (.bool v) = trV n (upB T k v) := by
  unfold trV
  apply Array.ext_getElem?
  intro j
  rw [List.setIfInBounds_toArray, List.getElem?_toArray, List.getElem?_toArray, List.getElem?_set, List.getElem?_map, List.getElem?_map]
  by_cases hj : j < n
  · rw [List.getElem?_range hj]
    unfold upB
    by_cases h : k = j
    · subst h; simp [hj]
    · rw [if_neg h, Option.map_some, Option.map_some, if_neg (Ne.symm h)]
  · simp [hj]
    omega
theorem info_bool : (Tryz.prog.info? 4).map (fun i => (i.zero, i.size, i.bytes)) = some (some (.bool false), 1, 1) := by kernel_rfl
set_option maxRecDepth 100000 in
theorem make_bools (n : Nat) (hn : n ≤ 1000) (w : World) : (Instr.makeSlice 28 (.int .i64 n) (.int .i64 n)).run Tryz.prog w =
    .ok (.slice (some ⟨w.heap.size, 0, none⟩) n n) (w.alloc (.cells (trV n fun _ => false) 4 (0, 0))) := by
  obtain ⟨i, hi, hz, hs, hb⟩ := info_parts info_bool
  have := run_make (P := Tryz.prog) w 28 4 i _ Tryz.underlying28 hi hz .i64 .i64 n n (by omega) (by omega) (by rw [hb]; omega) (by omega)
  rw [this, hs]
  simp only [Int.toNat_natCast]
  congr 3
  unfold madeCells trV
  apply Array.ext_getElem?
  intro k
  simp only [Value.cells, Nat.mul_one, List.getElem?_toArray]
  by_cases hk : k < n
  · simp [hk, Nat.mod_one]
  · simp [hk]
theorem tN_any {n : Nat} {x : Fx n} {b : Nat} {L : List Ent} {w : World} {F : Assn} (h : Sat w (dS x b L * F)) : Calls Tryz.prog 13 #[spV b n] w (TI x b L ((n - 1 - needD L.length : Nat) : Int) 0 F w) := by
  obtain ⟨⟨h0, h1, h2⟩, h3⟩ := dS_open h
  refine (y_left h3).mono ?_
  rintro e w' ⟨he, d, hs⟩
  exact ⟨he, d, dS_shut h0 h1 h2 hs⟩
def TN {n : Nat} (x : Fx n) (b : Nat) (L : List Ent) (F : Assn) (w : World) (e : Ending) (w' : World) : Prop :=
  ∃ y : Nd, e = .returned (.tuple #[.agg (ints y.l), .int .i64 0]) ∧ y.dr.length = 16 ∧ y.kd = 2 ∧ y.lk = 1 ∧ y.sz = ((32 * L.length : Nat) : Int) ∧ Side w w' ∧ Sat w' (dS x b L * F)
theorem tNode_any {n : Nat} {x : Fx n} {b : Nat} {L : List Ent} {w : World} {F : Assn} (h : Sat w (dS x b L * F)) : Calls Tryz.prog 12 #[spV b n, .int .i64 1] w (TN x b L F w) := by
  obtain ⟨⟨h0, h1, h2⟩, h3⟩ := dS_open h
  refine (y_node h3 (id := 1) (tA_1 L)).mono ?_
  rintro e w' ⟨y, he, y1, y2, y3, y4, d, hs⟩
  exact ⟨y, he, y1, y2, y3, y4, d, dS_shut h0 h1 h2 hs⟩
/-- What stands about TreeDense's loops. -/
def DnW (x : Fx 40) (b sc tb : Nat) (w : World) (T : Nat → Bool) (L : List Ent) : Assn := dS x b L * (pt sc (spO b 40) * (pt tb (.cells (trV 60 T) 4 (0, 0)) * whole w))
def DnRel (x : Fx 40) (b sc tb : Nat) (w : World) (u6 u7 : Value) (wr : World) : Prop :=
  ∃ (k : Nat) (T : Nat → Bool) (L : List Ent), u7 = .int .i64 (k : Int) ∧ u6 = .int .i64 (L.length : Int) ∧ Dn T L ∧ Side w wr ∧ Sat wr (DnW x b sc tb w T L)
def DnIf (x : Fx 40) (b sc tb q : Nat) (w : World) (T : Nat → Bool) (u6 : Value) (wr : World) : Prop :=
  ∃ L : List Ent, u6 = .int .i64 (L.length : Int) ∧ Dn (upB T q (!T q)) L ∧ Side w wr ∧ Sat wr (DnW x b sc tb w T L)
def DnFin (x : Fx 40) (b sc tb : Nat) (w : World) (T : Nat → Bool) (L : List Ent) (u : Value) (wr : World) : Prop :=
  ∃ k : Nat, k ≤ 60 ∧ u = .int .i64 (k : Int) ∧ Side w wr ∧ Sat wr (DnW x b sc tb w T L)
abbrev dnQ (z : Int) : Nat := (z % 65536 % 60).toNat
set_option maxRecDepth 100000 in
set_option maxHeartbeats 4000000 in
theorem dense_any (a : Option Addr) (len cap : Nat) (zs : List Int) (w : World) (hz : IsInts w a len cap zs) :
    Calls Tryz.prog 3 #[.slice a len cap] w (LawQ w) := by
  refine callsQ fun Q HQ => ?_
  have Hz := SL.hid hz
  have hm := shown18_any w
  clear hz
  go_enter Tryz.func3, Tryz.ntmps3
  go_wp2_with fail
  refine hm.mono ?_
  rintro e w1 ⟨rfl, h1, d1⟩
  clear hm
  have hsp := SL.hid (space_any 40 (by decide) (by decide) _ w1 h1)
  go_wp2_with fail
  refine hsp.out.mono ?_
  rintro e w2 ⟨x, b, rfl, d2, h2⟩
  clear hsp h1
  have h3 := ((dS_made h2 (by decide)).alloc (.cells #[.pointer (some ⟨b, 0, none⟩), .int .i64 40] 26 (0, 0))).alloc (.cells (trV 60 fun _ => false) 4 (0, 0))
  have D := SL.hid (((d1.trans d2).alloc (.cells #[.pointer (some ⟨b, 0, none⟩), .int .i64 40] 26 (0, 0))).alloc (.cells (trV 60 fun _ => false) 4 (0, 0)))
  have hmk : (Instr.makeSlice 28 (.int .i64 60) (.int .i64 60)).run Tryz.prog (w2.alloc (.cells #[.pointer (some ⟨b, 0, none⟩), .int .i64 40] 26 (0, 0))) = .ok (.slice (some ⟨(w2.alloc (.cells #[.pointer (some ⟨b, 0, none⟩), .int .i64 40] 26 (0, 0))).heap.size, 0, none⟩) 60 60) ((w2.alloc (.cells #[.pointer (some ⟨b, 0, none⟩), .int .i64 40] 26 (0, 0))).alloc (.cells (trV 60 fun _ => false) 4 (0, 0))) := make_bools 60 (by decide) (w2.alloc (.cells #[.pointer (some ⟨b, 0, none⟩), .int .i64 40] 26 (0, 0)))
  have hk0 : (w2.alloc (.cells #[.pointer (some ⟨b, 0, none⟩), .int .i64 40] 26 (0, 0))).cell? ⟨w2.heap.size, 0, none⟩ = some (.pointer (some ⟨b, 0, none⟩)) := (h2.alloc (.cells #[.pointer (some ⟨b, 0, none⟩), .int .i64 40] 26 (0, 0))).cell 0
  rw [World.size_alloc] at h3 hmk
  have H := SL.hid (h3.to (by show pt _ _ * (pt _ (spO b 40) * _) = _; ac_rfl : _ = dS x b [] * (pt w2.heap.size (spO b 40) * (pt (w2.heap.size + 1) (.cells (trV 60 fun _ => false) 4 (0, 0)) * whole w))))
  clear h3 h2 d1 d2
  unfold spV
  go_wp2_with fail
  generalize (w2.alloc (.cells #[.pointer (some ⟨b, 0, none⟩), .int .i64 40] 26 (0, 0))).alloc (.cells (trV 60 fun _ => false) 4 (0, 0)) = w3 at *
  generalize w2.heap.size + 1 = tb at *
  generalize w2.heap.size = sc at *
  go_loopw [6, 7] (fun u6 u7 wr => DnRel x b sc tb w u6 u7 wr) (fun _ u7 _ => len - (intOf u7).toNat)
  case atStart => exact ⟨0, fun _ => false, [], rfl, rfl, Dn.nil, D.out, H.out⟩
  case round =>
    obtain ⟨k, T, L, rfl, rfl, hD, ds, hs⟩ := hrel
    clear H D hmk hk0
    have HS := SL.hid hs; have HD := SL.hid hD; have DS := SL.hid ds
    have hle := hD.le
    obtain ⟨ln, hln⟩ : ∃ m, L.length = m := ⟨_, rfl⟩
    have Hln := SL.hid hln
    rw [hln] at hle ⊢
    have hs1 : Sat wr (dS x b L * (pt sc (spO b 40) * (pt tb (.cells (trV 60 T) 4 (0, 0)) * whole w))) := hs
    have cA : wr.cell? ⟨sc, 0, none⟩ = some (.pointer (some ⟨b, 0, none⟩)) := hs1.front2.cell 0
    have cB : wr.cell? ⟨sc, 1, none⟩ = some (.int .i64 40) := hs1.front2.cell 1
    have hle' : (ln : Int) ≤ 60 := by omega
    by_cases hlt : k < len ∧ k < 200
    · obtain ⟨hl, h30⟩ := hlt
      have hl' : (k : Int) < (len : Int) := by omega
      have h30' : (k : Int) < 200 := by omega
      obtain ⟨ab, ao, rfl, hcell, hlc, hcap, x0, x1⟩ := Hz.out.cell hl
      have cx : wr.cell? ⟨ab, ao + k, none⟩ = some (.int .i64 (zs.getD k 0)) := (hs1.to (by ac_rfl : _ = (dS x b L * (pt sc (spO b 40) * pt tb (.cells (trV 60 T) 4 (0, 0)))) * whole w)).cellOld hcell
      have hcap' : (cap : Int) ≤ 9223372036854775807 := by omega
      have hlc' : (len : Int) ≤ (cap : Int) := by omega
      obtain ⟨z, hz⟩ : ∃ z, zs.getD k 0 = z := ⟨_, rfl⟩
      rw [hz] at cx x0 x1
      have hand := and16 z
      have hq0 : 0 ≤ z % 65536 % 60 ∧ z % 65536 % 60 < 60 := by omega
      have htm : (z % 65536).tmod 60 = z % 65536 % 60 := Int.tmod_eq_emod_of_nonneg (by omega)
      obtain ⟨q, hq⟩ : ∃ q : Nat, z % 65536 % 60 = (q : Int) := ⟨(z % 65536 % 60).toNat, by omega⟩
      rw [hq] at htm hq0
      have hq60 : q < 60 := by omega
      have hq60' : (q : Int) < 60 := by omega
      have ct : wr.cell? ⟨tb, q, none⟩ = some (.bool (T q)) := by rw [hs1.front3.cell q]; exact trV_get hq60
      clear hcell hz hs hs1 hD ds hln hq0 hq hlc
      have Hcap := SL.hid (And.intro hcap' hlc')
      have hnum := SL.hid (fun w => nmb_any q (by omega) w)
      obtain ⟨c, hc⟩ : ∃ c, T q = c := ⟨_, rfl⟩
      rw [hc] at ct
      have HC := SL.hid hc
      clear hc
      go_upto_if 43 with (fail)
      go_cut [6, 9, 10] from 44 to 61 (fun u6 u9 u10 wx => DnIf x b sc tb q w T u6 wx)
      case first =>
        cases c
        case true =>
          obtain ⟨i, hi, hiE⟩ := HD.out.there hq60 HC.out
          have hD2 := HD.out.rm hq60 HC.out hi
          have hrm := fun w' h => t_rmY (x := x) (b := b) (L := L) (w := w') (F := (pt sc (spO b 40) * (pt tb (.cells (trV 60 T) 4 (0, 0)) * whole w))) (nm := nmb q) (i := i) h hi
          have Hrm := SL.hid hrm; have HD2 := SL.hid hD2
          have hL1 : Hid ((rmE L i).length + 1 = ln) := by have := plc_lt hi; show (rmE L i).length + 1 = ln; rw [rmE_length, Hln.out]; have := Hln.out; omega
          clear hrm hD2 hi hiE
          go_wp2_with fail
          go_region_held3 (fun w' => w'.cell? ⟨sc, 0, none⟩ = some (.pointer (some ⟨b, 0, none⟩)) ∧ w'.cell? ⟨sc, 1, none⟩ = some (.int .i64 40)) (first | exact ⟨cA, cB⟩ | exact kA | exact kB | go_keep)
            (first | (go_at_call 10; refine (hnum.out wr.drew).mono ?_; rintro e w5 ⟨rfl, h5, d5⟩; have HS5 : Sat w5 (dS x b L * (pt sc (spO b 40) * (pt tb (.cells (trV 60 T) 4 (0, 0)) * whole w))) := h5.keepW (Sat.drew HS.out); have kA : w5.cell? ⟨sc, 0, none⟩ = some (.pointer (some ⟨b, 0, none⟩)) ∧ w5.cell? ⟨sc, 1, none⟩ = some (.int .i64 40) := ⟨HS5.front2.cell 0, HS5.front2.cell 1⟩)
                   | (go_at_call 9; refine (Hrm.out _ HS5).mono ?_; rintro e w6 ⟨rfl, d6, h6⟩; have kB : w6.cell? ⟨sc, 0, none⟩ = some (.pointer (some ⟨b, 0, none⟩)) ∧ w6.cell? ⟨sc, 1, none⟩ = some (.int .i64 40) := ⟨h6.front2.cell 0, h6.front2.cell 1⟩))
          rename_i hHeld
          have HF := SL.hid h6
          have DF := SL.hid (((DS.out.drew).trans d5).trans d6)
          clear hHeld kA kB HS5 h5 h6 d5 d6 Hrm hnum HS cA cB
          go_wp2_with fail
          go_meet
          exact ⟨rmE L i, by rw [← hL1.out]; simp, by rw [HC.out]; exact HD2.out, DF.out, HF.out⟩
        case false =>
          have hi := HD.out.gone hq60 HC.out
          have hD2 := HD.out.add hq60 HC.out
          have hrm : ∀ w', Sat w' (dS x b L * (pt sc (spO b 40) * (pt tb (.cells (trV 60 T) 4 (0, 0)) * whole w))) → Calls Tryz.prog 11 #[spV b 40, .int .i64 1, .string (str (nmb q)), .int .i64 (IntKind.i64.wrap ((q : Int) + 1))] w' (TE x b (L ++ [entK q]) 0 (pt sc (spO b 40) * (pt tb (.cells (trV 60 T) 4 (0, 0)) * whole w)) w') := fun w' h => by
            have := t_addY (x := x) (b := b) (L := L) (w := w') (F := (pt sc (spO b 40) * (pt tb (.cells (trV 60 T) 4 (0, 0)) * whole w))) (nm := nmb q) (child := q + 1) h (by omega) (by omega) (nmb_ok (by omega)) hi (by have := Hln.out; omega) (by have := Hln.out; unfold needD; split <;> omega)
            rw [show IntKind.i64.wrap ((q : Int) + 1) = ((q + 1 : Nat) : Int) by rw [IntKind.wrap_i64]; omega]
            exact this
          have Hrm := SL.hid hrm; have HD2 := SL.hid hD2
          have hL1 : Hid ((L ++ [entK q]).length = ln + 1) := by show _ = _; rw [List.length_append, List.length_singleton, Hln.out]
          clear hrm hD2 hi
          go_wp2_with fail
          go_region_held3 (fun w' => w'.cell? ⟨sc, 0, none⟩ = some (.pointer (some ⟨b, 0, none⟩)) ∧ w'.cell? ⟨sc, 1, none⟩ = some (.int .i64 40)) (first | exact ⟨cA, cB⟩ | exact kA | exact kB | go_keep)
            (first | (go_at_call 10; refine (hnum.out wr.drew).mono ?_; rintro e w5 ⟨rfl, h5, d5⟩; have HS5 : Sat w5 (dS x b L * (pt sc (spO b 40) * (pt tb (.cells (trV 60 T) 4 (0, 0)) * whole w))) := h5.keepW (Sat.drew HS.out); have kA : w5.cell? ⟨sc, 0, none⟩ = some (.pointer (some ⟨b, 0, none⟩)) ∧ w5.cell? ⟨sc, 1, none⟩ = some (.int .i64 40) := ⟨HS5.front2.cell 0, HS5.front2.cell 1⟩)
                   | (go_at_call 11; refine (Hrm.out _ HS5).mono ?_; rintro e w6 ⟨rfl, d6, h6⟩; have kB : w6.cell? ⟨sc, 0, none⟩ = some (.pointer (some ⟨b, 0, none⟩)) ∧ w6.cell? ⟨sc, 1, none⟩ = some (.int .i64 40) := ⟨h6.front2.cell 0, h6.front2.cell 1⟩))
          rename_i hHeld
          have HF := SL.hid h6
          have DF := SL.hid (((DS.out.drew).trans d5).trans d6)
          clear hHeld kA kB HS5 h5 h6 d5 d6 Hrm hnum HS cA cB
          go_wp2_with fail
          go_meet
          exact ⟨L ++ [entK q], by rw [hL1.out]; simp, by rw [HC.out]; exact HD2.out, DF.out, HF.out⟩
      case rest =>
        obtain ⟨L2, rfl, hD2, ds2, hs2⟩ := hcut
        clear hnum HS cA cB ct HD DS
        have hle2 := hD2.le
        obtain ⟨m2, hm2⟩ : ∃ m, L2.length = m := ⟨_, rfl⟩
        have Hm2 := SL.hid hm2
        rw [hm2] at hle2 ⊢
        rw [HC.out] at hD2
        have hs3 : Sat wc (dS x b L2 * (pt sc (spO b 40) * (pt tb (.cells (trV 60 T) 4 (0, 0)) * whole w))) := hs2
        have ct : wc.cell? ⟨tb, q, none⟩ = some (.bool c) := by rw [hs3.front3.cell q, trV_get hq60, HC.out]
        have f2 := hs3.front3.frozen q
        have hs4 := hs3.front3.setCell q (.bool !c)
        rw [trV_set] at hs4
        have hs5 : Sat (wc.setCell ⟨tb, q, none⟩ (.bool !c)) (dS x b L2 * (pt sc (spO b 40) * (pt tb (.cells (trV 60 (upB T q !c)) 4 (0, 0)) * whole w))) := hs4.to (by ac_rfl)
        have DS5 := SL.hid (ds2.setCell ⟨tb, q, none⟩ (.bool !c))
        have cA : (wc.setCell ⟨tb, q, none⟩ (.bool !c)).cell? ⟨sc, 0, none⟩ = some (.pointer (some ⟨b, 0, none⟩)) := hs5.front2.cell 0
        have cB : (wc.setCell ⟨tb, q, none⟩ (.bool !c)).cell? ⟨sc, 1, none⟩ = some (.int .i64 40) := hs5.front2.cell 1
        have Hnd := SL.hid (tNode_any hs5)
        have HD2 := SL.hid hD2
        have hle2' : (m2 : Int) ≤ 60 := by omega
        clear hs2 hs3 hs4 hs5 hD2 hm2 ds2
        go_upto_region 21 with (fail)
        go_wp2_with fail
        refine Hnd.out.mono ?_
        generalize (wc.setCell ⟨tb, q, none⟩ (.bool !c)) = w5 at *
        rintro e w6 ⟨y, rfl, y16, ykd, ylk, ysz, d6, h6⟩
        have hX : (ints y.l).size = 20 := by rw [size_ints, Nd.cells y16]
        have hE := h6.alloc (.cells #[.int .i64 0, .int .i64 0, .int .i64 0, .int .i64 0, .int .i64 0, .int .i64 0, .int .i64 0, .int .i64 0, .int .i64 0, .int .i64 0, .int .i64 0, .int .i64 0, .int .i64 0, .int .i64 0, .int .i64 0, .int .i64 0, .int .i64 0, .int .i64 0, .int .i64 0, .int .i64 0] 35 (0, 0))
        have Hz2 := SL.hid hE.heap
        have hE2 := hE.setRow (cs' := ints y.l)
        have D6 := SL.hid (((DS5.out.trans d6).alloc (.cells #[.int .i64 0, .int .i64 0, .int .i64 0, .int .i64 0, .int .i64 0, .int .i64 0, .int .i64 0, .int .i64 0, .int .i64 0, .int .i64 0, .int .i64 0, .int .i64 0, .int .i64 0, .int .i64 0, .int .i64 0, .int .i64 0, .int .i64 0, .int .i64 0, .int .i64 0, .int .i64 0] 35 (0, 0))).setRow w6.heap.size (ints y.l))
        have Hone : Hid ((ints y.l).all (·.oneCell') = true) := by simp [RowKit.Hid, ints, Value.oneCell']
        have Hinf : Hid ((Tryz.prog.info? 35).map (·.size) = some (ints y.l).size) := by show _ = _; rw [hX]; exact info_node0
        have HX := SL.hid hX
        have n2 : ((w6.alloc (.cells #[.int .i64 0, .int .i64 0, .int .i64 0, .int .i64 0, .int .i64 0, .int .i64 0, .int .i64 0, .int .i64 0, .int .i64 0, .int .i64 0, .int .i64 0, .int .i64 0, .int .i64 0, .int .i64 0, .int .i64 0, .int .i64 0, .int .i64 0, .int .i64 0, .int .i64 0, .int .i64 0] 35 (0, 0))).setRow w6.heap.size (ints y.l)).cell? ⟨w6.heap.size, 2, none⟩ = some (.int .i64 (32 * (m2 : Int))) := by rw [show 32 * (m2 : Int) = ((32 * L2.length : Nat) : Int) by rw [Hm2.out]; omega, ← ysz]; exact hE2.cell 2
        have cA6 : ((w6.alloc (.cells #[.int .i64 0, .int .i64 0, .int .i64 0, .int .i64 0, .int .i64 0, .int .i64 0, .int .i64 0, .int .i64 0, .int .i64 0, .int .i64 0, .int .i64 0, .int .i64 0, .int .i64 0, .int .i64 0, .int .i64 0, .int .i64 0, .int .i64 0, .int .i64 0, .int .i64 0, .int .i64 0] 35 (0, 0))).setRow w6.heap.size (ints y.l)).cell? ⟨sc, 0, none⟩ = some (.pointer (some ⟨b, 0, none⟩)) := hE2.front3.cell 0
        have cB6 : ((w6.alloc (.cells #[.int .i64 0, .int .i64 0, .int .i64 0, .int .i64 0, .int .i64 0, .int .i64 0, .int .i64 0, .int .i64 0, .int .i64 0, .int .i64 0, .int .i64 0, .int .i64 0, .int .i64 0, .int .i64 0, .int .i64 0, .int .i64 0, .int .i64 0, .int .i64 0, .int .i64 0, .int .i64 0] 35 (0, 0))).setRow w6.heap.size (ints y.l)).cell? ⟨sc, 1, none⟩ = some (.int .i64 40) := hE2.front3.cell 1
        have hlf := tN_any (hE2.to (by ac_rfl : _ = dS x b L2 * (pt sc (spO b 40) * (pt w6.heap.size (.cells (ints y.l) 35 (0, 0)) * (pt tb (.cells (trV 60 (upB T q !c)) 4 (0, 0)) * whole w)))))
        rw [show ((40 - 1 - needD L2.length : Nat) : Int) = 38 - ((m2 : Int) + 14) / 15 by rw [Hm2.out]; unfold needD; split <;> omega] at hlf
        have Hlf := SL.hid hlf
        have YSZ := SL.hid ysz
        clear hE hE2 h6 d6 DS5 hlf y16 ykd ylk ysz cA cB hX
        go_wp2_with (refine wpList_store_row (by exact rfl) 35 (.tmp 11) (.tmp 73) (by exact rfl) w6.heap.size (ints y.l) (by exact rfl) (by exact rfl) 35 _ (by with_reducible exact Hz2.out) Hinf.out (by rw [HX.out]; rfl) Hone.out ?_)
        generalize ((w6.alloc (.cells #[.int .i64 0, .int .i64 0, .int .i64 0, .int .i64 0, .int .i64 0, .int .i64 0, .int .i64 0, .int .i64 0, .int .i64 0, .int .i64 0, .int .i64 0, .int .i64 0, .int .i64 0, .int .i64 0, .int .i64 0, .int .i64 0, .int .i64 0, .int .i64 0, .int .i64 0, .int .i64 0] 35 (0, 0))).setRow w6.heap.size (ints y.l)) = w7 at *
        generalize w6.heap.size = nb at *
        refine Hlf.out.mono ?_
        rintro e w8 ⟨rfl, d8, h8⟩
        have h8a : Sat w8 (DnW x b sc tb w (upB T q !c) L2) := (h8.to (by ac_rfl : _ = pt nb (.cells (ints y.l) 35 (0, 0)) * (dS x b L2 * (pt sc (spO b 40) * (pt tb (.cells (trV 60 (upB T q !c)) 4 (0, 0)) * whole w))))).right
        have n8 : w8.cell? ⟨nb, 2, none⟩ = some (.int .i64 (32 * (m2 : Int))) := by rw [show 32 * (m2 : Int) = ((32 * L2.length : Nat) : Int) by rw [Hm2.out]; omega, ← YSZ.out]; exact h8.front3.cell 2
        have H8 := SL.hid h8a
        have D8 := SL.hid (D6.out.trans d8)
        clear h8 h8a d8 Hlf D6 n2 cA6 cB6 Hz2 Hinf HX Hone YSZ
        go_wp2_with fail
        all_goals refine ⟨⟨k + 1, upB T q !c, L2, by simp, by rw [Hm2.out], HD2.out, D8.out, H8.out⟩, ?_⟩
        all_goals (simp [intOf]; omega)
    · have hout : (¬ (k : Int) < (len : Int)) ∨ ((k : Int) < (len : Int) ∧ ¬ (k : Int) < 200) := by omega
      have hs2 : Sat wr (DnW x b sc tb w T L) := hs
      clear hlt hs hs1 cA cB hD ds hln
      rcases hout with ho | ⟨ho1, ho2⟩
      all_goals
        go_wp2_with fail
        go_loopw [15] (fun u wr => DnFin x b sc tb w T L u wr) (fun u _ => 60 - (intOf u).toNat)
        case atStart => exact ⟨0, by decide, rfl, DS.out, HS.out⟩
        case round =>
          obtain ⟨j, hj, rfl, ds3, hs3⟩ := hrel
          clear hs2
          have hs4 : Sat wr (dS x b L * (pt sc (spO b 40) * (pt tb (.cells (trV 60 T) 4 (0, 0)) * whole w))) := hs3
          have cA : wr.cell? ⟨sc, 0, none⟩ = some (.pointer (some ⟨b, 0, none⟩)) := hs4.front2.cell 0
          have cB : wr.cell? ⟨sc, 1, none⟩ = some (.int .i64 40) := hs4.front2.cell 1
          have HS4 := SL.hid hs4
          clear hs3 hs4
          by_cases hj60 : j < 60
          · have hj60' : (j : Int) < 60 := by omega
            have hnum := SL.hid (fun w => nmb_any j (by omega) w)
            obtain ⟨c, hc⟩ : ∃ c, T j = c := ⟨_, rfl⟩
            have HC := SL.hid hc
            clear hc
            cases c
            case true =>
              obtain ⟨i, hi, hiE⟩ := HD.out.there hj60 HC.out
              have eNd : (((entK j).nd : Nat) : Int) = (j : Int) + 1 := rfl
              have hfd := fun w' h => t_findY (x := x) (b := b) (L := L) (w := w') (F := (pt sc (spO b 40) * (pt tb (.cells (trV 60 T) 4 (0, 0)) * whole w))) (nm := nmb j) (i := i) (E := entK j) h hi hiE
              simp only [eNd] at hfd
              have Hfd := SL.hid hfd
              clear hfd hi hiE eNd
              go_wp2_with fail
              go_region_held3 (fun w' => w'.cell? ⟨sc, 0, none⟩ = some (.pointer (some ⟨b, 0, none⟩)) ∧ w'.cell? ⟨sc, 1, none⟩ = some (.int .i64 40)) (first | exact ⟨cA, cB⟩ | exact kA | exact kB | go_keep)
                (first | (go_at_call 10; refine (hnum.out wr.drew).mono ?_; rintro e w5 ⟨rfl, h5, d5⟩; have HS5 : Sat w5 (dS x b L * (pt sc (spO b 40) * (pt tb (.cells (trV 60 T) 4 (0, 0)) * whole w))) := h5.keepW (Sat.drew HS4.out); have kA : w5.cell? ⟨sc, 0, none⟩ = some (.pointer (some ⟨b, 0, none⟩)) ∧ w5.cell? ⟨sc, 1, none⟩ = some (.int .i64 40) := ⟨HS5.front2.cell 0, HS5.front2.cell 1⟩)
                       | (go_at_call 14; refine (Hfd.out _ HS5).mono ?_; rintro e w6 ⟨rfl, d6, h6⟩; have kB : w6.cell? ⟨sc, 0, none⟩ = some (.pointer (some ⟨b, 0, none⟩)) ∧ w6.cell? ⟨sc, 1, none⟩ = some (.int .i64 40) := ⟨h6.front2.cell 0, h6.front2.cell 1⟩))
              rename_i hHeld
              have HF := SL.hid h6
              have DF := SL.hid (((ds3.drew).trans d5).trans d6)
              have ct6 : w6.cell? ⟨tb, j, none⟩ = some (.bool true) := by rw [h6.front3.cell j, trV_get hj60, HC.out]
              clear hHeld kA kB HS5 h5 h6 d5 d6 Hfd hnum HS4 cA cB
              go_wp2_with fail
              all_goals refine ⟨⟨j + 1, by omega, by simp, DF.out, HF.out⟩, ?_⟩
              all_goals (simp [intOf]; omega)
            case false =>
              have hi := HD.out.gone hj60 HC.out
              have hfd := fun w' h => t_findN (x := x) (b := b) (L := L) (w := w') (F := (pt sc (spO b 40) * (pt tb (.cells (trV 60 T) 4 (0, 0)) * whole w))) (nm := nmb j) h hi
              have Hfd := SL.hid hfd
              clear hfd hi
              go_wp2_with fail
              go_region_held3 (fun w' => w'.cell? ⟨sc, 0, none⟩ = some (.pointer (some ⟨b, 0, none⟩)) ∧ w'.cell? ⟨sc, 1, none⟩ = some (.int .i64 40)) (first | exact ⟨cA, cB⟩ | exact kA | exact kB | go_keep)
                (first | (go_at_call 10; refine (hnum.out wr.drew).mono ?_; rintro e w5 ⟨rfl, h5, d5⟩; have HS5 : Sat w5 (dS x b L * (pt sc (spO b 40) * (pt tb (.cells (trV 60 T) 4 (0, 0)) * whole w))) := h5.keepW (Sat.drew HS4.out); have kA : w5.cell? ⟨sc, 0, none⟩ = some (.pointer (some ⟨b, 0, none⟩)) ∧ w5.cell? ⟨sc, 1, none⟩ = some (.int .i64 40) := ⟨HS5.front2.cell 0, HS5.front2.cell 1⟩)
                       | (go_at_call 14; refine (Hfd.out _ HS5).mono ?_; rintro e w6 ⟨rfl, d6, h6⟩; have kB : w6.cell? ⟨sc, 0, none⟩ = some (.pointer (some ⟨b, 0, none⟩)) ∧ w6.cell? ⟨sc, 1, none⟩ = some (.int .i64 40) := ⟨h6.front2.cell 0, h6.front2.cell 1⟩))
              rename_i hHeld
              have HF := SL.hid h6
              have DF := SL.hid (((ds3.drew).trans d5).trans d6)
              have ct6 : w6.cell? ⟨tb, j, none⟩ = some (.bool false) := by rw [h6.front3.cell j, trV_get hj60, HC.out]
              clear hHeld kA kB HS5 h5 h6 d5 d6 Hfd hnum HS4 cA cB
              go_wp2_with fail
              all_goals refine ⟨⟨j + 1, by omega, by simp, DF.out, HF.out⟩, ?_⟩
              all_goals (simp [intOf]; omega)
          · obtain rfl : j = 60 := by omega
            clear hj hj60
            go_wp2_with fail
            exact HQ.out _ _ ⟨by simp, (HS4.out.to (by ac_rfl : _ = (dS x b L * (pt sc (spO b 40) * pt tb (.cells (trV 60 T) 4 (0, 0)))) * whole w)).right, ds3⟩
end Go.Proofs.YtaoohjeaaccnfaaGreat.Fs

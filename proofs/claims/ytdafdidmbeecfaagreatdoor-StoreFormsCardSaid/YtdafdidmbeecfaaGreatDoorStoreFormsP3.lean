/- Steps towards the statement StoreForms. -/
import Derived.Test.YtdafdidmbeecfaaGreatDoorStoreFormsP2
import Derived.Recover
import Derived.Lib.SlBytesConst
import Derived.Lib.IndexLaws
import Derived.Laws.Rows
import Derived.Laws.Tables
import Derived.Test.YtdafdidmbeecfaaGreatDoorRows
import Derived.Deep.LoopGhost
import Derived.Deep.RegionHeld3
import Derived.Laws.CopyRow
section
namespace Go.SL
set_option linter.unusedVariables false
set_option linter.unusedSimpArgs false
open Go.RowKit
theorem Half.old {w w' : World} {P : Assn} (h : Half w) (s : Sat w' (P * whole w)) : Half w' := fun k hk => s.cellOld (h k hk)
theorem Half.old1 {w w' : World} (h : Half w) (s : Sat w' (whole w)) : Half w' := h.old (s.to (emp_star _).symm)
def magicL : List UInt8 := [72, 65, 82, 82, 79, 87, 32, 49]
def superB (n P : Nat) : List UInt8 := padTo 508 (magicL ++ leN n 4 ++ leN P 4)
def superE (n P : Nat) : List UInt8 := superB n P ++ leN (crcF (superB n P)) 4
theorem superB_length (n P : Nat) : (superB n P).length = 508 := padTo_length _ _
theorem superE_length (n P : Nat) : (superE n P).length = 512 := by unfold superE; rw [List.length_append, superB_length, leN_length]
end Go.SL
namespace Go.Proofs.YtdafdidmbeecfaaGreatDoor.Su
set_option linter.unusedVariables false
set_option linter.unusedSimpArgs false
open Go.RowKit Go.SL Go.Proofs.YtdafdidmbeecfaaGreatDoor.Ba Go.Proofs.YtdafdidmbeecfaaGreatDoor.Fs
theorem rd_rowU {T : TypeId} {w : World} {g : Nat} {l : List UInt8} {c : Nat} {fr : Nat × Nat} (h : w.heap[g]? = some (.cells (u8s l) T fr)) : Rd w (.slice (some ⟨g, 0, none⟩) l.length c) l := by
  refine ⟨by simp, .inr ⟨_, _, rfl, ?_⟩⟩
  have := At_of_take (n := l.length) h
  rwa [show (u8s l).toList.take l.length = l.map u8 from by simp [u8s, List.take_of_length_le]] at this
set_option maxRecDepth 100000 in
set_option maxHeartbeats 2000000 in
theorem encodeG_any (w : World) (n P : Nat) (hg : geoOk n P = true) (hh : Half w) : Calls Tryz.prog 50 #[geV n P] w (BsQ (superE n P) w) := by
  have hG := geoOk_iff.1 hg
  have h1 := (Sat.whole w).alloc (.cells #[.int .i64 (n : Int), .int .i64 (P : Int)] 35 (0, 0))
  have d1 := (Side.refl w).alloc (.cells #[.int .i64 (n : Int), .int .i64 (P : Int)] 35 (0, 0))
  unfold geV
  go_enter Tryz.func50, Tryz.ntmps50
  go_wp2_with fail
  generalize w.alloc (.cells #[.int .i64 (n : Int), .int .i64 (P : Int)] 35 (0, 0)) = w1 at h1 d1 ⊢
  generalize w.heap.size = b at h1 ⊢
  have hR := gright_any w1 n P
  unfold geV at hR
  (with_reducible refine hR.mono ?_)
  rintro e w2 ⟨rfl, h2, d2⟩
  rw [if_pos hg]
  have H2 := h2.keepW h1
  have D2 := d1.trans d2
  clear hR h2 d2 h1 d1
  have c0 : w2.cell? ⟨b, 0, none⟩ = some (.int .i64 (n : Int)) := H2.cell 0
  obtain ⟨C, hC⟩ : ∃ C : Array Value, C = #[.int .u8 72, .int .u8 65, .int .u8 82, .int .u8 82, .int .u8 79, .int .u8 87, .int .u8 32, .int .u8 49] := ⟨_, rfl⟩
  have h3 := H2.alloc (.cells C 5 (8, 9))
  have d3 := D2.alloc (.cells C 5 (8, 9))
  have hcv : (convert 22 22 (.slice (some ⟨w2.heap.size, 0, none⟩) 8 8)).run Tryz.prog (w2.alloc (.cells C 5 (0, 0))) = .ok (.slice (some ⟨w2.heap.size, 0, none⟩) 8 8) (w2.alloc (.cells C 5 (8, 9))) := by
    have := Go.Lib.run_convert_bytes_const (P := Tryz.prog) w2 22 5 C 8 8 Tryz.underlying22 Tryz.underlying5
    have e : C.size = 8 := by rw [hC]; rfl
    rw [e] at this
    exact this
  have c0' : (w2.alloc (.cells C 5 (8, 9))).cell? ⟨b, 0, none⟩ = some (.int .i64 (n : Int)) := h3.right.cell 0
  have hw1 : IntKind.u64.wrap (n : Int) = (n : Int) := by rw [IntKind.wrap_u64]; omega
  have hw2 : IntKind.u64.wrap (P : Int) = (P : Int) := by rw [IntKind.wrap_u64]; omega
  rw [hC] at hcv c0' h3 d3
  clear hg c0
  go_wp2_with fail
  clear c0' hcv
  generalize w2.alloc (.cells #[.int .u8 72, .int .u8 65, .int .u8 82, .int .u8 82, .int .u8 79, .int .u8 87, .int .u8 32, .int .u8 49] 5 (8, 9)) = w3 at h3 d3 ⊢
  generalize w2.heap.size = mb at h3 ⊢
  have hrm : Rd w3 (.slice (some ⟨mb, 0, none⟩) 8 8) magicL := rd_rowU (c := 8) (l := magicL) h3.heap
  have hp1 : Calls Tryz.prog 74 #[.slice (some ⟨mb, 0, none⟩) 8 8, .int .i64 4, .int .u64 (n : Int)] w3 (BsQ (magicL ++ leN n 4) w3) := put_any w3 _ magicL 4 (n : Int) hrm (by decide) (by decide) (by omega) (by omega)
  (with_reducible refine hp1.mono ?_)
  rintro e w4 ⟨v4, rfl, h4, d4⟩
  obtain ⟨l4, hl4⟩ : ∃ l, l = magicL ++ leN n 4 := ⟨_, rfl⟩
  have hl4n : l4.length = 12 := by rw [hl4, List.length_append, leN_length]; rfl
  rw [← hl4] at h4
  have H4 := h4.under h3.right
  have D4 := d3.trans d4
  have hp2 : Calls Tryz.prog 74 #[v4, .int .i64 4, .int .u64 (P : Int)] w4 (BsQ (l4 ++ leN P 4) w4) := put_any w4 v4 l4 4 (P : Int) h4.bsRd (by omega) (by decide) (by omega) (by omega)
  have c1 : w4.cell? ⟨b, 1, none⟩ = some (.int .i64 (P : Int)) := H4.front2.cell 1
  have hl4h := SL.hid hl4n; have Hl4 := SL.hid hl4
  clear hp1 h4 d4 h3 d3 hrm hl4n hl4 D2
  go_wp2_with fail
  (with_reducible refine hp2.mono ?_)
  rintro e w5 ⟨v5, rfl, h5, d5⟩
  obtain ⟨l5, hl5⟩ : ∃ l, l = l4 ++ leN P 4 := ⟨_, rfl⟩
  rw [← hl5] at h5
  have H5 := h5.under H4.right
  have D5 := D4.trans d5
  have hp3 : Calls Tryz.prog 75 #[v5, .int .i64 508] w5 (BsQ (padTo 508 l5) w5) := field_any w5 v5 l5 h5.bsRd 508 (by omega)
  have Hl5 := SL.hid hl5
  clear hp2 h5 d5 H4 D4 c1 hl5
  go_wp2_with fail
  (with_reducible refine hp3.mono ?_)
  rintro e w6 ⟨v6, rfl, h6, d6⟩
  have el6 : padTo 508 l5 = superB n P := by rw [Hl5.out, Hl4.out]; rfl
  rw [el6] at h6
  have H6 := h6.under H5.right
  have D6 := D5.trans d6
  have hhalf : Half w6 := hh.old (H6.to (by ac_rfl : _ = (bs 5 v6 (superB n P) * pt b (.cells #[.int .i64 (n : Int), .int .i64 (P : Int)] 35 (0, 0))) * whole w))
  obtain ⟨lb, hlb⟩ : ∃ l, l = superB n P := ⟨_, rfl⟩
  have hlbn : lb.length = 508 := by rw [hlb]; exact superB_length n P
  rw [← hlb] at H6
  have hs := sum_any w6 v6 lb H6.bsRd (by omega) hhalf
  have Hlb := SL.hid hlb; have Hlbn := SL.hid hlbn
  clear hp3 h6 d6 H5 D5 el6 hhalf hlb hlbn
  go_wp2_with fail
  (with_reducible refine hs.mono ?_)
  rintro e w7 ⟨rfl, rfl⟩
  obtain ⟨c, hc⟩ : ∃ c, c = crcF lb := ⟨_, rfl⟩
  obtain ⟨c0, c1⟩ := crcF_range lb
  rw [← hc] at c0 c1 ⊢
  have hw3 : IntKind.u64.wrap c = c := by rw [IntKind.wrap_u64]; omega
  have hp4 : Calls Tryz.prog 74 #[v6, .int .i64 4, .int .u64 c] w6 (BsQ (lb ++ leN c 4) w6) := put_any w6 v6 lb 4 c H6.bsRd (by rw [Hlbn.out]; decide) (by decide) (by omega) (by omega)
  have Hc := SL.hid hc
  clear hs hc
  go_wp2_with fail
  (with_reducible refine hp4.mono ?_)
  rintro e w8 ⟨v8, rfl, h8, d8⟩
  have H8 := h8.under H6.right.right
  have D8 := D6.trans d8
  have e8 : lb ++ leN c 4 = superE n P := by rw [Hc.out, Hlb.out]; rfl
  rw [e8] at H8
  clear hp4 h8 d8 H6 D6 e8 Hlb Hlbn hw3
  go_wp2_with fail
  go_ret
  exact ⟨_, rfl, H8, D8⟩
end Go.Proofs.YtdafdidmbeecfaaGreatDoor.Su
end
section
namespace Go.Proofs.YtdafdidmbeecfaaGreatDoor.Su
set_option linter.unusedVariables false
set_option linter.unusedSimpArgs false
open Go.RowKit Go.SL Go.Proofs.YtdafdidmbeecfaaGreatDoor.Ba Go.Proofs.YtdafdidmbeecfaaGreatDoor.Fs
def superD (l : List UInt8) : Option (Int × Int) :=
  if geoOk (leV (l.drop 8) 4) (leV (l.drop 12) 4) = true ∧ superE (leV (l.drop 8) 4).toNat (leV (l.drop 12) 4).toNat = l then some (leV (l.drop 8) 4, leV (l.drop 12) 4) else none
theorem info_geo (X : Array Value) (hX : X.size = 2) : (Tryz.prog.info? 35).map (·.size) = some X.size := by rw [hX]; kernel_rfl
def erP (c : Int) : List PanicEntry := [{ v := .iface 25 (.int .i64 c), recovered := false }]
theorem smust_yes (w : World) : Calls Tryz.prog 109 #[.bool true] w fun e w' => e = .returned (.tuple #[]) ∧ w = w' := by
  go_enter Tryz.func109, Tryz.ntmps109
  go_wp2
  go_end0
  exact ⟨rfl, rfl⟩
theorem smust_no (w : World) : Calls Tryz.prog 109 #[.bool false] w fun e w' => e = .panicked (erP 4) ∧ w = w' := by
  go_enter Tryz.func109, Tryz.ntmps109
  go_wp2
  exact ⟨rfl, rfl, rfl⟩
theorem run_textU (w : World) (v : Value) (l : List UInt8) (h : Rd w v l) : (convert 22 9 v).run Tryz.prog w = .ok (.string (str l)) w := by
  have hfold : ∀ (l : List UInt8) (s : ByteArray), (l.map fun x => (x.toNat : Int)).foldl (fun r n => r.push (UInt8.ofNat n.toNat)) s = ⟨s.data ++ l.toArray⟩ := by
    intro l
    induction l with
    | nil => intro s; simp
    | cons a l ih => intro s; simp only [List.map_cons, List.foldl_cons, ih]; simp [ByteArray.push]
  obtain ⟨_, hr⟩ := h
  rcases hr with ⟨rfl, h0⟩ | ⟨a, c, rfl, ha⟩
  · have : l = [] := List.eq_nil_of_length_eq_zero h0
    subst this
    rw [run_convert_bytes_string w _ _ 5 none 0 0 Tryz.underlying22 Tryz.underlying5 Tryz.underlying9]
    rfl
  · rw [run_convert_bytes_string w _ _ 5 (some a) _ c Tryz.underlying22 Tryz.underlying5 Tryz.underlying9]
    have hl := run_loadCells_list (P := Tryz.prog) (w := w) a (l.map SL.u8) ha
    rw [List.length_map] at hl
    have := run_bytesToString (P := Tryz.prog) w a l.length c (l.map fun x => (x.toNat : Int)) (by
      rw [hl]
      simp [SL.u8, Function.comp_def])
    rw [this, hfold]
    simp [str]
theorem fine_any (w : World) (r g cap : Nat) (cur : Array Value) (L : List UInt8) (o : Nat) (F : Assn) (h : Sat w (readerA r g cap cur L o * F)) :
    Calls Tryz.prog 112 #[ptV r] w (Tells (.bool true) w) := by
  obtain ⟨x, c, _, _, h1⟩ := reader_open h
  have c1 : w.cell? ⟨r, 1, none⟩ = some (.bool false) := h1.cell 1
  have d1 := (Sat.whole w)
  clear h h1
  go_enter Tryz.func112, Tryz.ntmps112
  go_wp2
  go_ret
  exact ⟨rfl, d1, Side.refl _⟩
theorem str_beqU (a b : List UInt8) : ((str a).toList == (str b).toList) = decide (a = b) := by
  rw [Lib.toList_data, Lib.toList_data, Bool.eq_iff_iff, beq_iff_eq, decide_eq_true_iff]
  exact Iff.rfl
def EqBQ (a b : List UInt8) (w : World) (e : Ending) (w' : World) : Prop := e = .returned (.bool (decide (a = b))) ∧ w = w'
theorem equalB_any (w : World) (v u : Value) (a b : List UInt8) (hv : Rd w v a) (hu : Rd w u b) : Calls Tryz.prog 106 #[v, u] w (EqBQ a b w) := by
  have c1 : ∀ w', w' = w → (convert 22 9 v).run Tryz.prog w' = .ok (.string (str a)) w' := fun w' e => by subst e; exact run_textU _ v a hv
  have c2 : ∀ w', w' = w → (convert 22 9 u).run Tryz.prog w' = .ok (.string (str b)) w' := fun w' e => by subst e; exact run_textU _ u b hu
  have k1 := c1 w rfl
  have k2 := c2 w rfl
  clear c1 c2 hv hu
  go_enter Tryz.func106, Tryz.ntmps106
  go_wp2_with fail
  go_ret
  refine ⟨?_, rfl⟩
  show Ending.returned (.bool ((str a).toList == (str b).toList)) = _
  rw [str_beqU]
def BytesRQ (r g cap : Nat) (cur : Array Value) (L : List UInt8) (o n : Nat) (w : World) (F : Assn) (e : Ending) (w' : World) : Prop :=
  ∃ v, e = .returned v ∧ Sat w' (bs 5 v ((L.drop o).take n) * (readerA r g cap cur L (o + n) * F)) ∧ Side w w'
set_option maxRecDepth 100000 in
set_option maxHeartbeats 2000000 in
theorem bytesPU_any (w : World) (r g cap : Nat) (cur : Array Value) (L : List UInt8) (o n : Nat) (F : Assn) (h : Sat w (readerA r g cap cur L o * F)) (ho : o < L.length) (hn : o + n ≤ L.length) (hl : L.length ≤ 1000000) :
    Calls Tryz.prog 110 #[ptV r, .int .i64 (n : Int)] w (BytesRQ r g cap cur L o n w F) := by
  have hnx := next_any w r g cap cur L o n F h ho hn hl
  have hm : (n : Int) ≤ 1000000 := by omega
  clear h
  go_enter Tryz.func110, Tryz.ntmps110
  go_wp2_with fail
  (with_reducible refine hnx.mono ?_)
  rintro e w2 ⟨c, rfl, h2, d2⟩
  have hlen : ((L.drop o).take n).length = n := by rw [List.length_take, List.length_drop]; omega
  have hrd := reader_rd h2 o n c (by omega)
  have hN : Sat w2 (bs 5 (.slice none 0 0) [] * (readerA r g cap cur L (o + n) * F)) := h2.slNil _ _
  obtain ⟨v', w3, hrun, h3, d3, a3, c3, rfl⟩ := append_bytes hN hrd (by simp) (by omega)
  simp only [List.length_nil, Nat.zero_add, hlen] at hrun h3
  have Hrun := SL.hid hrun
  rw [List.nil_append] at h3
  clear hnx hrun h2 hrd hlen hN
  go_wp2_with (at_builtin; refine wpList_append_run Hrun.out _ _ rfl rfl rfl rfl rfl ?_)
  go_ret
  exact ⟨_, rfl, h3, d2.trans d3⟩
def ToldQ (l : List UInt8) (w : World) (e : Ending) (w' : World) : Prop := (∀ n P, superD l = some (n, P) → e = .returned (geV n P)) ∧ (superD l = none → e = .panicked (erP 4)) ∧ Sat w' (whole w) ∧ Side w w'
theorem superD_none {l : List UInt8} (h : superD l = none) {w w' : World} (h1 : Sat w' (whole w)) (h2 : Side w w') : ToldQ l w (.panicked (erP 4)) w' :=
  ⟨fun n P e => (by rw [h] at e; cases e), fun _ => rfl, h1, h2⟩
theorem superD_some {l : List UInt8} {n P : Int} (h : superD l = some (n, P)) {w w' : World} (h1 : Sat w' (whole w)) (h2 : Side w w') : ToldQ l w (.returned (geV n P)) w' :=
  ⟨fun m Q e => (by rw [h] at e; injection e with e; injection e with e1 e2; rw [e1, e2]), fun e => (by rw [h] at e; cases e), h1, h2⟩
theorem leV4_range (l : List UInt8) : 0 ≤ leV l 4 ∧ leV l 4 < 4294967296 := leV_range l 4
theorem superE_eq (n P : Nat) : ∃ R, superE n P = magicL ++ (leN n 4 ++ (leN P 4 ++ R)) := by
  refine ⟨(zs 508).take 492 ++ leN (crcF (superB n P)) 4, ?_⟩
  have e : superB n P = magicL ++ (leN n 4 ++ (leN P 4 ++ (zs 508).take 492)) := by
    unfold superB padTo
    have hl : (magicL ++ leN (n : Int) 4 ++ leN (P : Int) 4).length = 16 := by rw [List.length_append, List.length_append, leN_length, leN_length]; rfl
    rw [List.take_append, hl, List.take_of_length_le (by rw [hl]; decide)]
    simp only [List.append_assoc]
  show superB n P ++ _ = _
  rw [e]
  simp only [List.append_assoc]
theorem superE_magic (n P : Nat) : (superE n P).take 8 = magicL := by
  obtain ⟨R, h⟩ := superE_eq n P
  rw [h]; exact (List.take_left (l₁ := magicL) : List.take magicL.length _ = _)
theorem superE_n {n : Nat} (P : Nat) (hn : n ≤ 3840) : leV ((superE n P).drop 8) 4 = (n : Int) := by
  obtain ⟨R, h⟩ := superE_eq n P
  have e : (superE n P).drop 8 = leN n 4 ++ (leN P 4 ++ R) := by rw [h]; exact (List.drop_left (l₁ := magicL) : List.drop magicL.length _ = _)
  rw [e, leV_leN _ _ _ _ (Nat.le_refl _)]
  omega
theorem superE_P (n : Nat) {P : Nat} (hP : P ≤ 19999) : leV ((superE n P).drop 12) 4 = (P : Int) := by
  obtain ⟨R, h⟩ := superE_eq n P
  have e : (superE n P).drop 12 = leN P 4 ++ R := by
    have e1 : (magicL ++ leN (n : Int) 4).length = 12 := by rw [List.length_append, leN_length]; rfl
    rw [h, ← List.append_assoc, ← e1]; exact List.drop_left
  rw [e, leV_leN _ _ _ _ (Nat.le_refl _)]
  omega
theorem superD_E {n P : Nat} (h : geoOk n P = true) : superD (superE n P) = some ((n : Int), (P : Int)) := by
  have hG := geoOk_iff.1 h
  unfold superD
  rw [superE_n P (by omega), superE_P n (by omega), Int.toNat_natCast, Int.toNat_natCast, if_pos ⟨h, rfl⟩]
theorem superD_inv {l : List UInt8} {n P : Int} (h : superD l = some (n, P)) : geoOk n P = true ∧ l = superE n.toNat P.toNat := by
  unfold superD at h
  split at h
  · rename_i c
    simp only [Option.some.injEq, Prod.mk.injEq] at h
    obtain ⟨rfl, rfl⟩ := h
    exact ⟨c.1, c.2.symm⟩
  · cases h
set_option maxRecDepth 100000 in
set_option maxHeartbeats 4000000 in
theorem told_any (w : World) (v : Value) (l : List UInt8) (hr : Rd w v l) (hl : l.length = 512) (hh : Half w) : Calls Tryz.prog 90 #[v] w (ToldQ l w) := by
  obtain ⟨va, vc, rfl⟩ := hr.shape
  rw [hl]
  rw [hl] at hr
  have h1 := (Sat.whole w).alloc (.cells #[.int .i64 0, .int .i64 0] 35 (0, 0))
  have d1 := (Side.refl w).alloc (.cells #[.int .i64 0, .int .i64 0] 35 (0, 0))
  have Hl := SL.hid hl; have Hr := SL.hid hr; have Hh := SL.hid hh
  clear hl hr hh
  go_enter Tryz.func90, Tryz.ntmps90
  go_wp2_with fail
  generalize w.alloc (.cells #[.int .i64 0, .int .i64 0] 35 (0, 0)) = w1 at h1 d1 ⊢
  generalize w.heap.size = gb at h1 ⊢
  have hr1 : Rd w1 (.slice va 512 vc) l := Hr.out.keep h1
  have hrd := read_any w1 _ l hr1 (by rw [Hl.out]; decide) (by rw [Hl.out]; decide)
  (with_reducible refine hrd.mono ?_)
  rintro e w2 ⟨r, g, cap, cur, rfl, h2, d2⟩
  have H2 := h2.under h1
  have D2 := d1.trans d2
  clear hrd hr1 h1 d1 h2 d2
  have hy := smust_yes w2
  go_wp2_with fail
  (with_reducible refine hy.mono ?_)
  rintro e w3 ⟨rfl, rfl⟩
  have hb : Calls Tryz.prog 110 #[ptV r, .int .i64 8] w2 (BytesRQ r g cap cur l 0 8 w2 (pt gb (.cells #[.int .i64 0, .int .i64 0] 35 (0, 0)) * whole w)) := bytesPU_any w2 r g cap cur l 0 8 _ H2 (by rw [Hl.out]; decide) (by rw [Hl.out]; decide) (by rw [Hl.out]; decide)
  clear hy H2
  go_wp2_with fail
  (with_reducible refine hb.mono ?_)
  rintro e w4 ⟨v8, rfl, h4, d4⟩
  have hcv := run_textU w4 v8 _ h4.bsRd
  obtain ⟨l8, hl8⟩ : ∃ x, x = (l.drop 0).take 8 := ⟨_, rfl⟩
  rw [← hl8] at hcv
  have hsb : ((str l8).toList == [72, 65, 82, 82, 79, 87, 32, 49]) = decide (l8 = magicL) := by
    have e1 : (str magicL).toList = [72, 65, 82, 82, 79, 87, 32, 49] := by rw [Lib.toList_data]; rfl
    rw [← e1]; exact str_beqU l8 magicL
  have D4 := D2.trans d4
  have Hl8 := SL.hid hl8
  clear hb hl8 D2 d4
  by_cases hm : l8 = magicL
  · rw [decide_eq_true hm] at hsb
    have hy4 := smust_yes w4
    have H4 := h4.right
    have HM := SL.hid hm
    clear hm h4
    go_wp2_with fail
    (with_reducible refine hy4.mono ?_)
    rintro e w5 ⟨rfl, rfl⟩
    have hn1 : Calls Tryz.prog 111 #[ptV r, .int .i64 4] w4 (NumQ r g cap cur l 8 4 w4 (pt gb (.cells #[.int .i64 0, .int .i64 0] 35 (0, 0)) * whole w)) := number_any w4 r g cap cur l 8 4 _ H4 (by rw [Hl.out]; decide) (by rw [Hl.out]; decide) (by decide) (by rw [Hl.out]; decide)
    clear hy4 hcv hsb H4
    go_wp2_with fail
    (with_reducible refine hn1.mono ?_)
    rintro e w6 ⟨rfl, h6, d6⟩
    obtain ⟨n, hn⟩ : ∃ n, n = leV (l.drop 8) 4 := ⟨_, rfl⟩
    have hn0 : 0 ≤ n ∧ n < 4294967296 := by rw [hn]; exact leV4_range _
    rw [← hn]
    have hw1 : IntKind.i64.wrap n = n := by rw [IntKind.wrap_i64]; omega
    have hn2 : Calls Tryz.prog 111 #[ptV r, .int .i64 4] w6 (NumQ r g cap cur l 12 4 w6 (pt gb (.cells #[.int .i64 0, .int .i64 0] 35 (0, 0)) * whole w)) := number_any w6 r g cap cur l 12 4 _ h6 (by rw [Hl.out]; decide) (by rw [Hl.out]; decide) (by decide) (by rw [Hl.out]; decide)
    have D6 := D4.trans d6
    have Hn := SL.hid hn
    clear hn1 h6 d6 D4 hn
    go_wp2_with fail
    (with_reducible refine hn2.mono ?_)
    rintro e w7 ⟨rfl, h7, d7⟩
    obtain ⟨P, hP⟩ : ∃ P, P = leV (l.drop 12) 4 := ⟨_, rfl⟩
    have hP0 : 0 ≤ P ∧ P < 4294967296 := by rw [hP]; exact leV4_range _
    rw [← hP]
    have hw2 : IntKind.i64.wrap P = P := by rw [IntKind.wrap_i64]; omega
    have H8 := h7.alloc (.cells #[.int .i64 n, .int .i64 P] 35 (0, 0))
    have D8 := (D6.trans d7).alloc (.cells #[.int .i64 n, .int .i64 P] 35 (0, 0))
    have HP := SL.hid hP
    clear hn2 h7 d7 D6 hP
    go_wp2_with fail
    generalize w7.alloc (.cells #[.int .i64 n, .int .i64 P] 35 (0, 0)) = w8 at H8 D8 ⊢
    generalize w7.heap.size = qb at H8 ⊢
    have hf := fine_any w8 r g cap cur l 16 _ H8.front2
    (with_reducible refine hf.mono ?_)
    rintro e w9 ⟨rfl, h9, d9⟩
    have H9 := h9.keepW H8
    have D9 := D8.trans d9
    have hG := gright_any w9 n P
    unfold geV at hG
    have q0 : w9.cell? ⟨qb, 0, none⟩ = some (.int .i64 n) := H9.cell 0
    have q1 : w9.cell? ⟨qb, 1, none⟩ = some (.int .i64 P) := H9.cell 1
    clear hf h9 d9 H8 D8 hw1 hw2
    go_wp2_with fail
    (with_reducible refine hG.mono ?_)
    rintro e w10 ⟨rfl, h10, d10⟩
    have H10 := h10.keepW H9
    have D10 := D9.trans d10
    have hfinal : Sat w10 (whole w) := H10.right.right.right
    by_cases hg : geoOk n P = true
    · rw [if_pos hg]
      have hy10 := smust_yes w10
      obtain ⟨N, rfl⟩ := Int.eq_ofNat_of_zero_le hn0.1
      obtain ⟨M, rfl⟩ := Int.eq_ofNat_of_zero_le hP0.1
      have hh10 : Half w10 := Hh.out.old1 hfinal
      have he := encodeG_any w10 N M hg hh10
      unfold geV at he
      have q0' : w10.cell? ⟨qb, 0, none⟩ = some (.int .i64 (N : Int)) := H10.cell 0
      have q1' : w10.cell? ⟨qb, 1, none⟩ = some (.int .i64 (M : Int)) := H10.cell 1
      have Hg := SL.hid hg; have HF10 := SL.hid hfinal
      clear hG h10 d10 q0 q1 H9 D9 hg hfinal hh10
      go_wp2_with fail
      (with_reducible refine hy10.mono ?_)
      rintro e w11 ⟨rfl, rfl⟩
      clear hy10
      go_wp2_with fail
      (with_reducible refine he.mono ?_)
      rintro e w12 ⟨ev, rfl, h12, d12⟩
      have H12 := h12.under H10
      have D12 := D10.trans d12
      have hF12 : Sat w12 (whole w) := H12.right.right.right.right
      have hr12 : Rd w12 (.slice va 512 vc) l := Hr.out.keep (P := emp) (hF12.to (emp_star _).symm)
      have heq := equalB_any w12 ev (.slice va 512 vc) (superE N M) l H12.bsRd hr12
      obtain ⟨eb, heb⟩ : ∃ b, b = decide (superE N M = l) := ⟨_, rfl⟩
      unfold EqBQ at heq
      rw [← heb] at heq
      have HE := SL.hid heb; have H12' := SL.hid H12; have HF12 := SL.hid hF12; have HD12 := SL.hid D12
      have hy12 := smust_yes w12
      have hn12 := smust_no w12
      clear he h12 d12 H12 hr12 q0' q1' H10 D10 hF12 D12 heb
      go_wp2_with fail
      (with_reducible refine heq.mono ?_)
      rintro e w13 ⟨rfl, rfl⟩
      clear heq
      cases eb with
      | true =>
        have hsome : superD l = some ((N : Int), (M : Int)) := by
          unfold superD
          rw [← Hn.out, ← HP.out, Int.toNat_natCast, Int.toNat_natCast, if_pos ⟨Hg.out, of_decide_eq_true HE.out.symm⟩]
        have p0 : w12.cell? ⟨qb, 0, none⟩ = some (.int .i64 (N : Int)) := H12'.out.front2.cell 0
        have p1 : w12.cell? ⟨qb, 1, none⟩ = some (.int .i64 (M : Int)) := H12'.out.front2.cell 1
        have g0 : w12.cell? ⟨gb, 0, none⟩ = some (.int .i64 0) := H12'.out.front4.cell 0
        have g1 : w12.cell? ⟨gb, 1, none⟩ = some (.int .i64 0) := H12'.out.front4.cell 1
        have f0 : w12.frozen? ⟨gb, 0, none⟩ = false := H12'.out.front4.frozen 0
        have f1 : w12.frozen? ⟨gb, 1, none⟩ = false := H12'.out.front4.frozen 1
        have K1 := H12'.out.front4.setCell 0 (.int .i64 (N : Int))
        have K2 := K1.setCell 1 (.int .i64 (M : Int))
        have D2 := (HD12.out.setCell ⟨gb, 0, none⟩ (.int .i64 (N : Int))).setCell ⟨gb, 1, none⟩ (.int .i64 (M : Int))
        have HT := SL.hid (superD_some hsome (K2.right.right.right.right) D2)
        have HK2 := SL.hid K2
        clear hn12 hsome K1 K2 D2
        go_wp2_with fail
        (with_reducible refine hy12.mono ?_)
        rintro e w14 ⟨rfl, rfl⟩
        clear hy12
        go_wp2_with fail
        have K3 := HK2.out
        exact bodyPost_ret (results_cell_row rfl _ _ gb 35 _ (0, 0) _ rfl K3.heap Tryz.underlying35 rfl (info_geo _ rfl)) rfl HT.out
      | false =>
        have hnone : superD l = none := by
          unfold superD
          rw [← Hn.out, ← HP.out, Int.toNat_natCast, Int.toNat_natCast, if_neg (fun c => of_decide_eq_false HE.out.symm c.2)]
        have HF := SL.hid (superD_none hnone HF12.out HD12.out)
        clear hy12 hnone
        go_wp2_with fail
        (with_reducible refine hn12.mono ?_)
        rintro e w14 ⟨rfl, rfl⟩
        exact ⟨rfl, HF.out⟩
    · rw [if_neg hg]
      have hnone : superD l = none := by
        unfold superD
        rw [← Hn.out, ← HP.out, if_neg (fun c => hg c.1)]
      have hy10 := smust_no w10
      have HF := SL.hid (superD_none hnone hfinal D10)
      clear hG h10 d10 q0 q1 H9 D9 hg hfinal hnone H10 D10
      go_wp2_with fail
      (with_reducible refine hy10.mono ?_)
      rintro e w11 ⟨rfl, rfl⟩
      exact ⟨rfl, HF.out⟩
  · rw [decide_eq_false hm] at hsb
    have hnone : superD l = none := by
      cases hd : superD l with
      | none => rfl
      | some p =>
        obtain ⟨n, P⟩ := p
        have := (superD_inv hd).2
        refine absurd ?_ hm
        rw [Hl8.out, List.drop_zero, this]
        exact superE_magic _ _
    have hy4 := smust_no w4
    have hfin : Sat w4 (whole w) := h4.right.right.right
    have HF := SL.hid (superD_none hnone hfin D4)
    clear hm h4 hnone hfin D4
    go_wp2_with fail
    (with_reducible refine hy4.mono ?_)
    rintro e w5 ⟨rfl, rfl⟩
    exact ⟨rfl, HF.out⟩
def DecGQ (n P c : Int) (w : World) (e : Ending) (w' : World) : Prop := e = .returned (.tuple #[geV n P, .int .i64 c]) ∧ Sat w' (whole w) ∧ Side w w'
set_option maxRecDepth 100000 in
set_option maxHeartbeats 1000000 in
theorem decD_ret (w : World) (pa pe : Addr) :
    CallsD Tryz.prog 89 #[.pointer (some pa), .pointer (some pe)] .returning w fun e u w' => e = .returned (.tuple #[]) ∧ u = .returning ∧ w = w' := by
  refine callsD_of_wpS Tryz.func89 rfl fun c₀ cs hu => ?_
  apply wpS_seq
  apply wpS_region
  simp only [Tryz.ntmps89, List.size_toArray, List.length_cons, List.length_nil, Nat.reduceAdd, Nat.reduceSub, Array.replicate_succ,
     Array.replicate_zero, List.push_toArray, List.append_toArray, List.nil_append, List.cons_append]
  simp [wpOpsS, go_sem, recoverD, hu, Exit.thenS]
  refine wpS_of_wp ?_
  go_wp2
  cases c₀
  simp_all [bodyPostS, results, Tryz.results89]
set_option maxRecDepth 100000 in
set_option maxHeartbeats 1000000 in
theorem decD_pan (w : World) (ga eb : Nat) (c x0 x1 y : Int) (older : List PanicEntry) (h0 : w.cell? ⟨ga, 0, none⟩ = some (.int .i64 x0)) (h1 : w.cell? ⟨ga, 1, none⟩ = some (.int .i64 x1)) (he : w.cell? ⟨eb, 0, none⟩ = some (.int .i64 y))
    (f0 : w.frozen? ⟨ga, 0, none⟩ = false) (f1 : w.frozen? ⟨ga, 1, none⟩ = false) (fe : w.frozen? ⟨eb, 0, none⟩ = false) (hne : ga ≠ eb) :
    CallsD Tryz.prog 89 #[.pointer (some ⟨ga, 0, none⟩), .pointer (some ⟨eb, 0, none⟩)] (.panicking ({ v := .iface 25 (.int .i64 c), recovered := false } :: older)) w fun e u w' =>
      e = .returned (.tuple #[]) ∧ u = .panicking ({ v := .iface 25 (.int .i64 c), recovered := true } :: older) ∧ w' = ((w.setCell ⟨ga, 0, none⟩ (.int .i64 0)).setCell ⟨ga, 1, none⟩ (.int .i64 0)).setCell ⟨eb, 0, none⟩ (.int .i64 4) := by
  refine callsD_of_wpS Tryz.func89 rfl fun c₀ cs hu => ?_
  apply wpS_seq
  apply wpS_region
  simp only [Tryz.ntmps89, List.size_toArray, List.length_cons, List.length_nil, Nat.reduceAdd, Nat.reduceSub, Array.replicate_succ,
     Array.replicate_zero, List.push_toArray, List.append_toArray, List.nil_append, List.cons_append]
  simp [wpOpsS, go_sem, recoverD, hu, Exit.thenS]
  refine wpS_of_wp ?_
  go_wp2
  exact ⟨rfl, _, rfl, _, results_none rfl _ _ _, rfl, rfl, rfl⟩
theorem decG_results {w : World} {tmps : Array Value} {a b : Nat} {e : Value} {X : Array Value} {F : Assn} (h2 : tmps[2]? = some (ptV a)) (h3 : tmps[3]? = some (ptV b)) (ha : Sat w (pt a (.cells X 35 (0, 0)) * F)) (hX : X.size = 2) (hb : w.cell? ⟨b, 0, none⟩ = some e) :
    (results Tryz.f64 tmps).run Tryz.prog w = .ok (.tuple #[.agg X, e]) w := by
  have hl := run_loadVar_row (P := Tryz.prog) w a 35 35 X (0, 0) _ ha.heap Tryz.underlying35 rfl (info_geo X hX)
  have hp : tmps.getD 2 undef = .pointer (some ⟨a, 0, none⟩) := by simp [h2]
  have hp5 : tmps.getD 3 undef = .pointer (some ⟨b, 0, none⟩) := by simp [h3]
  have hl5 : (loadVar 25 ⟨b, 0, none⟩).run Tryz.prog w = .ok e w := by simp [go_sem, hb]
  simp [results, Tryz.results64, h2, h3, asAddr, hl, hl5]
theorem doorG_pan {w : World} {tmps : Array Value} {ab eb : Nat} {x0 x1 z c : Int} {P : Assn} {R : Ending → World → Prop} (h2 : tmps[2]? = some (ptV ab)) (h3 : tmps[3]? = some (ptV eb))
    (h : Sat w (pt ab (.cells #[.int .i64 x0, .int .i64 x1] 35 (0, 0)) * (pt eb (.cells #[.int .i64 z] 25 (0, 0)) * P))) (hR : ∀ w', Sat w' P → Side w w' → R (.returned (.tuple #[.agg #[.int .i64 0, .int .i64 0], .int .i64 4])) w') :
    bodyPostD Tryz.prog Tryz.f64 R (Exit.panic (erP c)) { tmps := tmps, defers := [{ target := .fn (.func 89) #[.pointer (some ⟨ab, 0, none⟩), .pointer (some ⟨eb, 0, none⟩)], args := #[] }] } w := by
  have hne : ab ≠ eb := Sat.ne h
  refine leaves_cons (f := 89) (args := #[.pointer (some ⟨ab, 0, none⟩), .pointer (some ⟨eb, 0, none⟩)]) (by simp) (by simp [go_sem]) ?_
  refine (decD_pan w ab eb c x0 x1 z [] (h.cell 0) (h.cell 1) (h.front2.cell 0) (h.frozen 0) (h.frozen 1) (h.front2.frozen 0) hne).mono ?_
  rintro e u w7 ⟨rfl, rfl, rfl⟩
  have h11 := (((h.setCell 0 (.int .i64 0)).setCell 1 (.int .i64 0)).front2.setCell 0 (.int .i64 4))
  exact ⟨_, decG_results h2 h3 h11.front2 rfl (h11.cell 0), hR _ h11.right.right ((((Side.refl w).setCell _ _).setCell _ _).setCell _ _)⟩
theorem doorG_ret {w : World} {tmps : Array Value} {ab eb : Nat} {X : Array Value} {z : Value} {P : Assn} {R : Ending → World → Prop} (h2 : tmps[2]? = some (ptV ab)) (h3 : tmps[3]? = some (ptV eb))
    (ha : Sat w (pt ab (.cells X 35 (0, 0)) * P)) (hX : X.size = 2) (hb : w.cell? ⟨eb, 0, none⟩ = some z) (hR : R (.returned (.tuple #[.agg X, z])) w) :
    bodyPostD Tryz.prog Tryz.f64 R Exit.ret { tmps := tmps, defers := [{ target := .fn (.func 89) #[.pointer (some ⟨ab, 0, none⟩), .pointer (some ⟨eb, 0, none⟩)], args := #[] }] } w := by
  refine leaves_cons (f := 89) (args := #[.pointer (some ⟨ab, 0, none⟩), .pointer (some ⟨eb, 0, none⟩)]) (by simp) (by simp [go_sem]) ?_
  refine (decD_ret w ⟨ab, 0, none⟩ ⟨eb, 0, none⟩).mono ?_
  rintro e u w7 ⟨rfl, rfl, rfl⟩
  exact ⟨_, decG_results h2 h3 ha hX hb, hR⟩
set_option maxRecDepth 100000 in
set_option maxHeartbeats 4000000 in
theorem decodeG_any (w : World) (v : Value) (l : List UInt8) (hr : Rd w v l) (hl : l.length = 512) (hh : Half w) (gn gP gc : Int) (hg1 : superD l = none → gn = 0 ∧ gP = 0 ∧ gc = 4) (hg2 : ∀ n P, superD l = some (n, P) → gn = n ∧ gP = P ∧ gc = 0) : Calls Tryz.prog 64 #[v] w (DecGQ gn gP gc w) := by
  have hmf : ∀ (fn : Fn) (first cap : Array Value) (w : World), (Instr.makeFunc fn first cap).run Tryz.prog w = .ok (.func fn first cap) w := fun _ _ _ _ => rfl
  obtain ⟨va, vc, rfl⟩ := hr.shape
  rw [hl]
  rw [hl] at hr
  have h1 := ((Sat.whole w).alloc (.cells #[.int .i64 0, .int .i64 0] 35 (0, 0))).alloc (.cells #[.int .i64 0] 25 (0, 0))
  have d1 := ((Side.refl w).alloc (.cells #[.int .i64 0, .int .i64 0] 35 (0, 0))).alloc (.cells #[.int .i64 0] 25 (0, 0))
  rw [World.size_alloc] at h1
  go_enter_defers Tryz.func64, Tryz.ntmps64
  go_wp2_with fail
  generalize (w.alloc (.cells #[.int .i64 0, .int .i64 0] 35 (0, 0))).alloc (.cells #[.int .i64 0] 25 (0, 0)) = w1 at h1 d1 ⊢
  generalize w.heap.size + 1 = eb at h1 ⊢
  generalize w.heap.size = ab at h1 ⊢
  have h1' : Sat w1 ((pt eb (.cells #[.int .i64 0] 25 (0, 0)) * pt ab (.cells #[.int .i64 0, .int .i64 0] 35 (0, 0))) * whole w) := h1.to (by ac_rfl)
  have ht := told_any w1 (.slice va 512 vc) l (hr.keep h1') hl (hh.old h1')
  clear hr hh h1'
  cases hd : superD l with
  | none =>
    obtain ⟨rfl, rfl, rfl⟩ := hg1 hd
    clear hg1 hg2
    (with_reducible refine ht.mono ?_)
    rintro e w2 ⟨_, hA, h2, d2⟩
    obtain rfl := hA hd
    have H2 := h2.keepW h1
    exact doorG_pan rfl rfl (H2.to (by ac_rfl)) fun w' h3 d3 => ⟨rfl, h3, (d1.trans d2).trans d3⟩
  | some p =>
    obtain ⟨n, P⟩ := p
    obtain ⟨e1, e2, rfl⟩ := hg2 n P hd
    rw [← e1, ← e2] at hd
    clear e1 e2
    clear hg1 hg2
    (with_reducible refine ht.mono ?_)
    rintro e w2 ⟨hA, _, h2, d2⟩
    obtain rfl := hA _ _ hd
    have H2 : Sat w2 (pt ab (.cells #[.int .i64 0, .int .i64 0] 35 (0, 0)) * (pt eb (.cells #[.int .i64 0] 25 (0, 0)) * whole w)) := (h2.keepW h1).to (by ac_rfl)
    have D2 := d1.trans d2
    have g0 : w2.cell? ⟨ab, 0, none⟩ = some (.int .i64 0) := H2.cell 0
    have g1 : w2.cell? ⟨ab, 1, none⟩ = some (.int .i64 0) := H2.cell 1
    have e0 : w2.cell? ⟨eb, 0, none⟩ = some (.int .i64 0) := H2.front2.cell 0
    have f0 := H2.frozen 0; have f1 := H2.frozen 1; have fe := H2.front2.frozen 0
    have hne : ab ≠ eb := Sat.ne H2
    have K := (((H2.setCell 0 (.int .i64 gn)).setCell 1 (.int .i64 gP)).front2.setCell 0 (.int .i64 0))
    have DK := ((D2.setCell ⟨ab, 0, none⟩ (.int .i64 gn)).setCell ⟨ab, 1, none⟩ (.int .i64 gP)).setCell ⟨eb, 0, none⟩ (.int .i64 0)
    have HK := SL.hid K; have HDK := SL.hid DK
    unfold geV
    clear ht h1 h2 d1 d2 hd K DK H2 D2
    go_wp2_with fail
    exact doorG_ret rfl rfl HK.out.front2 rfl (HK.out.cell 0) ⟨rfl, HK.out.right.right, HDK.out⟩
end Go.Proofs.YtdafdidmbeecfaaGreatDoor.Su
end
section
namespace Go.Proofs.YtdafdidmbeecfaaGreatDoor.Su
set_option linter.unusedVariables false
set_option linter.unusedSimpArgs false
open Go.RowKit Go.SL Go.Proofs.YtdafdidmbeecfaaGreatDoor.Ba Go.Proofs.YtdafdidmbeecfaaGreatDoor.Fs
theorem must_yes (w : World) : Calls Tryz.prog 44 #[.int .i64 0] w fun e w' => e = .returned (.tuple #[]) ∧ w = w' := by
  go_enter Tryz.func44, Tryz.ntmps44
  go_wp2
  go_end0
  exact ⟨rfl, rfl⟩
theorem must_no (w : World) (c : Int) (hc : c ≠ 0) : Calls Tryz.prog 44 #[.int .i64 c] w fun e w' => e = .panicked (erP c) ∧ w = w' := by
  have h1 : (c != 0) = true := by simpa using hc
  go_enter Tryz.func44, Tryz.ntmps44
  go_wp2
  exact ⟨rfl, rfl, rfl⟩
def StepOk (f : FuncId) (first caps : Array Value) (A B C : World → Prop) : Prop :=
  (∀ (args : Array Value) (w : World), (callFunc f args).run Tryz.prog w = .ok (.enter f args) w) ∧
  ∀ w, A w → Calls Tryz.prog f (first ++ caps) w fun e w' => ∃ rc : Int, e = .returned (.int .i64 rc) ∧ ((rc = 0 ∧ B w') ∨ (rc ≠ 0 ∧ C w'))
def RunQ (B C : World → Prop) (e : Ending) (w' : World) : Prop := (e = .returned (.tuple #[]) ∧ B w') ∨ (e = .panicked (erP 2) ∧ C w')
def RunRel (m : Nat) (I : Nat → World → Prop) (u : Value) (wr : World) : Prop := ∃ k : Nat, k ≤ m ∧ u = .int .i64 (k : Int) ∧ I k wr
set_option maxRecDepth 100000 in
set_option maxHeartbeats 2000000 in
theorem run_any (m : Nat) (fs : Nat → FuncId × Array Value × Array Value) (I : Nat → World → Prop) (C : World → Prop) (g : Nat) (hm : m ≤ 10)
    (hc : ∀ i k w, i ≤ m → I i w → k < m → w.cell? ⟨g, k, none⟩ = some (.func (.func (fs k).1) (fs k).2.1 (fs k).2.2)) (hs : ∀ k, k < m → StepOk (fs k).1 (fs k).2.1 (fs k).2.2 (I k) (I (k + 1)) C)
    (w : World) (h0 : I 0 w) : Calls Tryz.prog 40 #[.slice (some ⟨g, 0, none⟩) m m] w (RunQ (I m) C) := by
  have hm' : (m : Int) ≤ 10 := by omega
  have Hc := SL.hid hc; have Hs := SL.hid hs; have H0 := SL.hid h0
  clear hc hs h0
  go_enter Tryz.func40, Tryz.ntmps40
  go_wp2_with fail
  go_loopw [6] (fun u wr => RunRel m I u wr) (fun u _ => m - (intOf u).toNat)
  case atStart => exact ⟨0, Nat.zero_le _, rfl, H0.out⟩
  case round =>
    clear H0
    obtain ⟨k, hk, rfl, hI⟩ := hrel
    by_cases hlt : k < m
    · have hlt' : (k : Int) < (m : Int) := by omega
      have hck := Hc.out k k wr hk hI hlt
      obtain ⟨hf, hst⟩ := Hs.out k hlt
      have hst1 := hst wr hI
      generalize fs k = q at hck hf hst1
      obtain ⟨f, first, caps⟩ := q
      dsimp only at hck hf hst1
      have Hst1 := SL.hid hst1
      clear hst hst1 hI
      go_wp2_with fail
      (with_reducible refine Hst1.out.mono ?_)
      rintro e w2 ⟨rc, rfl, hrc⟩
      have Hrc := SL.hid hrc
      clear hck hf hrc Hst1
      by_cases h0 : rc = 0
      · subst h0
        have hI2 : I (k + 1) w2 := by
          rcases Hrc.out with ⟨_, h⟩ | ⟨h, _⟩
          · exact h
          · exact absurd rfl h
        have HI2 := SL.hid hI2
        clear hI2
        go_wp2_with fail
        go_roundw
        case rel => exact ⟨k + 1, by omega, by go_num, HI2.out⟩
        case measure => simp [intOf]; omega
      · have hC : C w2 := by
          rcases Hrc.out with ⟨h, _⟩ | ⟨_, h⟩
          · exact absurd h h0
          · exact h
        have HC := SL.hid hC
        have h1 : (rc != 0) = true := by simpa using h0
        clear hC
        go_wp2_with fail
        exact ⟨rfl, .inr ⟨rfl, HC.out⟩⟩
    · obtain rfl : k = m := by omega
      have HI := SL.hid hI
      clear hI
      go_wp2_with fail
      go_end0
      exact .inl ⟨rfl, HI.out⟩
def WrFnQ (d : Nat) (a : Int) (v : Value) (w : World) (e : Ending) (w' : World) : Prop :=
  e = .returned (.func (.func 73) #[] #[.pointer (some ⟨w.heap.size, 0, none⟩), .pointer (some ⟨w.heap.size + 1, 0, none⟩), .pointer (some ⟨w.heap.size + 1 + 1, 0, none⟩)]) ∧
  w' = ((w.alloc (.cells #[ptV d] 24 (0, 0))).alloc (.cells #[.int .i64 a] 3 (0, 0))).alloc (.cells #[v] 22 (0, 0))
theorem write_fn (w : World) (d : Nat) (a : Int) (va : Option Addr) (n c : Nat) : Calls Tryz.prog 49 #[ptV d, .int .i64 a, .slice va n c] w (WrFnQ d a (.slice va n c) w) := by
  have hmf : ∀ (fn : Fn) (first cap : Array Value) (w : World), (Instr.makeFunc fn first cap).run Tryz.prog w = .ok (.func fn first cap) w := fun _ _ _ _ => rfl
  go_enter Tryz.func49, Tryz.ntmps49
  go_wp2
  go_ret
  exact ⟨rfl, rfl⟩
end Go.Proofs.YtdafdidmbeecfaaGreatDoor.Su
end
section
namespace Go.SL
set_option linter.unusedVariables false
set_option linter.unusedSimpArgs false
open Go.RowKit
abbrev i64w (n : Int) : Int := wrap64 n
structure Dev where
  sec : List (List UInt8)
  wait : List (Int × List UInt8)
  torn : List (Int × Unit)
  cr : Int
  cw : Int
  cf : Int
  down : Bool
  armed : Bool
  left : Int
  keep : List Int
def Dev.fresh (n : Nat) : Dev := ⟨List.replicate n [], [], [], 0, 0, 0, false, false, 0, []⟩
def Dev.done (D : Dev) (x : Int × List UInt8) : Dev := { D with sec := D.sec.set x.1.toNat x.2, torn := del D.torn x.1 }
def Dev.doneAll (D : Dev) (l : List (Int × List UInt8)) : Dev := l.foldl Dev.done D
def Dev.tear (D : Dev) (x : Int × List UInt8) : Dev := { D with torn := SL.upd D.torn x.1 () }
def Dev.fate (D : Dev) (f : Int) (x : Int × List UInt8) : Dev := if f = 1 then D.done x else if f = 2 then D.tear x else D
def Dev.fates (D : Dev) (keep : List Int) : Nat → Dev
  | 0 => D
  | k + 1 => match D.wait[k]? with
    | some p => (D.fates keep k).fate (keep.getD k 0) p
    | none => D.fates keep k
def Dev.crash (D : Dev) (keep : List Int) : Dev := { D.fates keep D.wait.length with wait := [], down := true, armed := false, left := 0, keep := [] }
def Dev.strike (D : Dev) : Dev := if !D.down && D.armed && D.left == 0 then D.crash D.keep else D
def Dev.begun (D : Dev) : Dev := if D.strike.down then D.strike else if D.strike.armed then { D.strike with left := i64w (D.strike.left - 1) } else D.strike
def Dev.begins (D : Dev) : Int := if D.strike.down then 2 else 0
def Dev.has (D : Dev) (at' : Int) : Prop := 0 ≤ at' ∧ at' < D.sec.length
instance (D : Dev) (a : Int) : Decidable (D.has a) := inferInstanceAs (Decidable (_ ∧ _))
def newest (l : List (Int × List UInt8)) (a : Int) : Option (List UInt8) := (l.reverse.find? fun x => x.1 == a).map Prod.snd
def Dev.tells (D : Dev) (a : Int) : Int × List UInt8 :=
  match newest D.wait a with
  | some l => (0, padTo 512 l)
  | none => if (kget D.torn a).isSome then (3, []) else (0, padTo 512 (D.sec.getD a.toNat []))
def Dev.read (D : Dev) (a : Int) : (Int × List UInt8) × Dev :=
  if D.has a then (if D.begins = 0 then (D.begun.tells a, { D.begun with cr := i64w (D.begun.cr + 1) }) else ((2, []), D.begun)) else ((1, []), D)
def Dev.write (D : Dev) (a : Int) (l : List UInt8) : Int × Dev :=
  if D.has a ∧ l.length = 512 then (if D.begins = 0 then (0, { D.begun with cw := i64w (D.begun.cw + 1), wait := D.begun.wait ++ [(a, l)] }) else (2, D.begun)) else (1, D)
def Dev.flushed (D : Dev) : Dev := { ({ D with cf := i64w (D.cf + 1) } : Dev).doneAll D.wait with wait := [] }
def Dev.flush (D : Dev) : Int × Dev := if D.begins = 0 then (0, D.begun.flushed) else (2, D.begun)
structure Dev.Ok (D : Dev) : Prop where
  n : D.sec.length ≤ 20000
  wait : ∀ x ∈ D.wait, D.has x.1
  many : D.wait.length ≤ 1000000
  keep : D.keep.length ≤ 4611686018427387904
theorem Dev.strike_up {D : Dev} (h : D.begins = 0) : D.strike = D := by
  unfold Dev.begins at h
  by_cases h1 : (!D.down && D.armed && D.left == 0) = true
  · rw [Dev.strike, if_pos h1] at h; simp [Dev.crash] at h
  · rw [Dev.strike, if_neg h1]
theorem Dev.begun_up {D : Dev} (h : D.begins = 0) : D.begun = { D with left := D.begun.left } := by
  have hs := Dev.strike_up h
  have hd : D.down = false := by
    unfold Dev.begins at h
    rw [hs] at h
    cases hD : D.down with
    | false => rfl
    | true => simp [hD] at h
  obtain ⟨sec, wait, torn, cr, cw, cf, down, armed, left, keep⟩ := D
  simp only at hd
  subst hd
  unfold Dev.begun
  rw [hs]
  cases armed <;> rfl
theorem Dev.Ok.up {D : Dev} (h : D.Ok) (e : D.begins = 0) : D.begun.Ok := by
  rw [Dev.begun_up e]; exact ⟨h.n, h.wait, h.many, h.keep⟩
theorem Dev.begins_cases (D : Dev) : D.begins = 0 ∨ D.begins = 2 := by
  unfold Dev.begins; split <;> simp
abbrev Zs := List (Int × Value × List UInt8)
def flatW (Z : Zs) : List Value := Z.flatMap fun z => [.int .i64 z.1, z.2.1]
theorem flatW_length (Z : Zs) : (flatW Z).length = Z.length * 2 := by
  induction Z with
  | nil => rfl
  | cons z Z ih => simp only [flatW, List.flatMap_cons, List.length_append, List.length_cons, List.length_nil] at ih ⊢; omega
theorem flatW_get : ∀ (Z : Zs) (i : Nat) (h : i < Z.length), (flatW Z)[i * 2]? = some (.int .i64 Z[i].1) ∧ (flatW Z)[i * 2 + 1]? = some Z[i].2.1 := by
  intro Z
  induction Z with
  | nil => intro i h; simp at h
  | cons z Z ih =>
    intro i h
    cases i with
    | zero => simp [flatW]
    | succ i =>
      have := ih i (by simpa using h)
      rw [show (i + 1) * 2 = i * 2 + 1 + 1 by omega]
      simpa [flatW] using this
theorem Sat.writeCells {w : World} {TW : TypeId} {n : Nat} {Z : Zs} {F : Assn} {g c m : Nat} (h : Sat w (sl TW 2 (.slice (some ⟨g, 0, none⟩) m c) n (flatW Z) * F)) {i : Nat} (hi : i < Z.length) :
    w.cell? ⟨g, i * 2, none⟩ = some (.int .i64 Z[i].1) ∧ w.cell? ⟨g, i * 2 + 1, none⟩ = some Z[i].2.1 := by
  obtain ⟨a, b⟩ := flatW_get Z i hi
  obtain ⟨_, hr⟩ := h.rds
  rcases hr with ⟨hv, h0⟩ | ⟨ad, c', he, ha⟩
  · cases hv
  · cases he
    exact ⟨by have := ha _ _ a; rwa [Addr.add_lit, Nat.zero_add] at this, by have := ha _ _ b; rwa [Addr.add_lit, Nat.zero_add] at this⟩
structure Dx where
  sg : Nat
  tm : Nat
  wv : Value
  kv : Value
  Y : List (Value × List UInt8)
  Z : Zs
def Dx.cells (x : Dx) (D : Dev) : Array Value :=
  #[.slice (some ⟨x.sg, 0, none⟩) x.Y.length x.Y.length, x.wv, .map (some x.tm), .int .i64 D.cr, .int .i64 D.cw, .int .i64 D.cf, .bool D.down, .bool D.armed, .int .i64 D.left, x.kv]
def tornKV (t : List (Int × Unit)) : KV := t.map fun p => (p.1, .agg #[])
def i64v (l : List Int) : List Value := l.map (Value.int .i64)
structure Dx.Fit (x : Dx) (T : TypeId) (S : Hp) (D : Dev) : Prop where
  sec : x.Y.map Prod.snd = D.sec
  vals : ∀ y ∈ x.Y, Val T S y.1 y.2
  wait : x.Z.map (fun z => (z.1, z.2.2)) = D.wait
  wvals : ∀ z ∈ x.Z, Val T S z.2.1 z.2.2
theorem Dx.Fit.mono {x : Dx} {T : TypeId} {S S' : Hp} {D : Dev} (h : x.Fit T S D) (e : Ext S S') : x.Fit T S' D :=
  ⟨h.sec, fun y hy => (h.vals y hy).mono e, h.wait, fun z hz => (h.wvals z hz).mono e⟩
theorem tornKV_upd (t : List (Int × Unit)) (a : Int) : SL.upd (tornKV t) a (.agg #[]) = tornKV (SL.upd t a ()) := by
  have := upd_map (fun _ : Unit => Value.agg #[]) t a ()
  simpa [tornKV] using this
theorem tornKV_del (t : List (Int × Unit)) (a : Int) : del (tornKV t) a = tornKV (del t a) := by
  simp only [tornKV, del, List.filter_map]; rfl
theorem tornKV_get (t : List (Int × Unit)) (a : Int) : (kget (tornKV t) a).isSome = (kget t a).isSome := by
  have := look_map (fun _ : Unit => Value.agg #[]) t a
  rw [tornKV, this, Option.isSome_map]
end Go.SL
namespace Go.SL
set_option linter.unusedVariables false
set_option linter.unusedSimpArgs false
open Go.RowKit
def devP (x : Dx) (D : Dev) (d : Nat) : Assn :=
  pt d (.cells (x.cells D) 76 (0, 0)) * (pt x.sg (.cells (x.Y.map Prod.fst).toArray 22 (0, 0)) * (sl 80 2 x.wv x.Z.length (flatW x.Z) * (mp x.tm (tornKV D.torn) * sl 3 1 x.kv D.keep.length (i64v D.keep))))
def devX (x : Dx) (S : Hp) (d : Nat) (D : Dev) : Assn := fact (x.Fit 5 S D) * devP x D d
def devA (S : Hp) (d : Nat) (D : Dev) : Assn := ex fun x : Dx => devX x S d D
section
variable {w : World} {S S' : Hp} {d : Nat} {D : Dev} {F : Assn} {x : Dx}
theorem Sat.devOpen (h : Sat w (devX x S d D * F)) : x.Fit 5 S D ∧ Sat w (pt d (.cells (x.cells D) 76 (0, 0)) * (pt x.sg (.cells (x.Y.map Prod.fst).toArray 22 (0, 0)) * (sl 80 2 x.wv x.Z.length (flatW x.Z) * (mp x.tm (tornKV D.torn) * (sl 3 1 x.kv D.keep.length (i64v D.keep) * F))))) := by
  obtain ⟨h1, h2⟩ := Sat.fact_iff.1 (h.to (star_assoc _ _ _))
  exact ⟨h1, h2.to (by unfold devP; ac_rfl)⟩
theorem Sat.devShut (hf : x.Fit 5 S D) (h : Sat w (pt d (.cells (x.cells D) 76 (0, 0)) * (pt x.sg (.cells (x.Y.map Prod.fst).toArray 22 (0, 0)) * (sl 80 2 x.wv x.Z.length (flatW x.Z) * (mp x.tm (tornKV D.torn) * (sl 3 1 x.kv D.keep.length (i64v D.keep) * F)))))) : Sat w (devX x S d D * F) :=
  (Sat.fact_iff.2 ⟨hf, h.to (by unfold devP; ac_rfl : _ = devP x D d * F)⟩ : Sat w (fact _ * _)).to (star_assoc _ _ _).symm
theorem Sat.devEx (h : Sat w (devA S d D * F)) : ∃ x, Sat w (devX x S d D * F) := Sat.ex_star_iff.1 h
theorem Sat.devOf (h : Sat w (devX x S d D * F)) : Sat w (devA S d D * F) := Sat.ex_star_iff.2 ⟨x, h⟩
theorem devX_mono (e : Ext S S') (h : Hp) (p : devX x S d D h) : devX x S' d D h := by
  obtain ⟨h1, h2, ⟨p1, p2⟩, p3, p4, p5⟩ := p
  exact ⟨h1, h2, ⟨p1.mono e, p2⟩, p3, p4, p5⟩
theorem devA_mono (e : Ext S S') (h : Hp) (p : devA S d D h) : devA S' d D h := by
  obtain ⟨x, p⟩ := p
  exact ⟨x, devX_mono e h p⟩
theorem Sat.devCell (h : Sat w (devX x S d D * F)) (i : Nat) : w.cell? ⟨d, i, none⟩ = (x.cells D)[i]? := h.devOpen.2.cell i
theorem Sat.devFree (h : Sat w (devX x S d D * F)) (i : Nat) : w.frozen? ⟨d, i, none⟩ = false := h.devOpen.2.frozen i
theorem Sat.devSecs (h : Sat w (devX x S d D * F)) : x.Y.length = D.sec.length := by rw [← h.devOpen.1.sec, List.length_map]
theorem Sat.devWaits (h : Sat w (devX x S d D * F)) : x.Z.length = D.wait.length := by rw [← h.devOpen.1.wait, List.length_map]
theorem Sat.devW (h : Sat w (devX x S d D * F)) : ∃ a c, x.wv = .slice a D.wait.length c := by
  have := sl_shape h.devOpen.2.front3
  rwa [h.devWaits] at this
end
end Go.SL
namespace Go.Proofs.YtdafdidmbeecfaaGreatDoor
set_option linter.unusedVariables false
set_option linter.unusedSimpArgs false
open Go.RowKit Go.SL
theorem sectors_any (w : World) (S : Hp) (d : Nat) (D : Dev) (F : Assn) (h : Sat w (devA S d D * F)) :
    Calls Tryz.prog 47 #[.pointer (some ⟨d, 0, none⟩)] w fun e w' => e = .returned (.int .i64 D.sec.length) ∧ w = w' := by
  obtain ⟨x, h⟩ := h.devEx
  have hc : w.cell? ⟨d, 0, none⟩ = some (.slice (some ⟨x.sg, 0, none⟩) D.sec.length D.sec.length) := by rw [h.devCell, ← h.devSecs]; rfl
  clear h
  go_enter Tryz.func47, Tryz.ntmps47
  go_wp2
  go_ret
  exact ⟨rfl, rfl⟩
def BoolIs (b : Bool) (w : World) (e : Ending) (w' : World) : Prop := e = .returned (.bool b) ∧ w = w'
theorem has_any (w : World) (S : Hp) (d : Nat) (D : Dev) (a : Int) (F : Assn) (h : Sat w (devA S d D * F)) :
    Calls Tryz.prog 35 #[.pointer (some ⟨d, 0, none⟩), .int .i64 a] w (BoolIs (decide (D.has a)) w) := by
  have hs := sectors_any w S d D F h
  clear h
  by_cases h0 : 0 ≤ a
  · by_cases h1 : a < D.sec.length
    · have hd : decide (D.has a) = true := by simp [Dev.has, h0, h1]
      rw [hd]; clear hd
      go_enter Tryz.func35, Tryz.ntmps35
      go_wp2_with (go_at_call 47; refine hs.mono ?_; rintro e w1 ⟨rfl, rfl⟩)
      go_ret
      exact ⟨rfl, rfl⟩
    · have hd : decide (D.has a) = false := by simp [Dev.has, h1]
      rw [hd]; clear hd
      have hd2 : decide (a < D.sec.length) = false := by simpa using h1
      go_enter Tryz.func35, Tryz.ntmps35
      go_wp2_with (go_at_call 47; refine hs.mono ?_; rintro e w1 ⟨rfl, rfl⟩)
      go_ret
      exact ⟨rfl, rfl⟩
  · have hd : decide (D.has a) = false := by simp [Dev.has, h0]
    rw [hd]; clear hd hs
    go_enter Tryz.func35, Tryz.ntmps35
    go_wp2
    go_ret
    exact ⟨rfl, rfl⟩
def CopiedBQ (w : World) (l : List UInt8) (e : Ending) (w' : World) : Prop := ∃ g, e = .returned (.slice (some ⟨g, 0, none⟩) 512 512) ∧ Sat w' (pt g (.cells (u8s (padTo 512 l)) 5 (0, 0)) * whole w) ∧ Side w w'
theorem info_u8 : (Tryz.prog.info? 5).map (fun i => (i.zero, i.size, i.bytes)) = some (some (.int .u8 0), 1, 1) := by kernel_rfl
theorem info_u8_1 : (Tryz.prog.info? 5).map (·.size) = some 1 := by kernel_rfl
theorem info_bytes : (Tryz.prog.info? 22).map (fun i => (i.zero, i.size, i.bytes)) = some (some (.slice none 0 0), 1, 24) := by kernel_rfl
theorem make_bytes (n : Nat) (hn : n ≤ 281474976710656) (w : World) : (Instr.makeSlice 22 (.int .i64 n) (.int .i64 n)).run Tryz.prog w =
    .ok (.slice (some ⟨w.heap.size, 0, none⟩) n n) (w.alloc (.cells (u8s (zs n)) 5 (0, 0))) := by
  obtain ⟨i, hi, hz, hs, hb⟩ := info_parts info_u8
  have := run_make (P := Tryz.prog) w 22 5 i _ Tryz.underlying22 hi hz .i64 .i64 n n (by omega) (by omega) (by rw [hb]; omega) (by omega)
  rw [this, hs]
  simp only [Int.toNat_natCast]
  rw [madeCells_u8]
set_option maxRecDepth 100000 in
set_option maxHeartbeats 1000000 in
theorem copiedB_any (w : World) (v : Value) (l : List UInt8) (hr : Rd w v l) (hl : l.length ≤ 9223372036854775807) :
    Calls Tryz.prog 37 #[v] w (CopiedBQ w l) := by
  have hmk : ∀ w, (Instr.makeSlice 22 (.int .i64 512) (.int .i64 512)).run Tryz.prog w =
    .ok (.slice (some ⟨w.heap.size, 0, none⟩) 512 512) (w.alloc (.cells (u8s (zs 512)) 5 (0, 0))) := make_bytes 512 (by omega)
  have hr' : Rd (w.alloc (.cells (u8s (zs 512)) 5 (0, 0))) v l := Rds.alloc hr _
  have hA := (Sat.whole w).alloc (.cells (u8s (zs 512)) 5 (0, 0))
  obtain ⟨w2, v2, hrun, h2, d2⟩ := copy_pad (P := Tryz.prog) (dT := 22) (T := 5) Tryz.underlying22 info_u8_1 hA hr' 3
  have d1 := (Side.refl w).alloc (.cells (u8s (zs 512)) 5 (0, 0))
  have Hrun := SL.hid hrun
  clear hrun hr' hA
  go_enter Tryz.func37, Tryz.ntmps37
  go_wp2_with (refine wpList_copy_run Hrun.out _ _ rfl rfl rfl rfl rfl ?_)
  go_ret
  exact ⟨_, rfl, h2, d1.trans d2⟩
end Go.Proofs.YtdafdidmbeecfaaGreatDoor
end

/- tag: its fields. -/
import Derived.Test.YtlfooilcngjeiaaGreatDe
import Derived.Laws.EntriesVeiled
import Derived.Laws.Tables
import Derived.Laws.Rows
namespace Go.SL
set_option linter.unusedVariables false
set_option linter.unusedSimpArgs false
open Go.RowKit
structure Tg where
  ep : Int
  st : Int
  sq : Int
  fl : Int
  ix : Int
  ct : Int
  id : Int
def Tg.cells (t : Tg) : Array Value := #[.int .u32 t.ep, .int .u64 t.st, .int .u64 t.sq, .int .u64 t.fl, .int .i64 t.ix, .int .i64 t.ct, .int .i64 t.id]
/-- Numbers as they may be in memory. -/
structure Tg.Fit (t : Tg) : Prop where
  ep0 : 0 ≤ t.ep
  ep1 : t.ep < 4294967296
  st0 : 0 ≤ t.st
  st1 : t.st < 18446744073709551616
  sq0 : 0 ≤ t.sq
  sq1 : t.sq < 18446744073709551616
  fl0 : 0 ≤ t.fl
  fl1 : t.fl < 18446744073709551616
def magic : Int := 1465012808
def Tg.ok (t : Tg) : Bool := decide (1 ≤ t.ep) && decide (1 ≤ t.st) && decide (t.st ≤ t.sq) && decide (t.sq ≤ 281474976710655) && decide (t.fl < t.sq) &&
  decide (1 ≤ t.ct) && decide (t.ct ≤ 72) && decide (0 ≤ t.ix) && decide (t.ix < t.ct) && decide (0 ≤ t.id) && decide (t.id < 3840)
def u64w (n : Int) : Int := n % 18446744073709551616
/-- What the k-th field is of a tag. -/
def Tg.field (t : Tg) : Nat → Int
  | 0 => magic
  | 1 => t.ep
  | 2 => t.sq
  | 3 => t.fl
  | 4 => t.st
  | 5 => u64w t.ix
  | 6 => u64w t.ct
  | 7 => u64w t.id
  | _ => 0
def fsize : Nat → Nat
  | 0 => 4
  | 1 => 4
  | 2 => 6
  | 3 => 6
  | 4 => 6
  | 5 => 1
  | 6 => 1
  | 7 => 2
  | _ => 2
/-- The blocks that the fields' functions hold. -/
structure Fb where
  b0 : Nat
  b2 : Nat
  b3 : Nat
  b4 : Nat
  b5 : Nat
  b6 : Nat
  b7 : Nat
  b8 : Nat
abbrev fnV (f : Nat) (caps : Array Value) : Value := .func (.func f) #[] caps
def fget (b : Fb) : Nat → Nat × Array Value
  | 0 => (85, #[ptV b.b0])
  | 1 => (66, #[])
  | 2 => (87, #[ptV b.b2])
  | 3 => (87, #[ptV b.b3])
  | 4 => (87, #[ptV b.b4])
  | 5 => (89, #[ptV b.b5])
  | 6 => (89, #[ptV b.b6])
  | 7 => (89, #[ptV b.b7])
  | _ => (85, #[ptV b.b8])
def fset (b : Fb) : Nat → Nat × Array Value
  | 0 => (86, #[])
  | 1 => (67, #[])
  | 2 => (88, #[ptV b.b2])
  | 3 => (88, #[ptV b.b3])
  | 4 => (88, #[ptV b.b4])
  | 5 => (90, #[ptV b.b5])
  | 6 => (90, #[ptV b.b6])
  | 7 => (90, #[ptV b.b7])
  | _ => (86, #[])
def fcells (b : Fb) (k : Nat) : Array Value := #[.int .i64 (fsize k), fnV (fget b k).1 (fget b k).2, fnV (fset b k).1 (fset b k).2]
def fieldsC (b : Fb) : Array Value := #[.int .i64 4, fnV (fget b 0).1 (fget b 0).2, fnV (fset b 0).1 (fset b 0).2, .int .i64 4, fnV (fget b 1).1 (fget b 1).2, fnV (fset b 1).1 (fset b 1).2,
  .int .i64 6, fnV (fget b 2).1 (fget b 2).2, fnV (fset b 2).1 (fset b 2).2, .int .i64 6, fnV (fget b 3).1 (fget b 3).2, fnV (fset b 3).1 (fset b 3).2, .int .i64 6, fnV (fget b 4).1 (fget b 4).2, fnV (fset b 4).1 (fset b 4).2,
  .int .i64 1, fnV (fget b 5).1 (fget b 5).2, fnV (fset b 5).1 (fset b 5).2, .int .i64 1, fnV (fget b 6).1 (fget b 6).2, fnV (fset b 6).1 (fset b 6).2, .int .i64 2, fnV (fget b 7).1 (fget b 7).2, fnV (fset b 7).1 (fset b 7).2,
  .int .i64 2, fnV (fget b 8).1 (fget b 8).2, fnV (fset b 8).1 (fset b 8).2]
def fieldsV (b : Fb) : Value := .agg (fieldsC b)
def fieldsA (b : Fb) : Assn :=
  pt b.b0 (.cells #[.int .u64 1465012808] 32 (0, 0)) * (pt b.b2 (.cells #[fnV 69 #[]] 141 (0, 0)) * (pt b.b3 (.cells #[fnV 70 #[]] 141 (0, 0)) * (pt b.b4 (.cells #[fnV 71 #[]] 141 (0, 0)) *
    (pt b.b5 (.cells #[fnV 73 #[]] 144 (0, 0)) * (pt b.b6 (.cells #[fnV 74 #[]] 144 (0, 0)) * (pt b.b7 (.cells #[fnV 75 #[]] 144 (0, 0)) * pt b.b8 (.cells #[.int .u64 0] 32 (0, 0))))))))
end Go.SL
namespace Go.Proofs.YtlfooilcngjeiaaGreat
set_option linter.unusedVariables false
set_option linter.unusedSimpArgs false
open Go.RowKit Go.SL
def FixedQ (size n : Int) (w : World) (e : Ending) (w' : World) : Prop :=
  ∃ b, e = .returned (.agg #[.int .i64 size, fnV 85 #[ptV b], fnV 86 #[]]) ∧ Sat w' (pt b (.cells #[.int .u64 n] 32 (0, 0)) * whole w) ∧ Side w w'
theorem fixed_any (size n : Int) (w : World) : Calls Tryz.prog 65 #[.int .i64 size, .int .u64 n] w (FixedQ size n w) := by
  have hA := (Sat.whole w).alloc (.cells #[.int .u64 n] 32 (0, 0))
  have hs := (Side.refl w).alloc (.cells #[.int .u64 n] 32 (0, 0))
  go_enter Tryz.func65, Tryz.ntmps65
  go_wp2
  exact bodyPost_ret (v := .agg #[.int .i64 size, fnV 85 #[ptV w.heap.size], fnV 86 #[]]) (by simp [results, Tryz.results65, go_sem]) rfl ⟨_, rfl, SL.Sat.right (SL.Sat.alloc hA _), hs.alloc _⟩
def LongQ (f : Nat) (w : World) (e : Ending) (w' : World) : Prop :=
  ∃ b, e = .returned (.agg #[.int .i64 6, fnV 87 #[ptV b], fnV 88 #[ptV b]]) ∧ Sat w' (pt b (.cells #[fnV f #[]] 141 (0, 0)) * whole w) ∧ Side w w'
theorem long_any (f : Nat) (w : World) : Calls Tryz.prog 68 #[fnV f #[]] w (LongQ f w) := by
  have hA := (Sat.whole w).alloc (.cells #[fnV f #[]] 141 (0, 0))
  have hs := (Side.refl w).alloc (.cells #[fnV f #[]] 141 (0, 0))
  go_enter Tryz.func68, Tryz.ntmps68
  go_wp2
  exact bodyPost_ret (v := .agg #[.int .i64 6, fnV 87 #[ptV w.heap.size], fnV 88 #[ptV w.heap.size]]) (by simp [results, Tryz.results68, go_sem]) rfl ⟨_, rfl, SL.Sat.right (SL.Sat.alloc hA _), hs.alloc _⟩
def SmallQ (size : Int) (f : Nat) (w : World) (e : Ending) (w' : World) : Prop :=
  ∃ b, e = .returned (.agg #[.int .i64 size, fnV 89 #[ptV b], fnV 90 #[ptV b]]) ∧ Sat w' (pt b (.cells #[fnV f #[]] 144 (0, 0)) * whole w) ∧ Side w w'
theorem small_any (size : Int) (f : Nat) (w : World) : Calls Tryz.prog 72 #[.int .i64 size, fnV f #[]] w (SmallQ size f w) := by
  have hA := (Sat.whole w).alloc (.cells #[fnV f #[]] 144 (0, 0))
  have hs := (Side.refl w).alloc (.cells #[fnV f #[]] 144 (0, 0))
  go_enter Tryz.func72, Tryz.ntmps72
  go_wp2
  exact bodyPost_ret (v := .agg #[.int .i64 size, fnV 89 #[ptV w.heap.size], fnV 90 #[ptV w.heap.size]]) (by simp [results, Tryz.results72, go_sem]) rfl ⟨_, rfl, SL.Sat.right (SL.Sat.alloc hA _), hs.alloc _⟩
def FieldsQ (w : World) (e : Ending) (w' : World) : Prop := ∃ b, e = .returned (fieldsV b) ∧ Sat w' (fieldsA b * whole w) ∧ Side w w'
theorem info_fields0 : (Tryz.prog.info? 107).map (·.size) = some 27 := by kernel_rfl
theorem info_fields (b : Fb) : (Tryz.prog.info? 107).map (·.size) = some (fieldsC b).size := info_fields0
theorem fieldsC_one (b : Fb) : (fieldsC b).all (·.oneCell') = true := by
  simp [fieldsC, Value.oneCell', fnV]
def zero27 : Array Value := #[.int .i64 0, .nilFunc, .nilFunc, .int .i64 0, .nilFunc, .nilFunc, .int .i64 0, .nilFunc, .nilFunc, .int .i64 0, .nilFunc, .nilFunc, .int .i64 0, .nilFunc, .nilFunc, .int .i64 0, .nilFunc, .nilFunc, .int .i64 0, .nilFunc, .nilFunc, .int .i64 0, .nilFunc, .nilFunc, .int .i64 0, .nilFunc, .nilFunc]
set_option maxRecDepth 100000 in
set_option maxHeartbeats 2000000 in
theorem fields_any (w : World) : Calls Tryz.prog 43 #[] w (FieldsQ w) := by
  have H0 := (Sat.whole w).alloc (.cells zero27 107 (0, 0))
  have D0 := (Side.refl w).alloc (.cells zero27 107 (0, 0))
  go_enter Tryz.func43, Tryz.ntmps43
  go_wp2_with fail
  change Calls _ _ _ (w.alloc (.cells zero27 107 (0, 0))) _
  generalize w.alloc (.cells zero27 107 (0, 0)) = w0 at H0 D0 ⊢
  generalize w.heap.size = z at H0 ⊢
  refine (fixed_any 4 1465012808 _).mono ?_
  rintro e w1 ⟨b0, rfl, h1, d1⟩
  have H1 := h1.under H0
  have D1 := D0.trans d1
  clear h1 d1 H0 D0
  go_wp2_with fail
  refine (long_any 69 _).mono ?_
  rintro e w2 ⟨b2, rfl, h2, d2⟩
  have H2 := h2.under H1
  have D2 := D1.trans d2
  clear h2 d2 H1 D1
  go_wp2_with fail
  refine (long_any 70 _).mono ?_
  rintro e w3 ⟨b3, rfl, h3, d3⟩
  have H3 := h3.under H2
  have D3 := D2.trans d3
  clear h3 d3 H2 D2
  go_wp2_with fail
  refine (long_any 71 _).mono ?_
  rintro e w4 ⟨b4, rfl, h4, d4⟩
  have H4 := h4.under H3
  have D4 := D3.trans d4
  clear h4 d4 H3 D3
  go_wp2_with fail
  refine (small_any 1 73 _).mono ?_
  rintro e w5 ⟨b5, rfl, h5, d5⟩
  have H5 := h5.under H4
  have D5 := D4.trans d5
  clear h5 d5 H4 D4
  go_wp2_with fail
  refine (small_any 1 74 _).mono ?_
  rintro e w6 ⟨b6, rfl, h6, d6⟩
  have H6 := h6.under H5
  have D6 := D5.trans d6
  clear h6 d6 H5 D5
  go_wp2_with fail
  refine (small_any 2 75 _).mono ?_
  rintro e w7 ⟨b7, rfl, h7, d7⟩
  have H7 := h7.under H6
  have D7 := D6.trans d7
  clear h7 d7 H6 D6
  go_wp2_with fail
  refine (fixed_any 2 0 _).mono ?_
  rintro e w8 ⟨b8, rfl, h8, d8⟩
  have H8 := h8.under H7
  have D8 := D7.trans d8
  clear h8 d8 H7 D7
  obtain ⟨bb, hbb⟩ : ∃ bb : Fb, bb = ⟨b0, b2, b3, b4, b5, b6, b7, b8⟩ := ⟨_, rfl⟩
  have hz : w8.heap[z]? = some (.cells zero27 107 (0, 0)) := H8.front9.heap
  have H9 := H8.front9.setRow (cs' := fieldsC bb)
  have Hbb := SL.hid hbb
  clear hbb
  go_wp2_with (refine wpList_store_row rfl 107 (.tmp 0) (.tmp 10) rfl z (fieldsC ⟨b0, b2, b3, b4, b5, b6, b7, b8⟩) rfl rfl 107 zero27 hz (info_fields _) rfl (fieldsC_one _) ?_)
  rw [Hbb.out] at H9
  refine bodyPost_ret (v := fieldsV ⟨b0, b2, b3, b4, b5, b6, b7, b8⟩) (results_cell_row rfl _ _ z 107 _ (0, 0) _ rfl H9.heap Tryz.underlying107 rfl (info_fields _)) rfl ⟨⟨b0, b2, b3, b4, b5, b6, b7, b8⟩, rfl, ?_, D8.setRow _ _⟩
  exact H9.right.to (by unfold fieldsA; ac_rfl)
theorem at3 (b : Nat) (w : World) : Calls Tryz.prog 69 #[ptV b] w fun e w' => e = .returned (.pointer (some ⟨b, 2, none⟩)) ∧ w = w' := by
  go_enter Tryz.func69, Tryz.ntmps69
  go_wp2
  go_ret
  exact ⟨rfl, rfl⟩
theorem at4 (b : Nat) (w : World) : Calls Tryz.prog 70 #[ptV b] w fun e w' => e = .returned (.pointer (some ⟨b, 3, none⟩)) ∧ w = w' := by
  go_enter Tryz.func70, Tryz.ntmps70
  go_wp2
  go_ret
  exact ⟨rfl, rfl⟩
theorem at5 (b : Nat) (w : World) : Calls Tryz.prog 71 #[ptV b] w fun e w' => e = .returned (.pointer (some ⟨b, 1, none⟩)) ∧ w = w' := by
  go_enter Tryz.func71, Tryz.ntmps71
  go_wp2
  go_ret
  exact ⟨rfl, rfl⟩
theorem at6 (b : Nat) (w : World) : Calls Tryz.prog 73 #[ptV b] w fun e w' => e = .returned (.pointer (some ⟨b, 4, none⟩)) ∧ w = w' := by
  go_enter Tryz.func73, Tryz.ntmps73
  go_wp2
  go_ret
  exact ⟨rfl, rfl⟩
theorem at7 (b : Nat) (w : World) : Calls Tryz.prog 74 #[ptV b] w fun e w' => e = .returned (.pointer (some ⟨b, 5, none⟩)) ∧ w = w' := by
  go_enter Tryz.func74, Tryz.ntmps74
  go_wp2
  go_ret
  exact ⟨rfl, rfl⟩
theorem at8 (b : Nat) (w : World) : Calls Tryz.prog 75 #[ptV b] w fun e w' => e = .returned (.pointer (some ⟨b, 6, none⟩)) ∧ w = w' := by
  go_enter Tryz.func75, Tryz.ntmps75
  go_wp2
  go_ret
  exact ⟨rfl, rfl⟩
theorem en_x1 : ∀ args w, (callFunc 85 args).run Tryz.prog w = .ok (.enter 85 args) w := enters Tryz.func85 (by kernel_rfl) rfl
theorem en_x2 : ∀ args w, (callFunc 86 args).run Tryz.prog w = .ok (.enter 86 args) w := enters Tryz.func86 (by kernel_rfl) rfl
theorem en_l1 : ∀ args w, (callFunc 87 args).run Tryz.prog w = .ok (.enter 87 args) w := enters Tryz.func87 (by kernel_rfl) rfl
theorem en_l2 : ∀ args w, (callFunc 88 args).run Tryz.prog w = .ok (.enter 88 args) w := enters Tryz.func88 (by kernel_rfl) rfl
theorem en_s1 : ∀ args w, (callFunc 89 args).run Tryz.prog w = .ok (.enter 89 args) w := enters Tryz.func89 (by kernel_rfl) rfl
theorem en_s2 : ∀ args w, (callFunc 90 args).run Tryz.prog w = .ok (.enter 90 args) w := enters Tryz.func90 (by kernel_rfl) rfl
theorem en_f1 : ∀ args w, (callFunc 66 args).run Tryz.prog w = .ok (.enter 66 args) w := enters Tryz.func66 (by kernel_rfl) rfl
theorem en_f2 : ∀ args w, (callFunc 67 args).run Tryz.prog w = .ok (.enter 67 args) w := enters Tryz.func67 (by kernel_rfl) rfl
theorem en_f3 : ∀ args w, (callFunc 69 args).run Tryz.prog w = .ok (.enter 69 args) w := enters Tryz.func69 (by kernel_rfl) rfl
theorem en_f4 : ∀ args w, (callFunc 70 args).run Tryz.prog w = .ok (.enter 70 args) w := enters Tryz.func70 (by kernel_rfl) rfl
theorem en_f5 : ∀ args w, (callFunc 71 args).run Tryz.prog w = .ok (.enter 71 args) w := enters Tryz.func71 (by kernel_rfl) rfl
theorem en_f6 : ∀ args w, (callFunc 73 args).run Tryz.prog w = .ok (.enter 73 args) w := enters Tryz.func73 (by kernel_rfl) rfl
theorem en_f7 : ∀ args w, (callFunc 74 args).run Tryz.prog w = .ok (.enter 74 args) w := enters Tryz.func74 (by kernel_rfl) rfl
theorem en_f8 : ∀ args w, (callFunc 75 args).run Tryz.prog w = .ok (.enter 75 args) w := enters Tryz.func75 (by kernel_rfl) rfl
theorem getX (b : Nat) (n : Int) (t : Tg) (w : World) (F : Assn) (h : Sat w (pt b (.cells #[.int .u64 n] 32 (0, 0)) * F)) :
    Calls Tryz.prog 85 #[.agg t.cells, ptV b] w (Tells (.int .u64 n) w) := by
  have hc : w.cell? ⟨b, 0, none⟩ = some (.int .u64 n) := h.cell 0
  have hl := h.lt
  clear h
  simp only [Tg.cells]
  go_enter Tryz.func85, Tryz.ntmps85
  go_wp2
  go_ret
  exact ⟨rfl, SL.Sat.right (SL.Sat.alloc (Sat.whole w) _), (Side.refl w).alloc _⟩
theorem getE (t : Tg) (w : World) (ht : t.Fit) : Calls Tryz.prog 66 #[.agg t.cells] w (Tells (.int .u64 t.ep) w) := by
  obtain ⟨h0, h1, _, _, _, _, _, _⟩ := ht
  simp only [Tg.cells]
  go_enter Tryz.func66, Tryz.ntmps66
  go_wp2
  go_ret
  exact ⟨rfl, SL.Sat.right (SL.Sat.alloc (Sat.whole w) _), (Side.refl w).alloc _⟩
theorem getL (b f o : Nat) (n : Int) (t : Tg) (w : World) (F : Assn) (h : Sat w (pt b (.cells #[fnV f #[]] 141 (0, 0)) * F)) (hen : ∀ args w, (callFunc f args).run Tryz.prog w = .ok (.enter f args) w)
    (hat : ∀ (b : Nat) (w : World), Calls Tryz.prog f #[ptV b] w fun e w' => e = .returned (.pointer (some ⟨b, o, none⟩)) ∧ w = w') (ho : t.cells[o]? = some (.int .u64 n)) :
    Calls Tryz.prog 87 #[.agg t.cells, ptV b] w (Tells (.int .u64 n) w) := by
  have hc : w.cell? ⟨b, 0, none⟩ = some (fnV f #[]) := h.cell 0
  have hl := h.lt
  have hA := (Sat.whole w).alloc (.cells t.cells 59 (0, 0))
  have hco := (hA.cell o).trans ho
  clear h ho
  simp only [Tg.cells] at hA hco ⊢
  go_enter Tryz.func87, Tryz.ntmps87
  go_wp2_with fail
  refine (hat _ _).mono ?_
  rintro e w1 ⟨rfl, rfl⟩
  go_wp2
  go_ret
  exact ⟨rfl, SL.Sat.right hA, (Side.refl w).alloc _⟩
theorem getS (b f o : Nat) (n : Int) (t : Tg) (w : World) (F : Assn) (h : Sat w (pt b (.cells #[fnV f #[]] 144 (0, 0)) * F)) (hen : ∀ args w, (callFunc f args).run Tryz.prog w = .ok (.enter f args) w)
    (hat : ∀ (b : Nat) (w : World), Calls Tryz.prog f #[ptV b] w fun e w' => e = .returned (.pointer (some ⟨b, o, none⟩)) ∧ w = w') (ho : t.cells[o]? = some (.int .i64 n)) :
    Calls Tryz.prog 89 #[.agg t.cells, ptV b] w (Tells (.int .u64 (u64w n)) w) := by
  have hc : w.cell? ⟨b, 0, none⟩ = some (fnV f #[]) := h.cell 0
  have hl := h.lt
  have hA := (Sat.whole w).alloc (.cells t.cells 59 (0, 0))
  have hco := (hA.cell o).trans ho
  clear h ho
  simp only [Tg.cells] at hA hco ⊢
  go_enter Tryz.func89, Tryz.ntmps89
  go_wp2_with fail
  refine (hat _ _).mono ?_
  rintro e w1 ⟨rfl, rfl⟩
  go_wp2
  go_ret
  exact ⟨rfl, SL.Sat.right hA, (Side.refl w).alloc _⟩
theorem fieldsO {w : World} {b : Fb} {F : Assn} (h : Sat w (fieldsA b * F)) : Sat w (pt b.b0 (.cells #[.int .u64 1465012808] 32 (0, 0)) * (pt b.b2 (.cells #[fnV 69 #[]] 141 (0, 0)) * (pt b.b3 (.cells #[fnV 70 #[]] 141 (0, 0)) * (pt b.b4 (.cells #[fnV 71 #[]] 141 (0, 0)) *
    (pt b.b5 (.cells #[fnV 73 #[]] 144 (0, 0)) * (pt b.b6 (.cells #[fnV 74 #[]] 144 (0, 0)) * (pt b.b7 (.cells #[fnV 75 #[]] 144 (0, 0)) * (pt b.b8 (.cells #[.int .u64 0] 32 (0, 0)) * F)))))))) := h.to (by unfold fieldsA; ac_rfl)
/-- A getter's contract. -/
theorem get_k (b : Fb) (t : Tg) (k : Nat) (hk : k < 9) (ht : t.Fit) :
    ∃ f caps, fget b k = (f, caps) ∧ (∀ args w, (callFunc f args).run Tryz.prog w = .ok (.enter f args) w) ∧
      ∀ w F, Sat w (fieldsA b * F) → Calls Tryz.prog f (#[.agg t.cells] ++ caps) w (Tells (.int .u64 (t.field k)) w) := by
  match k, hk with
  | 0, _ => exact ⟨_, _, rfl, en_x1, fun w F h => getX b.b0 _ t w _ (fieldsO h)⟩
  | 1, _ => exact ⟨_, _, rfl, en_f1, fun w F h => getE t w ht⟩
  | 2, _ => exact ⟨_, _, rfl, en_l1, fun w F h => getL b.b2 _ 2 _ t w _ (fieldsO h).front2 en_f3 at3 rfl⟩
  | 3, _ => exact ⟨_, _, rfl, en_l1, fun w F h => getL b.b3 _ 3 _ t w _ (fieldsO h).front3 en_f4 at4 rfl⟩
  | 4, _ => exact ⟨_, _, rfl, en_l1, fun w F h => getL b.b4 _ 1 _ t w _ (fieldsO h).front4 en_f5 at5 rfl⟩
  | 5, _ => exact ⟨_, _, rfl, en_s1, fun w F h => getS b.b5 _ 4 _ t w _ (fieldsO h).front5 en_f6 at6 rfl⟩
  | 6, _ => exact ⟨_, _, rfl, en_s1, fun w F h => getS b.b6 _ 5 _ t w _ (fieldsO h).front6 en_f7 at7 rfl⟩
  | 7, _ => exact ⟨_, _, rfl, en_s1, fun w F h => getS b.b7 _ 6 _ t w _ (fieldsO h).front7 en_f8 at8 rfl⟩
  | 8, _ => exact ⟨_, _, rfl, en_x1, fun w F h => getX b.b8 _ t w _ (fieldsO h).front8⟩
end Go.Proofs.YtlfooilcngjeiaaGreat

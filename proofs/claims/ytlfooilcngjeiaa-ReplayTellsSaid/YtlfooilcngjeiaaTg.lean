/- tag: its fields. -/
import Derived.Test.YtlfooilcngjeiaaDe
import Derived.Laws.EntriesVeiled
import Derived.Laws.Tables
import Derived.Laws.Rows
namespace Go.SL
set_option linter.unusedVariables false
set_option linter.unusedSimpArgs false
open Go.RowKit
structure Tg where
  ep : Int
  st : Int
  sq : Int
  fl : Int
  ix : Int
  ct : Int
  id : Int
def Tg.cells (t : Tg) : Array Value := #[.int .u32 t.ep, .int .u64 t.st, .int .u64 t.sq, .int .u64 t.fl, .int .i64 t.ix, .int .i64 t.ct, .int .i64 t.id]
/-- Numbers as they may be in memory. -/
structure Tg.Fit (t : Tg) : Prop where
  ep0 : 0 ≤ t.ep
  ep1 : t.ep < 4294967296
  st0 : 0 ≤ t.st
  st1 : t.st < 18446744073709551616
  sq0 : 0 ≤ t.sq
  sq1 : t.sq < 18446744073709551616
  fl0 : 0 ≤ t.fl
  fl1 : t.fl < 18446744073709551616
def magic : Int := 1465012808
def Tg.ok (t : Tg) : Bool := decide (1 ≤ t.ep) && decide (1 ≤ t.st) && decide (t.st ≤ t.sq) && decide (t.sq ≤ 281474976710655) && decide (t.fl < t.sq) &&
  decide (1 ≤ t.ct) && decide (t.ct ≤ 72) && decide (0 ≤ t.ix) && decide (t.ix < t.ct) && decide (0 ≤ t.id) && decide (t.id < 3840)
def u64w (n : Int) : Int := n % 18446744073709551616
/-- What the k-th field is of a tag. -/
def Tg.field (t : Tg) : Nat → Int
  | 0 => magic
  | 1 => t.ep
  | 2 => t.sq
  | 3 => t.fl
  | 4 => t.st
  | 5 => u64w t.ix
  | 6 => u64w t.ct
  | 7 => u64w t.id
  | _ => 0
def fsize : Nat → Nat
  | 0 => 4
  | 1 => 4
  | 2 => 6
  | 3 => 6
  | 4 => 6
  | 5 => 1
  | 6 => 1
  | 7 => 2
  | _ => 2
/-- The blocks that the fields' functions hold. -/
structure Fb where
  b0 : Nat
  b2 : Nat
  b3 : Nat
  b4 : Nat
  b5 : Nat
  b6 : Nat
  b7 : Nat
  b8 : Nat
abbrev fnV (f : Nat) (caps : Array Value) : Value := .func (.func f) #[] caps
abbrev ptV (b : Nat) : Value := .pointer (some ⟨b, 0, none⟩)
def fget (b : Fb) : Nat → Nat × Array Value
  | 0 => (106, #[ptV b.b0])
  | 1 => (87, #[])
  | 2 => (108, #[ptV b.b2])
  | 3 => (108, #[ptV b.b3])
  | 4 => (108, #[ptV b.b4])
  | 5 => (110, #[ptV b.b5])
  | 6 => (110, #[ptV b.b6])
  | 7 => (110, #[ptV b.b7])
  | _ => (106, #[ptV b.b8])
def fset (b : Fb) : Nat → Nat × Array Value
  | 0 => (107, #[])
  | 1 => (88, #[])
  | 2 => (109, #[ptV b.b2])
  | 3 => (109, #[ptV b.b3])
  | 4 => (109, #[ptV b.b4])
  | 5 => (111, #[ptV b.b5])
  | 6 => (111, #[ptV b.b6])
  | 7 => (111, #[ptV b.b7])
  | _ => (107, #[])
def fcells (b : Fb) (k : Nat) : Array Value := #[.int .i64 (fsize k), fnV (fget b k).1 (fget b k).2, fnV (fset b k).1 (fset b k).2]
def fieldsC (b : Fb) : Array Value := #[.int .i64 4, fnV (fget b 0).1 (fget b 0).2, fnV (fset b 0).1 (fset b 0).2, .int .i64 4, fnV (fget b 1).1 (fget b 1).2, fnV (fset b 1).1 (fset b 1).2,
  .int .i64 6, fnV (fget b 2).1 (fget b 2).2, fnV (fset b 2).1 (fset b 2).2, .int .i64 6, fnV (fget b 3).1 (fget b 3).2, fnV (fset b 3).1 (fset b 3).2, .int .i64 6, fnV (fget b 4).1 (fget b 4).2, fnV (fset b 4).1 (fset b 4).2,
  .int .i64 1, fnV (fget b 5).1 (fget b 5).2, fnV (fset b 5).1 (fset b 5).2, .int .i64 1, fnV (fget b 6).1 (fget b 6).2, fnV (fset b 6).1 (fset b 6).2, .int .i64 2, fnV (fget b 7).1 (fget b 7).2, fnV (fset b 7).1 (fset b 7).2,
  .int .i64 2, fnV (fget b 8).1 (fget b 8).2, fnV (fset b 8).1 (fset b 8).2]
def fieldsV (b : Fb) : Value := .agg (fieldsC b)
def fieldsA (b : Fb) : Assn :=
  pt b.b0 (.cells #[.int .u64 1465012808] 23 (0, 0)) * (pt b.b2 (.cells #[fnV 90 #[]] 170 (0, 0)) * (pt b.b3 (.cells #[fnV 91 #[]] 170 (0, 0)) * (pt b.b4 (.cells #[fnV 92 #[]] 170 (0, 0)) *
    (pt b.b5 (.cells #[fnV 94 #[]] 173 (0, 0)) * (pt b.b6 (.cells #[fnV 95 #[]] 173 (0, 0)) * (pt b.b7 (.cells #[fnV 96 #[]] 173 (0, 0)) * pt b.b8 (.cells #[.int .u64 0] 23 (0, 0))))))))
end Go.SL
namespace Go.Proofs.Ytlfooilcngjeiaa
set_option linter.unusedVariables false
set_option linter.unusedSimpArgs false
open Go.RowKit Go.SL
def FixedQ (size n : Int) (w : World) (e : Ending) (w' : World) : Prop :=
  ∃ b, e = .returned (.agg #[.int .i64 size, fnV 106 #[ptV b], fnV 107 #[]]) ∧ Sat w' (pt b (.cells #[.int .u64 n] 23 (0, 0)) * whole w) ∧ Side w w'
theorem fixed_any (size n : Int) (w : World) : Calls Try.prog 86 #[.int .i64 size, .int .u64 n] w (FixedQ size n w) := by
  have hA := (Sat.whole w).alloc (.cells #[.int .u64 n] 23 (0, 0))
  have hs := (Side.refl w).alloc (.cells #[.int .u64 n] 23 (0, 0))
  go_enter Try.func86, Try.ntmps86
  go_wp2
  exact bodyPost_ret (v := .agg #[.int .i64 size, fnV 106 #[ptV w.heap.size], fnV 107 #[]]) (by simp [results, Try.results86, go_sem]) rfl ⟨_, rfl, SL.Sat.right (SL.Sat.alloc hA _), hs.alloc _⟩
def LongQ (f : Nat) (w : World) (e : Ending) (w' : World) : Prop :=
  ∃ b, e = .returned (.agg #[.int .i64 6, fnV 108 #[ptV b], fnV 109 #[ptV b]]) ∧ Sat w' (pt b (.cells #[fnV f #[]] 170 (0, 0)) * whole w) ∧ Side w w'
theorem long_any (f : Nat) (w : World) : Calls Try.prog 89 #[fnV f #[]] w (LongQ f w) := by
  have hA := (Sat.whole w).alloc (.cells #[fnV f #[]] 170 (0, 0))
  have hs := (Side.refl w).alloc (.cells #[fnV f #[]] 170 (0, 0))
  go_enter Try.func89, Try.ntmps89
  go_wp2
  exact bodyPost_ret (v := .agg #[.int .i64 6, fnV 108 #[ptV w.heap.size], fnV 109 #[ptV w.heap.size]]) (by simp [results, Try.results89, go_sem]) rfl ⟨_, rfl, SL.Sat.right (SL.Sat.alloc hA _), hs.alloc _⟩
def SmallQ (size : Int) (f : Nat) (w : World) (e : Ending) (w' : World) : Prop :=
  ∃ b, e = .returned (.agg #[.int .i64 size, fnV 110 #[ptV b], fnV 111 #[ptV b]]) ∧ Sat w' (pt b (.cells #[fnV f #[]] 173 (0, 0)) * whole w) ∧ Side w w'
theorem small_any (size : Int) (f : Nat) (w : World) : Calls Try.prog 93 #[.int .i64 size, fnV f #[]] w (SmallQ size f w) := by
  have hA := (Sat.whole w).alloc (.cells #[fnV f #[]] 173 (0, 0))
  have hs := (Side.refl w).alloc (.cells #[fnV f #[]] 173 (0, 0))
  go_enter Try.func93, Try.ntmps93
  go_wp2
  exact bodyPost_ret (v := .agg #[.int .i64 size, fnV 110 #[ptV w.heap.size], fnV 111 #[ptV w.heap.size]]) (by simp [results, Try.results93, go_sem]) rfl ⟨_, rfl, SL.Sat.right (SL.Sat.alloc hA _), hs.alloc _⟩
def FieldsQ (w : World) (e : Ending) (w' : World) : Prop := ∃ b, e = .returned (fieldsV b) ∧ Sat w' (fieldsA b * whole w) ∧ Side w w'
theorem info_fields0 : (Try.prog.info? 134).map (·.size) = some 27 := by kernel_rfl
theorem info_fields (b : Fb) : (Try.prog.info? 134).map (·.size) = some (fieldsC b).size := info_fields0
theorem fieldsC_one (b : Fb) : (fieldsC b).all (·.oneCell') = true := by
  simp [fieldsC, Value.oneCell', fnV]
def zero27 : Array Value := #[.int .i64 0, .nilFunc, .nilFunc, .int .i64 0, .nilFunc, .nilFunc, .int .i64 0, .nilFunc, .nilFunc, .int .i64 0, .nilFunc, .nilFunc, .int .i64 0, .nilFunc, .nilFunc, .int .i64 0, .nilFunc, .nilFunc, .int .i64 0, .nilFunc, .nilFunc, .int .i64 0, .nilFunc, .nilFunc, .int .i64 0, .nilFunc, .nilFunc]
set_option maxRecDepth 100000 in
set_option maxHeartbeats 2000000 in
theorem fields_any (w : World) : Calls Try.prog 61 #[] w (FieldsQ w) := by
  have H0 := (Sat.whole w).alloc (.cells zero27 134 (0, 0))
  have D0 := (Side.refl w).alloc (.cells zero27 134 (0, 0))
  go_enter Try.func61, Try.ntmps61
  go_wp2_with fail
  change Calls _ _ _ (w.alloc (.cells zero27 134 (0, 0))) _
  generalize w.alloc (.cells zero27 134 (0, 0)) = w0 at H0 D0 ⊢
  generalize w.heap.size = z at H0 ⊢
  refine (fixed_any 4 1465012808 _).mono ?_
  rintro e w1 ⟨b0, rfl, h1, d1⟩
  have H1 := h1.under H0
  have D1 := D0.trans d1
  clear h1 d1 H0 D0
  go_wp2_with fail
  refine (long_any 90 _).mono ?_
  rintro e w2 ⟨b2, rfl, h2, d2⟩
  have H2 := h2.under H1
  have D2 := D1.trans d2
  clear h2 d2 H1 D1
  go_wp2_with fail
  refine (long_any 91 _).mono ?_
  rintro e w3 ⟨b3, rfl, h3, d3⟩
  have H3 := h3.under H2
  have D3 := D2.trans d3
  clear h3 d3 H2 D2
  go_wp2_with fail
  refine (long_any 92 _).mono ?_
  rintro e w4 ⟨b4, rfl, h4, d4⟩
  have H4 := h4.under H3
  have D4 := D3.trans d4
  clear h4 d4 H3 D3
  go_wp2_with fail
  refine (small_any 1 94 _).mono ?_
  rintro e w5 ⟨b5, rfl, h5, d5⟩
  have H5 := h5.under H4
  have D5 := D4.trans d5
  clear h5 d5 H4 D4
  go_wp2_with fail
  refine (small_any 1 95 _).mono ?_
  rintro e w6 ⟨b6, rfl, h6, d6⟩
  have H6 := h6.under H5
  have D6 := D5.trans d6
  clear h6 d6 H5 D5
  go_wp2_with fail
  refine (small_any 2 96 _).mono ?_
  rintro e w7 ⟨b7, rfl, h7, d7⟩
  have H7 := h7.under H6
  have D7 := D6.trans d7
  clear h7 d7 H6 D6
  go_wp2_with fail
  refine (fixed_any 2 0 _).mono ?_
  rintro e w8 ⟨b8, rfl, h8, d8⟩
  have H8 := h8.under H7
  have D8 := D7.trans d8
  clear h8 d8 H7 D7
  obtain ⟨bb, hbb⟩ : ∃ bb : Fb, bb = ⟨b0, b2, b3, b4, b5, b6, b7, b8⟩ := ⟨_, rfl⟩
  have hz : w8.heap[z]? = some (.cells zero27 134 (0, 0)) := H8.front9.heap
  have H9 := H8.front9.setRow (cs' := fieldsC bb)
  have Hbb := SL.hid hbb
  clear hbb
  go_wp2_with (refine wpList_store_row rfl 134 (.tmp 0) (.tmp 10) rfl z (fieldsC ⟨b0, b2, b3, b4, b5, b6, b7, b8⟩) rfl rfl 134 zero27 hz (info_fields _) rfl (fieldsC_one _) ?_)
  rw [Hbb.out] at H9
  refine bodyPost_ret (v := fieldsV ⟨b0, b2, b3, b4, b5, b6, b7, b8⟩) (results_cell_row rfl _ _ z 134 _ (0, 0) _ rfl H9.heap Try.underlying134 rfl (info_fields _)) rfl ⟨⟨b0, b2, b3, b4, b5, b6, b7, b8⟩, rfl, ?_, D8.setRow _ _⟩
  exact H9.right.to (by unfold fieldsA; ac_rfl)
theorem at3 (b : Nat) (w : World) : Calls Try.prog 90 #[ptV b] w fun e w' => e = .returned (.pointer (some ⟨b, 2, none⟩)) ∧ w = w' := by
  go_enter Try.func90, Try.ntmps90
  go_wp2
  go_ret
  exact ⟨rfl, rfl⟩
theorem at4 (b : Nat) (w : World) : Calls Try.prog 91 #[ptV b] w fun e w' => e = .returned (.pointer (some ⟨b, 3, none⟩)) ∧ w = w' := by
  go_enter Try.func91, Try.ntmps91
  go_wp2
  go_ret
  exact ⟨rfl, rfl⟩
theorem at5 (b : Nat) (w : World) : Calls Try.prog 92 #[ptV b] w fun e w' => e = .returned (.pointer (some ⟨b, 1, none⟩)) ∧ w = w' := by
  go_enter Try.func92, Try.ntmps92
  go_wp2
  go_ret
  exact ⟨rfl, rfl⟩
theorem at6 (b : Nat) (w : World) : Calls Try.prog 94 #[ptV b] w fun e w' => e = .returned (.pointer (some ⟨b, 4, none⟩)) ∧ w = w' := by
  go_enter Try.func94, Try.ntmps94
  go_wp2
  go_ret
  exact ⟨rfl, rfl⟩
theorem at7 (b : Nat) (w : World) : Calls Try.prog 95 #[ptV b] w fun e w' => e = .returned (.pointer (some ⟨b, 5, none⟩)) ∧ w = w' := by
  go_enter Try.func95, Try.ntmps95
  go_wp2
  go_ret
  exact ⟨rfl, rfl⟩
theorem at8 (b : Nat) (w : World) : Calls Try.prog 96 #[ptV b] w fun e w' => e = .returned (.pointer (some ⟨b, 6, none⟩)) ∧ w = w' := by
  go_enter Try.func96, Try.ntmps96
  go_wp2
  go_ret
  exact ⟨rfl, rfl⟩
theorem en_x1 : ∀ args w, (callFunc 106 args).run Try.prog w = .ok (.enter 106 args) w := enters Try.func106 (by kernel_rfl) rfl
theorem en_x2 : ∀ args w, (callFunc 107 args).run Try.prog w = .ok (.enter 107 args) w := enters Try.func107 (by kernel_rfl) rfl
theorem en_l1 : ∀ args w, (callFunc 108 args).run Try.prog w = .ok (.enter 108 args) w := enters Try.func108 (by kernel_rfl) rfl
theorem en_l2 : ∀ args w, (callFunc 109 args).run Try.prog w = .ok (.enter 109 args) w := enters Try.func109 (by kernel_rfl) rfl
theorem en_s1 : ∀ args w, (callFunc 110 args).run Try.prog w = .ok (.enter 110 args) w := enters Try.func110 (by kernel_rfl) rfl
theorem en_s2 : ∀ args w, (callFunc 111 args).run Try.prog w = .ok (.enter 111 args) w := enters Try.func111 (by kernel_rfl) rfl
theorem en_f1 : ∀ args w, (callFunc 87 args).run Try.prog w = .ok (.enter 87 args) w := enters Try.func87 (by kernel_rfl) rfl
theorem en_f2 : ∀ args w, (callFunc 88 args).run Try.prog w = .ok (.enter 88 args) w := enters Try.func88 (by kernel_rfl) rfl
theorem en_f3 : ∀ args w, (callFunc 90 args).run Try.prog w = .ok (.enter 90 args) w := enters Try.func90 (by kernel_rfl) rfl
theorem en_f4 : ∀ args w, (callFunc 91 args).run Try.prog w = .ok (.enter 91 args) w := enters Try.func91 (by kernel_rfl) rfl
theorem en_f5 : ∀ args w, (callFunc 92 args).run Try.prog w = .ok (.enter 92 args) w := enters Try.func92 (by kernel_rfl) rfl
theorem en_f6 : ∀ args w, (callFunc 94 args).run Try.prog w = .ok (.enter 94 args) w := enters Try.func94 (by kernel_rfl) rfl
theorem en_f7 : ∀ args w, (callFunc 95 args).run Try.prog w = .ok (.enter 95 args) w := enters Try.func95 (by kernel_rfl) rfl
theorem en_f8 : ∀ args w, (callFunc 96 args).run Try.prog w = .ok (.enter 96 args) w := enters Try.func96 (by kernel_rfl) rfl
theorem getX (b : Nat) (n : Int) (t : Tg) (w : World) (F : Assn) (h : Sat w (pt b (.cells #[.int .u64 n] 23 (0, 0)) * F)) :
    Calls Try.prog 106 #[.agg t.cells, ptV b] w (Tells (.int .u64 n) w) := by
  have hc : w.cell? ⟨b, 0, none⟩ = some (.int .u64 n) := h.cell 0
  have hl := h.lt
  clear h
  simp only [Tg.cells]
  go_enter Try.func106, Try.ntmps106
  go_wp2
  go_ret
  exact ⟨rfl, SL.Sat.right (SL.Sat.alloc (Sat.whole w) _), (Side.refl w).alloc _⟩
theorem getE (t : Tg) (w : World) (ht : t.Fit) : Calls Try.prog 87 #[.agg t.cells] w (Tells (.int .u64 t.ep) w) := by
  obtain ⟨h0, h1, _, _, _, _, _, _⟩ := ht
  simp only [Tg.cells]
  go_enter Try.func87, Try.ntmps87
  go_wp2
  go_ret
  exact ⟨rfl, SL.Sat.right (SL.Sat.alloc (Sat.whole w) _), (Side.refl w).alloc _⟩
theorem getL (b f o : Nat) (n : Int) (t : Tg) (w : World) (F : Assn) (h : Sat w (pt b (.cells #[fnV f #[]] 170 (0, 0)) * F)) (hen : ∀ args w, (callFunc f args).run Try.prog w = .ok (.enter f args) w)
    (hat : ∀ (b : Nat) (w : World), Calls Try.prog f #[ptV b] w fun e w' => e = .returned (.pointer (some ⟨b, o, none⟩)) ∧ w = w') (ho : t.cells[o]? = some (.int .u64 n)) :
    Calls Try.prog 108 #[.agg t.cells, ptV b] w (Tells (.int .u64 n) w) := by
  have hc : w.cell? ⟨b, 0, none⟩ = some (fnV f #[]) := h.cell 0
  have hl := h.lt
  have hA := (Sat.whole w).alloc (.cells t.cells 74 (0, 0))
  have hco := (hA.cell o).trans ho
  clear h ho
  simp only [Tg.cells] at hA hco ⊢
  go_enter Try.func108, Try.ntmps108
  go_wp2_with fail
  refine (hat _ _).mono ?_
  rintro e w1 ⟨rfl, rfl⟩
  go_wp2
  go_ret
  exact ⟨rfl, SL.Sat.right hA, (Side.refl w).alloc _⟩
theorem getS (b f o : Nat) (n : Int) (t : Tg) (w : World) (F : Assn) (h : Sat w (pt b (.cells #[fnV f #[]] 173 (0, 0)) * F)) (hen : ∀ args w, (callFunc f args).run Try.prog w = .ok (.enter f args) w)
    (hat : ∀ (b : Nat) (w : World), Calls Try.prog f #[ptV b] w fun e w' => e = .returned (.pointer (some ⟨b, o, none⟩)) ∧ w = w') (ho : t.cells[o]? = some (.int .i64 n)) :
    Calls Try.prog 110 #[.agg t.cells, ptV b] w (Tells (.int .u64 (u64w n)) w) := by
  have hc : w.cell? ⟨b, 0, none⟩ = some (fnV f #[]) := h.cell 0
  have hl := h.lt
  have hA := (Sat.whole w).alloc (.cells t.cells 74 (0, 0))
  have hco := (hA.cell o).trans ho
  clear h ho
  simp only [Tg.cells] at hA hco ⊢
  go_enter Try.func110, Try.ntmps110
  go_wp2_with fail
  refine (hat _ _).mono ?_
  rintro e w1 ⟨rfl, rfl⟩
  go_wp2
  go_ret
  exact ⟨rfl, SL.Sat.right hA, (Side.refl w).alloc _⟩
theorem fieldsO {w : World} {b : Fb} {F : Assn} (h : Sat w (fieldsA b * F)) : Sat w (pt b.b0 (.cells #[.int .u64 1465012808] 23 (0, 0)) * (pt b.b2 (.cells #[fnV 90 #[]] 170 (0, 0)) * (pt b.b3 (.cells #[fnV 91 #[]] 170 (0, 0)) * (pt b.b4 (.cells #[fnV 92 #[]] 170 (0, 0)) *
    (pt b.b5 (.cells #[fnV 94 #[]] 173 (0, 0)) * (pt b.b6 (.cells #[fnV 95 #[]] 173 (0, 0)) * (pt b.b7 (.cells #[fnV 96 #[]] 173 (0, 0)) * (pt b.b8 (.cells #[.int .u64 0] 23 (0, 0)) * F)))))))) := h.to (by unfold fieldsA; ac_rfl)
/-- A getter's contract. -/
theorem get_k (b : Fb) (t : Tg) (k : Nat) (hk : k < 9) (ht : t.Fit) :
    ∃ f caps, fget b k = (f, caps) ∧ (∀ args w, (callFunc f args).run Try.prog w = .ok (.enter f args) w) ∧
      ∀ w F, Sat w (fieldsA b * F) → Calls Try.prog f (#[.agg t.cells] ++ caps) w (Tells (.int .u64 (t.field k)) w) := by
  match k, hk with
  | 0, _ => exact ⟨_, _, rfl, en_x1, fun w F h => getX b.b0 _ t w _ (fieldsO h)⟩
  | 1, _ => exact ⟨_, _, rfl, en_f1, fun w F h => getE t w ht⟩
  | 2, _ => exact ⟨_, _, rfl, en_l1, fun w F h => getL b.b2 _ 2 _ t w _ (fieldsO h).front2 en_f3 at3 rfl⟩
  | 3, _ => exact ⟨_, _, rfl, en_l1, fun w F h => getL b.b3 _ 3 _ t w _ (fieldsO h).front3 en_f4 at4 rfl⟩
  | 4, _ => exact ⟨_, _, rfl, en_l1, fun w F h => getL b.b4 _ 1 _ t w _ (fieldsO h).front4 en_f5 at5 rfl⟩
  | 5, _ => exact ⟨_, _, rfl, en_s1, fun w F h => getS b.b5 _ 4 _ t w _ (fieldsO h).front5 en_f6 at6 rfl⟩
  | 6, _ => exact ⟨_, _, rfl, en_s1, fun w F h => getS b.b6 _ 5 _ t w _ (fieldsO h).front6 en_f7 at7 rfl⟩
  | 7, _ => exact ⟨_, _, rfl, en_s1, fun w F h => getS b.b7 _ 6 _ t w _ (fieldsO h).front7 en_f8 at8 rfl⟩
  | 8, _ => exact ⟨_, _, rfl, en_x1, fun w F h => getX b.b8 _ t w _ (fieldsO h).front8⟩
end Go.Proofs.Ytlfooilcngjeiaa

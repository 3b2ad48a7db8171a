/- Steps towards the statement StoreC. -/
import Derived.Test.YtdafdidmbeecfaaGreatDoorStoreCP10
import Derived.Laws.EntriesVeiled
import Derived.Laws.Tables
import Derived.Laws.Rows
import Derived.Laws.BytesString
import Derived.Deep.RegionHeld3
section
namespace Go.SL
set_option linter.unusedVariables false
set_option linter.unusedSimpArgs false
open Go.RowKit
structure Tg where
 ep : Int
 st : Int
 sq : Int
 fl : Int
 ix : Int
 ct : Int
 id : Int
def Tg.cells (t : Tg) : Array Value := #[.int .u32 t.ep, .int .u64 t.st, .int .u64 t.sq, .int .u64 t.fl, .int .i64 t.ix, .int .i64 t.ct, .int .i64 t.id]
structure Tg.Fit (t : Tg) : Prop where
 ep0 : 0 ≤ t.ep
 ep1 : t.ep < 4294967296
 st0 : 0 ≤ t.st
 st1 : t.st < 18446744073709551616
 sq0 : 0 ≤ t.sq
 sq1 : t.sq < 18446744073709551616
 fl0 : 0 ≤ t.fl
 fl1 : t.fl < 18446744073709551616
def magic : Int := 1465012808
def Tg.ok (t : Tg) : Bool := decide (1 ≤ t.ep) && decide (1 ≤ t.st) && decide (t.st ≤ t.sq) && decide (t.sq ≤ 281474976710655) && decide (t.fl < t.sq) &&
 decide (1 ≤ t.ct) && decide (t.ct ≤ 72) && decide (0 ≤ t.ix) && decide (t.ix < t.ct) && decide (0 ≤ t.id) && decide (t.id < 3840)
def u64w (n : Int) : Int := n % 18446744073709551616
def Tg.field (t : Tg) : Nat → Int
 | 0 => magic
 | 1 => t.ep
 | 2 => t.sq
 | 3 => t.fl
 | 4 => t.st
 | 5 => u64w t.ix
 | 6 => u64w t.ct
 | 7 => u64w t.id
 | _ => 0
def fsize : Nat → Nat
 | 0 => 4
 | 1 => 4
 | 2 => 6
 | 3 => 6
 | 4 => 6
 | 5 => 1
 | 6 => 1
 | 7 => 2
 | _ => 2
structure Fb where
 b0 : Nat
 b2 : Nat
 b3 : Nat
 b4 : Nat
 b5 : Nat
 b6 : Nat
 b7 : Nat
 b8 : Nat
abbrev fnV (f : Nat) (caps : Array Value) : Value := .func (.func f) #[] caps
def fget (b : Fb) : Nat → Nat × Array Value
 | 0 => (135, #[ptV b.b0])
 | 1 => (120, #[])
 | 2 => (137, #[ptV b.b2])
 | 3 => (137, #[ptV b.b3])
 | 4 => (137, #[ptV b.b4])
 | 5 => (139, #[ptV b.b5])
 | 6 => (139, #[ptV b.b6])
 | 7 => (139, #[ptV b.b7])
 | _ => (135, #[ptV b.b8])
def fset (b : Fb) : Nat → Nat × Array Value
 | 0 => (136, #[])
 | 1 => (121, #[])
 | 2 => (138, #[ptV b.b2])
 | 3 => (138, #[ptV b.b3])
 | 4 => (138, #[ptV b.b4])
 | 5 => (140, #[ptV b.b5])
 | 6 => (140, #[ptV b.b6])
 | 7 => (140, #[ptV b.b7])
 | _ => (136, #[])
def fcells (b : Fb) (k : Nat) : Array Value := #[.int .i64 (fsize k), fnV (fget b k).1 (fget b k).2, fnV (fset b k).1 (fset b k).2]
def fieldsC (b : Fb) : Array Value := #[.int .i64 4, fnV (fget b 0).1 (fget b 0).2, fnV (fset b 0).1 (fset b 0).2, .int .i64 4, fnV (fget b 1).1 (fget b 1).2, fnV (fset b 1).1 (fset b 1).2,
 .int .i64 6, fnV (fget b 2).1 (fget b 2).2, fnV (fset b 2).1 (fset b 2).2, .int .i64 6, fnV (fget b 3).1 (fget b 3).2, fnV (fset b 3).1 (fset b 3).2, .int .i64 6, fnV (fget b 4).1 (fget b 4).2, fnV (fset b 4).1 (fset b 4).2,
 .int .i64 1, fnV (fget b 5).1 (fget b 5).2, fnV (fset b 5).1 (fset b 5).2, .int .i64 1, fnV (fget b 6).1 (fget b 6).2, fnV (fset b 6).1 (fset b 6).2, .int .i64 2, fnV (fget b 7).1 (fget b 7).2, fnV (fset b 7).1 (fset b 7).2,
 .int .i64 2, fnV (fget b 8).1 (fget b 8).2, fnV (fset b 8).1 (fset b 8).2]
def fieldsV (b : Fb) : Value := .agg (fieldsC b)
def fieldsA (b : Fb) : Assn :=
 pt b.b0 (.cells #[.int .u64 1465012808] 37 (0, 0)) * (pt b.b2 (.cells #[fnV 123 #[]] 195 (0, 0)) * (pt b.b3 (.cells #[fnV 124 #[]] 195 (0, 0)) * (pt b.b4 (.cells #[fnV 125 #[]] 195 (0, 0)) *
  (pt b.b5 (.cells #[fnV 127 #[]] 198 (0, 0)) * (pt b.b6 (.cells #[fnV 128 #[]] 198 (0, 0)) * (pt b.b7 (.cells #[fnV 129 #[]] 198 (0, 0)) * pt b.b8 (.cells #[.int .u64 0] 37 (0, 0))))))))
end Go.SL
namespace Go.Proofs.YtdafdidmbeecfaaGreatDoor
set_option linter.unusedVariables false
set_option linter.unusedSimpArgs false
open Go.RowKit Go.SL
def FixedQ (size n : Int) (w : World) (e : Ending) (w' : World) : Prop :=
 ∃ b, e = .returned (.agg #[.int .i64 size, fnV 135 #[ptV b], fnV 136 #[]]) ∧ Sat w' (pt b (.cells #[.int .u64 n] 37 (0, 0)) * whole w) ∧ Side w w'
theorem fixed_any (size n : Int) (w : World) : Calls Tryz.prog 119 #[.int .i64 size, .int .u64 n] w (FixedQ size n w) := by
 have hA := (Sat.whole w).alloc (.cells #[.int .u64 n] 37 (0, 0))
 have hs := (Side.refl w).alloc (.cells #[.int .u64 n] 37 (0, 0))
 go_enter Tryz.func119, Tryz.ntmps119
 go_wp2
 exact bodyPost_ret (v := .agg #[.int .i64 size, fnV 135 #[ptV w.heap.size], fnV 136 #[]]) (by simp [results, Tryz.results119, go_sem]) rfl ⟨_, rfl, SL.Sat.right (SL.Sat.alloc hA _), hs.alloc _⟩
def LongQ (f : Nat) (w : World) (e : Ending) (w' : World) : Prop :=
 ∃ b, e = .returned (.agg #[.int .i64 6, fnV 137 #[ptV b], fnV 138 #[ptV b]]) ∧ Sat w' (pt b (.cells #[fnV f #[]] 195 (0, 0)) * whole w) ∧ Side w w'
theorem long_any (f : Nat) (w : World) : Calls Tryz.prog 122 #[fnV f #[]] w (LongQ f w) := by
 have hA := (Sat.whole w).alloc (.cells #[fnV f #[]] 195 (0, 0))
 have hs := (Side.refl w).alloc (.cells #[fnV f #[]] 195 (0, 0))
 go_enter Tryz.func122, Tryz.ntmps122
 go_wp2
 exact bodyPost_ret (v := .agg #[.int .i64 6, fnV 137 #[ptV w.heap.size], fnV 138 #[ptV w.heap.size]]) (by simp [results, Tryz.results122, go_sem]) rfl ⟨_, rfl, SL.Sat.right (SL.Sat.alloc hA _), hs.alloc _⟩
def SmallQ (size : Int) (f : Nat) (w : World) (e : Ending) (w' : World) : Prop :=
 ∃ b, e = .returned (.agg #[.int .i64 size, fnV 139 #[ptV b], fnV 140 #[ptV b]]) ∧ Sat w' (pt b (.cells #[fnV f #[]] 198 (0, 0)) * whole w) ∧ Side w w'
theorem small_any (size : Int) (f : Nat) (w : World) : Calls Tryz.prog 126 #[.int .i64 size, fnV f #[]] w (SmallQ size f w) := by
 have hA := (Sat.whole w).alloc (.cells #[fnV f #[]] 198 (0, 0))
 have hs := (Side.refl w).alloc (.cells #[fnV f #[]] 198 (0, 0))
 go_enter Tryz.func126, Tryz.ntmps126
 go_wp2
 exact bodyPost_ret (v := .agg #[.int .i64 size, fnV 139 #[ptV w.heap.size], fnV 140 #[ptV w.heap.size]]) (by simp [results, Tryz.results126, go_sem]) rfl ⟨_, rfl, SL.Sat.right (SL.Sat.alloc hA _), hs.alloc _⟩
def FieldsQ (w : World) (e : Ending) (w' : World) : Prop := ∃ b, e = .returned (fieldsV b) ∧ Sat w' (fieldsA b * whole w) ∧ Side w w'
theorem info_fields0 : (Tryz.prog.info? 178).map (·.size) = some 27 := by kernel_rfl
theorem info_fields (b : Fb) : (Tryz.prog.info? 178).map (·.size) = some (fieldsC b).size := info_fields0
theorem fieldsC_one (b : Fb) : (fieldsC b).all (·.oneCell') = true := by
 simp [fieldsC, Value.oneCell', fnV]
def zero27 : Array Value := #[.int .i64 0, .nilFunc, .nilFunc, .int .i64 0, .nilFunc, .nilFunc, .int .i64 0, .nilFunc, .nilFunc, .int .i64 0, .nilFunc, .nilFunc, .int .i64 0, .nilFunc, .nilFunc, .int .i64 0, .nilFunc, .nilFunc, .int .i64 0, .nilFunc, .nilFunc, .int .i64 0, .nilFunc, .nilFunc, .int .i64 0, .nilFunc, .nilFunc]
set_option maxRecDepth 100000 in
set_option maxHeartbeats 2000000 in
theorem fields_any (w : World) : Calls Tryz.prog 105 #[] w (FieldsQ w) := by
 have H0 := (Sat.whole w).alloc (.cells zero27 178 (0, 0))
 have D0 := (Side.refl w).alloc (.cells zero27 178 (0, 0))
 go_enter Tryz.func105, Tryz.ntmps105
 go_wp2_with fail
 change Calls _ _ _ (w.alloc (.cells zero27 178 (0, 0))) _
 generalize w.alloc (.cells zero27 178 (0, 0)) = w0 at H0 D0 ⊢
 generalize w.heap.size = z at H0 ⊢
 refine (fixed_any 4 1465012808 _).mono ?_
 rintro e w1 ⟨b0, rfl, h1, d1⟩
 have H1 := h1.under H0
 have D1 := D0.trans d1
 clear h1 d1 H0 D0
 go_wp2_with fail
 refine (long_any 123 _).mono ?_
 rintro e w2 ⟨b2, rfl, h2, d2⟩
 have H2 := h2.under H1
 have D2 := D1.trans d2
 clear h2 d2 H1 D1
 go_wp2_with fail
 refine (long_any 124 _).mono ?_
 rintro e w3 ⟨b3, rfl, h3, d3⟩
 have H3 := h3.under H2
 have D3 := D2.trans d3
 clear h3 d3 H2 D2
 go_wp2_with fail
 refine (long_any 125 _).mono ?_
 rintro e w4 ⟨b4, rfl, h4, d4⟩
 have H4 := h4.under H3
 have D4 := D3.trans d4
 clear h4 d4 H3 D3
 go_wp2_with fail
 refine (small_any 1 127 _).mono ?_
 rintro e w5 ⟨b5, rfl, h5, d5⟩
 have H5 := h5.under H4
 have D5 := D4.trans d5
 clear h5 d5 H4 D4
 go_wp2_with fail
 refine (small_any 1 128 _).mono ?_
 rintro e w6 ⟨b6, rfl, h6, d6⟩
 have H6 := h6.under H5
 have D6 := D5.trans d6
 clear h6 d6 H5 D5
 go_wp2_with fail
 refine (small_any 2 129 _).mono ?_
 rintro e w7 ⟨b7, rfl, h7, d7⟩
 have H7 := h7.under H6
 have D7 := D6.trans d7
 clear h7 d7 H6 D6
 go_wp2_with fail
 refine (fixed_any 2 0 _).mono ?_
 rintro e w8 ⟨b8, rfl, h8, d8⟩
 have H8 := h8.under H7
 have D8 := D7.trans d8
 clear h8 d8 H7 D7
 obtain ⟨bb, hbb⟩ : ∃ bb : Fb, bb = ⟨b0, b2, b3, b4, b5, b6, b7, b8⟩ := ⟨_, rfl⟩
 have hz : w8.heap[z]? = some (.cells zero27 178 (0, 0)) := H8.front9.heap
 have H9 := H8.front9.setRow (cs' := fieldsC bb)
 have Hbb := SL.hid hbb
 clear hbb
 go_wp2_with (refine wpList_store_row rfl 178 (.tmp 0) (.tmp 10) rfl z (fieldsC ⟨b0, b2, b3, b4, b5, b6, b7, b8⟩) rfl rfl 178 zero27 hz (info_fields _) rfl (fieldsC_one _) ?_)
 rw [Hbb.out] at H9
 refine bodyPost_ret (v := fieldsV ⟨b0, b2, b3, b4, b5, b6, b7, b8⟩) (results_cell_row rfl _ _ z 178 _ (0, 0) _ rfl H9.heap Tryz.underlying178 rfl (info_fields _)) rfl ⟨⟨b0, b2, b3, b4, b5, b6, b7, b8⟩, rfl, ?_, D8.setRow _ _⟩
 exact H9.right.to (by unfold fieldsA; ac_rfl)
theorem at3 (b : Nat) (w : World) : Calls Tryz.prog 123 #[ptV b] w fun e w' => e = .returned (.pointer (some ⟨b, 2, none⟩)) ∧ w = w' := by
 go_enter Tryz.func123, Tryz.ntmps123
 go_wp2
 go_ret
 exact ⟨rfl, rfl⟩
theorem at4 (b : Nat) (w : World) : Calls Tryz.prog 124 #[ptV b] w fun e w' => e = .returned (.pointer (some ⟨b, 3, none⟩)) ∧ w = w' := by
 go_enter Tryz.func124, Tryz.ntmps124
 go_wp2
 go_ret
 exact ⟨rfl, rfl⟩
theorem at5 (b : Nat) (w : World) : Calls Tryz.prog 125 #[ptV b] w fun e w' => e = .returned (.pointer (some ⟨b, 1, none⟩)) ∧ w = w' := by
 go_enter Tryz.func125, Tryz.ntmps125
 go_wp2
 go_ret
 exact ⟨rfl, rfl⟩
theorem at6 (b : Nat) (w : World) : Calls Tryz.prog 127 #[ptV b] w fun e w' => e = .returned (.pointer (some ⟨b, 4, none⟩)) ∧ w = w' := by
 go_enter Tryz.func127, Tryz.ntmps127
 go_wp2
 go_ret
 exact ⟨rfl, rfl⟩
theorem at7 (b : Nat) (w : World) : Calls Tryz.prog 128 #[ptV b] w fun e w' => e = .returned (.pointer (some ⟨b, 5, none⟩)) ∧ w = w' := by
 go_enter Tryz.func128, Tryz.ntmps128
 go_wp2
 go_ret
 exact ⟨rfl, rfl⟩
theorem at8 (b : Nat) (w : World) : Calls Tryz.prog 129 #[ptV b] w fun e w' => e = .returned (.pointer (some ⟨b, 6, none⟩)) ∧ w = w' := by
 go_enter Tryz.func129, Tryz.ntmps129
 go_wp2
 go_ret
 exact ⟨rfl, rfl⟩
theorem en_x1 : ∀ args w, (callFunc 135 args).run Tryz.prog w = .ok (.enter 135 args) w := enters Tryz.func135 (by kernel_rfl) rfl
theorem en_x2 : ∀ args w, (callFunc 136 args).run Tryz.prog w = .ok (.enter 136 args) w := enters Tryz.func136 (by kernel_rfl) rfl
theorem en_l1 : ∀ args w, (callFunc 137 args).run Tryz.prog w = .ok (.enter 137 args) w := enters Tryz.func137 (by kernel_rfl) rfl
theorem en_l2 : ∀ args w, (callFunc 138 args).run Tryz.prog w = .ok (.enter 138 args) w := enters Tryz.func138 (by kernel_rfl) rfl
theorem en_s1 : ∀ args w, (callFunc 139 args).run Tryz.prog w = .ok (.enter 139 args) w := enters Tryz.func139 (by kernel_rfl) rfl
theorem en_s2 : ∀ args w, (callFunc 140 args).run Tryz.prog w = .ok (.enter 140 args) w := enters Tryz.func140 (by kernel_rfl) rfl
theorem en_f1 : ∀ args w, (callFunc 120 args).run Tryz.prog w = .ok (.enter 120 args) w := enters Tryz.func120 (by kernel_rfl) rfl
theorem en_f2 : ∀ args w, (callFunc 121 args).run Tryz.prog w = .ok (.enter 121 args) w := enters Tryz.func121 (by kernel_rfl) rfl
theorem en_f3 : ∀ args w, (callFunc 123 args).run Tryz.prog w = .ok (.enter 123 args) w := enters Tryz.func123 (by kernel_rfl) rfl
theorem en_f4 : ∀ args w, (callFunc 124 args).run Tryz.prog w = .ok (.enter 124 args) w := enters Tryz.func124 (by kernel_rfl) rfl
theorem en_f5 : ∀ args w, (callFunc 125 args).run Tryz.prog w = .ok (.enter 125 args) w := enters Tryz.func125 (by kernel_rfl) rfl
theorem en_f6 : ∀ args w, (callFunc 127 args).run Tryz.prog w = .ok (.enter 127 args) w := enters Tryz.func127 (by kernel_rfl) rfl
theorem en_f7 : ∀ args w, (callFunc 128 args).run Tryz.prog w = .ok (.enter 128 args) w := enters Tryz.func128 (by kernel_rfl) rfl
theorem en_f8 : ∀ args w, (callFunc 129 args).run Tryz.prog w = .ok (.enter 129 args) w := enters Tryz.func129 (by kernel_rfl) rfl
theorem getX (b : Nat) (n : Int) (t : Tg) (w : World) (F : Assn) (h : Sat w (pt b (.cells #[.int .u64 n] 37 (0, 0)) * F)) :
  Calls Tryz.prog 135 #[.agg t.cells, ptV b] w (Tells (.int .u64 n) w) := by
 have hc : w.cell? ⟨b, 0, none⟩ = some (.int .u64 n) := h.cell 0
 have hl := h.lt
 clear h
 simp only [Tg.cells]
 go_enter Tryz.func135, Tryz.ntmps135
 go_wp2
 go_ret
 exact ⟨rfl, SL.Sat.right (SL.Sat.alloc (Sat.whole w) _), (Side.refl w).alloc _⟩
theorem getE (t : Tg) (w : World) (ht : t.Fit) : Calls Tryz.prog 120 #[.agg t.cells] w (Tells (.int .u64 t.ep) w) := by
 obtain ⟨h0, h1, _, _, _, _, _, _⟩ := ht
 simp only [Tg.cells]
 go_enter Tryz.func120, Tryz.ntmps120
 go_wp2
 go_ret
 exact ⟨rfl, SL.Sat.right (SL.Sat.alloc (Sat.whole w) _), (Side.refl w).alloc _⟩
theorem getL (b f o : Nat) (n : Int) (t : Tg) (w : World) (F : Assn) (h : Sat w (pt b (.cells #[fnV f #[]] 195 (0, 0)) * F)) (hen : ∀ args w, (callFunc f args).run Tryz.prog w = .ok (.enter f args) w)
  (hat : ∀ (b : Nat) (w : World), Calls Tryz.prog f #[ptV b] w fun e w' => e = .returned (.pointer (some ⟨b, o, none⟩)) ∧ w = w') (ho : t.cells[o]? = some (.int .u64 n)) :
  Calls Tryz.prog 137 #[.agg t.cells, ptV b] w (Tells (.int .u64 n) w) := by
 have hc : w.cell? ⟨b, 0, none⟩ = some (fnV f #[]) := h.cell 0
 have hl := h.lt
 have hA := (Sat.whole w).alloc (.cells t.cells 121 (0, 0))
 have hco := (hA.cell o).trans ho
 clear h ho
 simp only [Tg.cells] at hA hco ⊢
 go_enter Tryz.func137, Tryz.ntmps137
 go_wp2_with fail
 refine (hat _ _).mono ?_
 rintro e w1 ⟨rfl, rfl⟩
 go_wp2
 go_ret
 exact ⟨rfl, SL.Sat.right hA, (Side.refl w).alloc _⟩
theorem getS (b f o : Nat) (n : Int) (t : Tg) (w : World) (F : Assn) (h : Sat w (pt b (.cells #[fnV f #[]] 198 (0, 0)) * F)) (hen : ∀ args w, (callFunc f args).run Tryz.prog w = .ok (.enter f args) w)
  (hat : ∀ (b : Nat) (w : World), Calls Tryz.prog f #[ptV b] w fun e w' => e = .returned (.pointer (some ⟨b, o, none⟩)) ∧ w = w') (ho : t.cells[o]? = some (.int .i64 n)) :
  Calls Tryz.prog 139 #[.agg t.cells, ptV b] w (Tells (.int .u64 (u64w n)) w) := by
 have hc : w.cell? ⟨b, 0, none⟩ = some (fnV f #[]) := h.cell 0
 have hl := h.lt
 have hA := (Sat.whole w).alloc (.cells t.cells 121 (0, 0))
 have hco := (hA.cell o).trans ho
 clear h ho
 simp only [Tg.cells] at hA hco ⊢
 go_enter Tryz.func139, Tryz.ntmps139
 go_wp2_with fail
 refine (hat _ _).mono ?_
 rintro e w1 ⟨rfl, rfl⟩
 go_wp2
 go_ret
 exact ⟨rfl, SL.Sat.right hA, (Side.refl w).alloc _⟩
theorem fieldsO {w : World} {b : Fb} {F : Assn} (h : Sat w (fieldsA b * F)) : Sat w (pt b.b0 (.cells #[.int .u64 1465012808] 37 (0, 0)) * (pt b.b2 (.cells #[fnV 123 #[]] 195 (0, 0)) * (pt b.b3 (.cells #[fnV 124 #[]] 195 (0, 0)) * (pt b.b4 (.cells #[fnV 125 #[]] 195 (0, 0)) *
  (pt b.b5 (.cells #[fnV 127 #[]] 198 (0, 0)) * (pt b.b6 (.cells #[fnV 128 #[]] 198 (0, 0)) * (pt b.b7 (.cells #[fnV 129 #[]] 198 (0, 0)) * (pt b.b8 (.cells #[.int .u64 0] 37 (0, 0)) * F)))))))) := h.to (by unfold fieldsA; ac_rfl)
theorem get_k (b : Fb) (t : Tg) (k : Nat) (hk : k < 9) (ht : t.Fit) :
  ∃ f caps, fget b k = (f, caps) ∧ (∀ args w, (callFunc f args).run Tryz.prog w = .ok (.enter f args) w) ∧
   ∀ w F, Sat w (fieldsA b * F) → Calls Tryz.prog f (#[.agg t.cells] ++ caps) w (Tells (.int .u64 (t.field k)) w) := by
 match k, hk with
 | 0, _ => exact ⟨_, _, rfl, en_x1, fun w F h => getX b.b0 _ t w _ (fieldsO h)⟩
 | 1, _ => exact ⟨_, _, rfl, en_f1, fun w F h => getE t w ht⟩
 | 2, _ => exact ⟨_, _, rfl, en_l1, fun w F h => getL b.b2 _ 2 _ t w _ (fieldsO h).front2 en_f3 at3 rfl⟩
 | 3, _ => exact ⟨_, _, rfl, en_l1, fun w F h => getL b.b3 _ 3 _ t w _ (fieldsO h).front3 en_f4 at4 rfl⟩
 | 4, _ => exact ⟨_, _, rfl, en_l1, fun w F h => getL b.b4 _ 1 _ t w _ (fieldsO h).front4 en_f5 at5 rfl⟩
 | 5, _ => exact ⟨_, _, rfl, en_s1, fun w F h => getS b.b5 _ 4 _ t w _ (fieldsO h).front5 en_f6 at6 rfl⟩
 | 6, _ => exact ⟨_, _, rfl, en_s1, fun w F h => getS b.b6 _ 5 _ t w _ (fieldsO h).front6 en_f7 at7 rfl⟩
 | 7, _ => exact ⟨_, _, rfl, en_s1, fun w F h => getS b.b7 _ 6 _ t w _ (fieldsO h).front7 en_f8 at8 rfl⟩
 | 8, _ => exact ⟨_, _, rfl, en_x1, fun w F h => getX b.b8 _ t w _ (fieldsO h).front8⟩
end Go.Proofs.YtdafdidmbeecfaaGreatDoor
end
section
namespace Go.Proofs.YtdafdidmbeecfaaGreatDoor
set_option linter.unusedVariables false
set_option linter.unusedSimpArgs false
open Go.RowKit Go.SL
set_option maxRecDepth 100000 in
set_option maxHeartbeats 4000000 in
theorem right_any (t : Tg) (w : World) : Calls Tryz.prog 104 #[.agg t.cells] w (Tells (.bool t.ok) w) := by
 simp only [Tg.cells]
 by_cases h0 : 1 ≤ t.ep
 ·skip
  by_cases h1 : 1 ≤ t.st
  ·skip
   by_cases h2 : t.st ≤ t.sq
   ·skip
    by_cases h3 : t.sq ≤ 281474976710655
    ·skip
     by_cases h4 : t.fl < t.sq
     ·skip
      by_cases h5 : 1 ≤ t.ct
      ·skip
       by_cases h6 : t.ct ≤ 72
       ·skip
        by_cases h7 : 0 ≤ t.ix
        ·skip
         by_cases h8 : t.ix < t.ct
         ·skip
          by_cases h9 : 0 ≤ t.id
          ·skip
           by_cases h10 : t.id < 3840
           ·skip
            rw [show t.ok = true by simp [Tg.ok, h0, h1, h2, h3, h4, h5, h6, h7, h8, h9, h10]]
            go_enter Tryz.func104, Tryz.ntmps104
            go_wp2
            go_ret
            exact ⟨rfl, SL.Sat.right (SL.Sat.alloc (Sat.whole w) _), (Side.refl w).alloc _⟩
           ·rw [show t.ok = false by simp [Tg.ok, h10]]
            have hd : decide (t.id < 3840) = false := by simpa using h10
            go_enter Tryz.func104, Tryz.ntmps104
            go_wp2
            go_ret
            exact ⟨rfl, SL.Sat.right (SL.Sat.alloc (Sat.whole w) _), (Side.refl w).alloc _⟩
          ·rw [show t.ok = false by simp [Tg.ok, h9]]
           have hd : decide (0 ≤ t.id) = false := by simpa using h9
           go_enter Tryz.func104, Tryz.ntmps104
           go_wp2
           go_ret
           exact ⟨rfl, SL.Sat.right (SL.Sat.alloc (Sat.whole w) _), (Side.refl w).alloc _⟩
         ·rw [show t.ok = false by simp [Tg.ok, h8]]
          have hd : decide (t.ix < t.ct) = false := by simpa using h8
          go_enter Tryz.func104, Tryz.ntmps104
          go_wp2
          go_ret
          exact ⟨rfl, SL.Sat.right (SL.Sat.alloc (Sat.whole w) _), (Side.refl w).alloc _⟩
        ·rw [show t.ok = false by simp [Tg.ok, h7]]
         have hd : decide (0 ≤ t.ix) = false := by simpa using h7
         go_enter Tryz.func104, Tryz.ntmps104
         go_wp2
         go_ret
         exact ⟨rfl, SL.Sat.right (SL.Sat.alloc (Sat.whole w) _), (Side.refl w).alloc _⟩
       ·rw [show t.ok = false by simp [Tg.ok, h6]]
        have hd : decide (t.ct ≤ 72) = false := by simpa using h6
        go_enter Tryz.func104, Tryz.ntmps104
        go_wp2
        go_ret
        exact ⟨rfl, SL.Sat.right (SL.Sat.alloc (Sat.whole w) _), (Side.refl w).alloc _⟩
      ·rw [show t.ok = false by simp [Tg.ok, h5]]
       have hd : decide (1 ≤ t.ct) = false := by simpa using h5
       go_enter Tryz.func104, Tryz.ntmps104
       go_wp2
       go_ret
       exact ⟨rfl, SL.Sat.right (SL.Sat.alloc (Sat.whole w) _), (Side.refl w).alloc _⟩
     ·rw [show t.ok = false by simp [Tg.ok, h4]]
      have hd : decide (t.fl < t.sq) = false := by simpa using h4
      go_enter Tryz.func104, Tryz.ntmps104
      go_wp2
      go_ret
      exact ⟨rfl, SL.Sat.right (SL.Sat.alloc (Sat.whole w) _), (Side.refl w).alloc _⟩
    ·rw [show t.ok = false by simp [Tg.ok, h3]]
     have hd : decide (t.sq ≤ 281474976710655) = false := by simpa using h3
     go_enter Tryz.func104, Tryz.ntmps104
     go_wp2
     go_ret
     exact ⟨rfl, SL.Sat.right (SL.Sat.alloc (Sat.whole w) _), (Side.refl w).alloc _⟩
   ·rw [show t.ok = false by simp [Tg.ok, h2]]
    have hd : decide (t.st ≤ t.sq) = false := by simpa using h2
    go_enter Tryz.func104, Tryz.ntmps104
    go_wp2
    go_ret
    exact ⟨rfl, SL.Sat.right (SL.Sat.alloc (Sat.whole w) _), (Side.refl w).alloc _⟩
  ·rw [show t.ok = false by simp [Tg.ok, h1]]
   have hd : decide (1 ≤ t.st) = false := by simpa using h1
   go_enter Tryz.func104, Tryz.ntmps104
   go_wp2
   go_ret
   exact ⟨rfl, SL.Sat.right (SL.Sat.alloc (Sat.whole w) _), (Side.refl w).alloc _⟩
 ·rw [show t.ok = false by simp [Tg.ok, h0]]
  have hd : decide (1 ≤ t.ep) = false := by simpa using h0
  go_enter Tryz.func104, Tryz.ntmps104
  go_wp2
  go_ret
  exact ⟨rfl, SL.Sat.right (SL.Sat.alloc (Sat.whole w) _), (Side.refl w).alloc _⟩
end Go.Proofs.YtdafdidmbeecfaaGreatDoor
namespace Go.SL
set_option linter.unusedVariables false
set_option linter.unusedSimpArgs false
open Go.RowKit
def encN (t : Tg) (k : Nat) : List UInt8 := (List.range k).flatMap fun i => leN (t.field i) (fsize i)
theorem encN_succ (t : Tg) (k : Nat) : encN t (k + 1) = encN t k ++ leN (t.field k) (fsize k) := by simp [encN, List.range_succ]
def enc (t : Tg) : List UInt8 := encN t 9
theorem fsize_le (k : Nat) : fsize k ≤ 6 := by
 unfold fsize
 split <;> omega
theorem encN_length (t : Tg) (k : Nat) : (encN t k).length ≤ 6 * k := by
 induction k with
 | zero => simp [encN]
 | succ k ih => rw [encN_succ, List.length_append, leN_length]; have := fsize_le k; omega
theorem enc_length (t : Tg) : (enc t).length = 32 := by
 simp [enc, encN, List.range_succ, leN_length, fsize]
end Go.SL
namespace Go.Proofs.YtdafdidmbeecfaaGreatDoor
set_option linter.unusedVariables false
set_option linter.unusedSimpArgs false
open Go.RowKit Go.SL
theorem index_k (b : Fb) (k : Nat) (hk : k < 9) (w : World) : (Instr.index 178 (fieldsV b) (.int .i64 (k : Int))).run Tryz.prog w = .ok (.agg (fcells b k)) w := by
 obtain rfl | rfl | rfl | rfl | rfl | rfl | rfl | rfl | rfl : k = 0 ∨ k = 1 ∨ k = 2 ∨ k = 3 ∨ k = 4 ∨ k = 5 ∨ k = 6 ∨ k = 7 ∨ k = 8 := by omega
 all_goals kernel_rfl
theorem append_byte {w : World} {v : Value} {l : List UInt8} {x : UInt8} {F : Assn} (h : Sat w (bs 5 v l * F)) (hl : l.length ≤ 1000000) :
  ∃ v' w', (Builtin.append_ #[22, 22] 22 #[v, .slice (some ⟨w.heap.size, 0, none⟩) 1 1]).run Tryz.prog (w.alloc (.cells #[u8 x] 5 (0, 0))) = .ok v' w' ∧ Sat w' (bs 5 v' (l ++ [x]) * F) ∧ Side w w' ∧ ∃ a c, v' = .slice a (l.length + 1) c := by
 obtain ⟨i0, hi, hz, hs0, hb0⟩ := info_parts info_u8
 have hA := h.alloc (.cells #[u8 x] 5 (0, 0))
 have hR : Rds (w.alloc (.cells #[u8 x] 5 (0, 0))) 1 (.slice (some ⟨w.heap.size, 0, none⟩) 1 1) 1 [u8 x] :=
  ⟨rfl, .inr ⟨_, _, rfl, fun j u hu => by
   rw [Addr.add_lit, Nat.zero_add]
   exact (hA.cell j).trans (by simpa using hu)⟩⟩
 obtain ⟨v', w', hrun, hsat', hside'⟩ := Sat.append (P := Tryz.prog) (ty := 22) Tryz.underlying22 hi hz hs0 hb0 rfl hA.right hR (by intro u hu; rw [List.mem_singleton.1 hu]; rfl) (by unfold maxLen; omega) (by omega)
 refine ⟨v', w', hrun, hsat'.to (by rw [bs, List.length_append, List.map_append]; rfl), ((Side.refl w).alloc _).trans hside', sl_shape hsat'⟩
def EncIn (pre : List UInt8) (n : Int) (s : Nat) (X : Assn) (w0 : World) (gk : Nat) (u6 u9 u29 : Value) (wr : World) : Prop :=
 ∃ j : Nat, j ≤ s ∧ s - j ≤ gk ∧ u29 = .int .i64 (j : Int) ∧ u9 = .int .u64 (n / (256 : Int) ^ j) ∧ Sat wr (bs 5 u6 (pre ++ leN n j) * X) ∧ Side w0 wr
def EncOut (t : Tg) (fb : Fb) (bt : Nat) (X : Assn) (w0 : World) (gk : Nat) (u6 u20 : Value) (wr : World) : Prop :=
 ∃ k : Nat, k ≤ 9 ∧ 9 - k ≤ gk ∧ u20 = .int .i64 (k : Int) ∧ Sat wr (bs 5 u6 (encN t k) * (fieldsA fb * (pt bt (.cells t.cells 121 (0, 0)) * X))) ∧ Side w0 wr
def EncodeQ (l : List UInt8) (w : World) (e : Ending) (w' : World) : Prop := ∃ v, e = .returned (.tuple #[v, .int .i64 0]) ∧ Sat w' (bs 5 v l * whole w) ∧ Side w w'
theorem field_range (t : Tg) (ht : t.Fit) (k : Nat) : 0 ≤ t.field k ∧ t.field k < 18446744073709551616 := by
 obtain ⟨h0, h1, h2, h3, h4, h5, h6, h7⟩ := ht
 unfold Tg.field magic u64w
 split <;> omega
set_option maxRecDepth 100000 in
set_option maxHeartbeats 4000000 in
theorem encode_yes (t : Tg) (ht : t.Fit) (hok : t.ok = true) (bv : Value) (l : List UInt8) (hl : l.length = 480) (w : World) (hr : Rd w bv l) :
  Calls Tryz.prog 81 #[.agg t.cells, bv] w (EncodeQ (enc t ++ l) w) := by
 obtain ⟨ba, bc, rfl⟩ := hr.shape
 rw [hl] at hr ⊢
 have hmk : ∀ w, (Instr.makeSlice 22 (.int .i64 0) (.int .i64 512)).run Tryz.prog w = .ok (.slice (some ⟨w.heap.size, 0, none⟩) 0 512) (w.alloc (.cells (u8s (zs 512)) 5 (0, 0))) := fun w => by
  obtain ⟨i, hi, hz, hs, hb⟩ := info_parts info_u8
  have := run_make (P := Tryz.prog) w 22 5 i _ Tryz.underlying22 hi hz .i64 .i64 0 512 (by omega) (by omega) (by rw [hb]; omega) (by omega)
  rw [this, hs]
  exact congrArg (fun c => Result.ok _ (w.alloc (.cells c _ (0, 0)))) (madeCells_u8 512)
 have hri := right_any t
 rw [hok] at hri
 have hA := (Sat.whole w).alloc (.cells t.cells 121 (0, 0))
 have hs := (Side.refl w).alloc (.cells t.cells 121 (0, 0))
 have Hl := SL.hid hl; have Hr := SL.hid hr
 clear hl hr hok
 go_enter Tryz.func81, Tryz.ntmps81
 simp only [Tg.cells] at hA hri ⊢
 go_wp2_with fail
 refine (hri _).mono ?_
 rintro e w2 ⟨rfl, h2, d2⟩
 have H2 := h2.keepW hA
 have D2 := Side.trans hs d2
 clear hri hA hs h2 d2
 generalize w.heap.size = bt at H2 ⊢
 have hlt := H2.lt
 go_wp2_with fail
 have H3 := H2.alloc (.cells (u8s (zs 512)) 5 (0, 0))
 have D3 := D2.alloc (.cells (u8s (zs 512)) 5 (0, 0))
 generalize hw3 : w2.alloc (.cells (u8s (zs 512)) 5 (0, 0)) = w3 at H3 D3 ⊢
 generalize w2.heap.size = gb at H3 ⊢
 clear hw3 hlt H2 D2 hmk
 refine (fields_any w3).mono ?_
 rintro e w4 ⟨fb, rfl, h4, d4⟩
 have H4 := h4.under H3
 have D4 := D3.trans d4
 clear h4 d4 H3 D3
 have H5 : Sat w4 (bs 5 (.slice (some ⟨gb, 0, none⟩) 0 512) (encN t 0) * (fieldsA fb * (pt bt (.cells t.cells 121 (0, 0)) * whole w))) := by
  have := Sat.slOf (sz := 1) (n := 0) (cap := 512) H4.front2 (by omega) (by unfold maxLen; omega) (by simp [size_u8s, length_zs])
  exact this
 have hix := index_k fb
 have hgk := get_k fb t
 generalize hfv : fieldsV fb = fv at hix
 clear hfv H4
 go_wp2_with fail
 go_loopg [6, 20] 9 (fun gk u6 u20 wr => EncOut t fb bt (whole w) w gk u6 u20 wr)
 case atStart => exact ⟨0, by omega, by omega, rfl, H5, D4⟩
 case round =>
  clear H5 D4
  obtain ⟨gko, rfl⟩ : ∃ n, n = gk := ⟨gk, rfl⟩
  obtain ⟨k, hk, hgo, rfl, hsat, hside⟩ := hrel
  have hlen := encN_length t k
  have hshape := sl_shape hsat
  obtain ⟨va, vc, rfl⟩ := hshape
  by_cases hlt : k < 9
  ·have hlt' : (k : Int) < 9 := by omega
   have hixk := hix k hlt
   obtain ⟨f, caps, hf, hen, hget⟩ := hgk k hlt ht
   obtain ⟨f2, caps2, hf2⟩ : ∃ f2 caps2, fset fb k = (f2, caps2) := ⟨_, _, rfl⟩
   simp only [fcells, hf, hf2] at hixk
   have hsz : (fsize k : Int) ≤ 6 := by have := fsize_le k; omega
   have hA := hsat.alloc (.cells #[.int .i64 (fsize k), fnV f caps, fnV f2 caps2] 177 (0, 0))
   have hsA := hside.alloc (.cells #[.int .i64 (fsize k), fnV f caps, fnV f2 caps2] 177 (0, 0))
   have cb : ∀ o, wr.cell? ⟨bt, o, none⟩ = t.cells[o]? := fun o => hsat.front3.cell o
   have cb0 := cb 0; have cb1 := cb 1; have cb2 := cb 2; have cb3 := cb 3; have cb4 := cb 4; have cb5 := cb 5; have cb6 := cb 6
   simp only [Tg.cells] at cb0 cb1 cb2 cb3 cb4 cb5 cb6
   have hbl := hsat.front3.lt
   have Hen := SL.hid encN_succ
   have hcall := hget _ _ (hA.front3.front2.front2)
   clear hix hgk hget cb hf hf2 hsat hside
   go_wp2_with fail
   refine hcall.mono ?_
   rintro e w5 ⟨rfl, h5, d5⟩
   have H5 := h5.keepW hA
   have D5 := hsA.trans d5
   clear hcall h5 d5 hA hsA cb0 cb1 cb2 cb3 cb4 cb5 cb6 hixk hbl hen
   generalize wr.heap.size = b8 at H5 ⊢
   have c8 : w5.cell? ⟨b8, 0, none⟩ = some (.int .i64 (fsize k : Int)) := H5.cell 0
   obtain ⟨fn0, fn1⟩ := field_range t ht k
   have Hes : Hid (encN t (k + 1) = encN t k ++ leN (t.field k) (fsize k)) := encN_succ t k
   have hlenK : (encN t k).length ≤ 54 := by omega
   generalize hfk : t.field k = n at *
   generalize hsk : fsize k = sz at *
   generalize hpre : encN t k = pre at *
   have H6 : Sat w5 (bs 5 (.slice va pre.length vc) (pre ++ leN n 0) * (pt b8 (.cells #[.int .i64 (sz : Int), fnV f caps, fnV f2 caps2] 177 (0, 0)) * (fieldsA fb * (pt bt (.cells t.cells 121 (0, 0)) * whole w)))) := H5.front2.to (by simp only [leN, List.range_zero, List.map_nil, List.append_nil])
   clear H5 hfk hsk hpre
   go_wp2_with fail
   go_loopg [6, 9, 29] sz (fun gk u6 u9 u29 wr => EncIn pre n sz (pt b8 (.cells #[.int .i64 (sz : Int), fnV f caps, fnV f2 caps2] 177 (0, 0)) * (fieldsA fb * (pt bt (.cells t.cells 121 (0, 0)) * whole w))) w gk u6 u9 u29 wr)
   case atStart => exact ⟨0, by omega, by omega, rfl, by simp, H6, D5⟩
   case round =>
    clear H6 D5 c8
    obtain ⟨j, hj, hgj, rfl, rfl, hsat, hside⟩ := hrel
    have hl6 : (pre ++ leN n j).length ≤ 60 := by rw [List.length_append, leN_length]; omega
    by_cases hjl : j < sz
    ·have hjl' : (j : Int) < (sz : Int) := by omega
     have hp : 0 < (256 : Int) ^ j := Int.pow_pos (by decide)
     have q0 : 0 ≤ n / (256 : Int) ^ j := Int.ediv_nonneg fn0 (by omega)
     have q1 : n / (256 : Int) ^ j < 18446744073709551616 := Int.lt_of_le_of_lt (Int.ediv_le_self _ fn0) fn1
     have q2 : n / (256 : Int) ^ (j + 1) = n / (256 : Int) ^ j / 256 := by
      rw [Int.pow_succ, Int.ediv_ediv, if_neg (fun hh => absurd hh.1 (by omega)), Int.sub_zero]
     have hs8 := leN_succ n j
     obtain ⟨v', w6, hrun, h6, d6, a6, c6, rfl⟩ := append_byte (x := UInt8.ofInt (n / (256 : Int) ^ j)) hsat (by omega)
     have hu8 := u8_wrap (n / (256 : Int) ^ j)
     rw [IntKind.wrap_u8] at hu8
     rw [List.append_assoc, ← hs8] at h6
     generalize hq : n / (256 : Int) ^ j = q at *
     rw [← hu8] at hrun
     have Hrun := SL.hid hrun; have Hq2 := SL.hid q2
     clear hrun hs8 hu8 hsat hq q2 hp
     go_wp2_with (at_builtin; refine wpList_append_run Hrun.out _ _ rfl rfl rfl rfl rfl ?_)
     go_roundg (gk - 1)
     case measure => omega
     case rel =>
      refine ⟨j + 1, by omega, by omega, by go_num, by rw [Hq2.out], ?_, hside.trans d6⟩
      rw [List.length_append] at h6
      exact h6
    ·obtain rfl : j = sz := by omega
     have hshape := sl_shape hsat
     obtain ⟨a6, c6, rfl⟩ := hshape
     rw [← Hes.out] at hsat
     have H9 := hsat.drop2
     clear hjl hl6 hsat
     go_wp2
     go_roundg (gko - 1)
     case measure => omega
     case rel =>
      refine ⟨k + 1, by omega, by omega, by go_num, ?_, hside⟩
      first | exact H9 | (rw [← Hes.out]; exact H9)
  ·obtain rfl : k = 9 := by omega
   have hrl : Rd wr (.slice ba 480 bc) l := Rds.carry Hr.out fun a u hu => (hsat.right.right.right.addEmp.to (star_comm _ _)).cellOld hu
   obtain ⟨i0, hi, hz, hs0, hb0⟩ := info_parts info_u8
   have hrl2 : Rds wr 1 (.slice ba 480 bc) 480 (l.map Go.SL.u8) := by
    have := hrl; unfold Rd at this; rwa [Hl.out] at this
   obtain ⟨v', w6, hrun, h6, d6⟩ := Sat.append (P := Tryz.prog) (ty := 22) Tryz.underlying22 hi hz hs0 hb0 rfl hsat hrl2 (by
    intro u hu; obtain ⟨x, _, rfl⟩ := List.mem_map.1 hu; rfl) (by unfold maxLen; omega) (by omega)
   have hbs : Sat w6 (bs 5 v' (enc t ++ l) * (fieldsA fb * (pt bt (.cells t.cells 121 (0, 0)) * whole w))) := h6.to (by
    rw [bs, List.length_append, List.map_append, Hl.out]; rfl)
   have Hrun := SL.hid hrun
   clear hrun h6 hrl hrl2 hsat hlt hi hz hs0 hb0 hix hgk
   go_wp2_with (at_builtin; refine wpList_append_run Hrun.out _ _ rfl rfl rfl rfl rfl ?_)
   go_ret2
   exact ⟨v', rfl, hbs.drop2.drop2, hside.trans d6⟩
end Go.Proofs.YtdafdidmbeecfaaGreatDoor
namespace Go.SL
set_option linter.unusedVariables false
set_option linter.unusedSimpArgs false
open Go.RowKit
def Tg.zero : Tg := ⟨0, 0, 0, 0, 0, 0, 0⟩
def Tg.set (t : Tg) (n : Int) : Nat → Tg
 | 1 => { t with ep := n % 4294967296 }
 | 2 => { t with sq := n }
 | 3 => { t with fl := n }
 | 4 => { t with st := n }
 | 5 => { t with ix := wrap64 n }
 | 6 => { t with ct := wrap64 n }
 | 7 => { t with id := wrap64 n }
 | _ => t
def offN (k : Nat) : Nat := ((List.range k).map fsize).sum
theorem offN_succ (k : Nat) : offN (k + 1) = offN k + fsize k := by simp [offN, List.range_succ]
def decT (l : List UInt8) : Nat → Tg
 | 0 => Tg.zero
 | k + 1 => (decT l k).set (leV (l.drop (offN k)) (fsize k)) k
end Go.SL
namespace Go.Proofs.YtdafdidmbeecfaaGreatDoor
set_option linter.unusedVariables false
set_option linter.unusedSimpArgs false
open Go.RowKit Go.SL
def SetQ (b : Nat) (t : Tg) (F : Assn) (w : World) (e : Ending) (w' : World) : Prop := e = .returned (.tuple #[]) ∧ Sat w' (pt b (.cells t.cells 121 (0, 0)) * F) ∧ Side w w'
theorem setX (b : Nat) (n : Int) (t : Tg) (w : World) (F : Assn) (h : Sat w (pt b (.cells t.cells 121 (0, 0)) * F)) :
  Calls Tryz.prog 136 #[ptV b, .int .u64 n] w (SetQ b t F w) := by
 go_enter Tryz.func136, Tryz.ntmps136
 go_wp2
 go_end0
 exact ⟨rfl, h, Side.refl w⟩
theorem setE (b : Nat) (n : Int) (t : Tg) (w : World) (F : Assn) (h : Sat w (pt b (.cells t.cells 121 (0, 0)) * F)) :
  Calls Tryz.prog 121 #[ptV b, .int .u64 n] w (SetQ b (t.set n 1) F w) := by
 have hc : w.cell? ⟨b, 0, none⟩ = some (.int .u32 t.ep) := h.cell 0
 have hf := h.frozen 0
 have h2 := h.setCell 0 (.int .u32 (n % 4294967296))
 have H2 := SL.hid h2
 clear h h2
 go_enter Tryz.func121, Tryz.ntmps121
 go_wp2
 go_end0
 exact ⟨rfl, H2.out, (Side.refl w).setCell _ _⟩
theorem setL (b c f o : Nat) (n v : Int) (t t' : Tg) (w : World) (F : Assn) (h : Sat w (pt c (.cells #[fnV f #[]] 195 (0, 0)) * (pt b (.cells t.cells 121 (0, 0)) * F))) (hen : ∀ args w, (callFunc f args).run Tryz.prog w = .ok (.enter f args) w)
  (hat : ∀ (b : Nat) (w : World), Calls Tryz.prog f #[ptV b] w fun e w' => e = .returned (.pointer (some ⟨b, o, none⟩)) ∧ w = w') (ho : t.cells[o]? = some (.int .u64 v)) (ht : t.cells.setIfInBounds o (.int .u64 n) = t'.cells) :
  Calls Tryz.prog 138 #[ptV b, .int .u64 n, ptV c] w (SetQ b t' (pt c (.cells #[fnV f #[]] 195 (0, 0)) * F) w) := by
 have hc : w.cell? ⟨c, 0, none⟩ = some (fnV f #[]) := h.cell 0
 have hco := (h.front2.cell o).trans ho
 have hf := h.front2.frozen o
 have h2 := h.front2.setCell o (.int .u64 n)
 rw [ht] at h2
 clear h ho ht
 go_enter Tryz.func138, Tryz.ntmps138
 go_wp2_with fail
 refine (hat _ _).mono ?_
 rintro e w1 ⟨rfl, rfl⟩
 go_wp2
 go_end0
 exact ⟨rfl, h2, (Side.refl w).setCell _ _⟩
theorem setS (b c f o : Nat) (n v : Int) (t t' : Tg) (w : World) (F : Assn) (h : Sat w (pt c (.cells #[fnV f #[]] 198 (0, 0)) * (pt b (.cells t.cells 121 (0, 0)) * F))) (hen : ∀ args w, (callFunc f args).run Tryz.prog w = .ok (.enter f args) w)
  (hat : ∀ (b : Nat) (w : World), Calls Tryz.prog f #[ptV b] w fun e w' => e = .returned (.pointer (some ⟨b, o, none⟩)) ∧ w = w') (ho : t.cells[o]? = some (.int .i64 v)) (ht : t.cells.setIfInBounds o (.int .i64 (wrap64 n)) = t'.cells) :
  Calls Tryz.prog 140 #[ptV b, .int .u64 n, ptV c] w (SetQ b t' (pt c (.cells #[fnV f #[]] 198 (0, 0)) * F) w) := by
 have hc : w.cell? ⟨c, 0, none⟩ = some (fnV f #[]) := h.cell 0
 have hco := (h.front2.cell o).trans ho
 have hf := h.front2.frozen o
 have h2 := h.front2.setCell o (.int .i64 (wrap64 n))
 rw [ht] at h2
 clear h ho ht
 go_enter Tryz.func140, Tryz.ntmps140
 go_wp2_with fail
 refine (hat _ _).mono ?_
 rintro e w1 ⟨rfl, rfl⟩
 go_wp2
 go_end0
 exact ⟨rfl, h2, (Side.refl w).setCell _ _⟩
theorem set_k (fb : Fb) (b : Nat) (t : Tg) (n : Int) (k : Nat) (hk : k < 9) :
  ∃ f caps, fset fb k = (f, caps) ∧ (∀ args w, (callFunc f args).run Tryz.prog w = .ok (.enter f args) w) ∧
   ∀ w F, Sat w (fieldsA fb * (pt b (.cells t.cells 121 (0, 0)) * F)) → Calls Tryz.prog f (#[ptV b, .int .u64 n] ++ caps) w (SetQ b (t.set n k) (fieldsA fb * F) w) := by
 have fin : ∀ {t' : Tg} {R F : Assn} {w : World} {e : Ending} {w' : World} {c : Nat} {o : Obj}, SetQ b t' (pt c o * R) w e w' → (pt b (.cells t'.cells 121 (0, 0)) * (pt c o * R) = pt b (.cells t'.cells 121 (0, 0)) * (fieldsA fb * F)) → SetQ b t' (fieldsA fb * F) w e w' :=
  fun ⟨h1, h2, h3⟩ e => ⟨h1, h2.to e, h3⟩
 match k, hk with
 | 0, _ => exact ⟨_, _, rfl, en_x2, fun w F h => setX b n t w _ h.front2⟩
 | 1, _ => exact ⟨_, _, rfl, en_f2, fun w F h => setE b n t w _ h.front2⟩
 | 2, _ => exact ⟨_, _, rfl, en_l2, fun w F h => (setL b fb.b2 _ 2 n _ t (t.set n 2) w _ ((fieldsO h).front2.front9.front2) en_f3 at3 rfl rfl).mono fun _ _ q => fin q (by unfold fieldsA; ac_rfl)⟩
 | 3, _ => exact ⟨_, _, rfl, en_l2, fun w F h => (setL b fb.b3 _ 3 n _ t (t.set n 3) w _ ((fieldsO h).front3.front9.front2) en_f4 at4 rfl rfl).mono fun _ _ q => fin q (by unfold fieldsA; ac_rfl)⟩
 | 4, _ => exact ⟨_, _, rfl, en_l2, fun w F h => (setL b fb.b4 _ 1 n _ t (t.set n 4) w _ ((fieldsO h).front4.front9.front2) en_f5 at5 rfl rfl).mono fun _ _ q => fin q (by unfold fieldsA; ac_rfl)⟩
 | 5, _ => exact ⟨_, _, rfl, en_s2, fun w F h => (setS b fb.b5 _ 4 n _ t (t.set n 5) w _ ((fieldsO h).front5.front9.front2) en_f6 at6 rfl rfl).mono fun _ _ q => fin q (by unfold fieldsA; ac_rfl)⟩
 | 6, _ => exact ⟨_, _, rfl, en_s2, fun w F h => (setS b fb.b6 _ 5 n _ t (t.set n 6) w _ ((fieldsO h).front6.front9.front2) en_f7 at7 rfl rfl).mono fun _ _ q => fin q (by unfold fieldsA; ac_rfl)⟩
 | 7, _ => exact ⟨_, _, rfl, en_s2, fun w F h => (setS b fb.b7 _ 6 n _ t (t.set n 7) w _ ((fieldsO h).front7.front9.front2) en_f8 at8 rfl rfl).mono fun _ _ q => fin q (by unfold fieldsA; ac_rfl)⟩
 | 8, _ => exact ⟨_, _, rfl, en_x2, fun w F h => setX b n t w _ h.front2⟩
end Go.Proofs.YtdafdidmbeecfaaGreatDoor
namespace Go.Proofs.YtdafdidmbeecfaaGreatDoor
set_option linter.unusedVariables false
set_option linter.unusedSimpArgs false
open Go.RowKit Go.SL
theorem toList_loop (l : List UInt8) : ∀ (n i : Nat) (acc : List UInt8), l.length - i = n → ByteArray.toList.loop ⟨l.toArray⟩ i acc = acc.reverse ++ l.drop i := by
 intro n
 induction n with
 | zero =>
  intro i acc h
  rw [ByteArray.toList.loop]
  have : ¬ i < ByteArray.size ⟨l.toArray⟩ := by show ¬ i < l.toArray.size; simp; omega
  rw [if_neg this, List.drop_of_length_le (by omega)]; simp
 | succ n ih =>
  intro i acc h
  rw [ByteArray.toList.loop]
  have hi : i < l.length := by omega
  have : i < ByteArray.size ⟨l.toArray⟩ := by show i < l.toArray.size; simpa using hi
  rw [if_pos this, ih (i + 1) _ (by omega), List.drop_eq_getElem_cons hi]
  simp [ByteArray.get!, hi]
theorem toList_str (l : List UInt8) : (str l).toList = l := by
 show ByteArray.toList.loop ⟨l.toArray⟩ 0 [] = l
 rw [toList_loop l _ 0 [] rfl]; rfl
theorem run_text (w : World) (v : Value) (l : List UInt8) (h : Rd w v l) : (convert 22 9 v).run Tryz.prog w = .ok (.string (str l)) w := by
 have hfold : ∀ (l : List UInt8) (s : ByteArray), (l.map fun x => (x.toNat : Int)).foldl (fun r n => r.push (UInt8.ofNat n.toNat)) s = ⟨s.data ++ l.toArray⟩ := by
  intro l
  induction l with
  | nil => intro s; simp
  | cons a l ih => intro s; simp only [List.map_cons, List.foldl_cons, ih]; simp [ByteArray.push]
 obtain ⟨_, hr⟩ := h
 rcases hr with ⟨rfl, h0⟩ | ⟨a, c, rfl, ha⟩
 ·have : l = [] := List.eq_nil_of_length_eq_zero h0
  subst this
  rw [run_convert_bytes_string w _ _ 5 none 0 0 Tryz.underlying22 Tryz.underlying5 Tryz.underlying9]
  rfl
 ·rw [run_convert_bytes_string w _ _ 5 (some a) _ c Tryz.underlying22 Tryz.underlying5 Tryz.underlying9]
  have hl := run_loadCells_list (P := Tryz.prog) (w := w) a (l.map u8) ha
  rw [List.length_map] at hl
  have := run_bytesToString (P := Tryz.prog) w a l.length c (l.map fun x => (x.toNat : Int)) (by
   rw [hl]
   simp [u8, Function.comp_def])
  rw [this, hfold]
  simp [str]
set_option maxRecDepth 100000 in
theorem encode_no (t : Tg) (hok : t.ok = false) (bv : Value) (l : List UInt8) (w : World) (hr : Rd w bv l) :
  Calls Tryz.prog 81 #[.agg t.cells, bv] w (Tells (.tuple #[.slice none 0 0, .int .i64 1]) w) := by
 obtain ⟨ba, bc, rfl⟩ := hr.shape
 have hri := right_any t
 rw [hok] at hri
 have hA := (Sat.whole w).alloc (.cells t.cells 121 (0, 0))
 have hs := (Side.refl w).alloc (.cells t.cells 121 (0, 0))
 clear hr hok
 go_enter Tryz.func81, Tryz.ntmps81
 simp only [Tg.cells] at hA hri ⊢
 go_wp2_with fail
 refine (hri _).mono ?_
 rintro e w2 ⟨rfl, h2, d2⟩
 have H2 := (h2.keepW hA).right
 have D2 := Side.trans hs d2
 clear hri hA hs h2 d2
 go_wp2
 go_ret2
 exact ⟨rfl, H2, D2⟩
theorem equal_any (w : World) (v1 v2 : Value) (l1 l2 : List UInt8) (h1 : Rd w v1 l1) (h2 : Rd w v2 l2) :
  Calls Tryz.prog 106 #[v1, v2] w (BoolIs (decide (l1 = l2)) w) := by
 have k1 := run_text w v1 l1 h1
 have k2 := run_text w v2 l2 h2
 by_cases he : l1 = l2
 ·subst he
  rw [show decide (l1 = l1) = true by simp]
  clear h1 h2
  go_enter Tryz.func106, Tryz.ntmps106
  go_wp2
  go_ret
  exact ⟨rfl, rfl⟩
 ·rw [show decide (l1 = l2) = false by simpa using he]
  have hne : ((str l1).toList == (str l2).toList) = false := by
   rw [toList_str, toList_str]; simpa using he
  clear h1 h2 he
  go_enter Tryz.func106, Tryz.ntmps106
  go_wp2
  go_ret
  exact ⟨rfl, rfl⟩
end Go.Proofs.YtdafdidmbeecfaaGreatDoor
end
section
namespace Go.SL
set_option linter.unusedVariables false
set_option linter.unusedSimpArgs false
open Go.RowKit
def decodeF (l : List UInt8) : Option (Tg × List UInt8) :=
 if (decT l 9).ok = true ∧ enc (decT l 9) ++ l.drop 32 = l then some (decT l 9, l.drop 32) else none
theorem offN_le (k : Nat) (h : k ≤ 9) : offN k ≤ 32 := by
 obtain rfl | rfl | rfl | rfl | rfl | rfl | rfl | rfl | rfl | rfl : k = 0 ∨ k = 1 ∨ k = 2 ∨ k = 3 ∨ k = 4 ∨ k = 5 ∨ k = 6 ∨ k = 7 ∨ k = 8 ∨ k = 9 := by omega
 all_goals decide
theorem set_fit (t : Tg) (n : Int) (k : Nat) (h : t.Fit) (r0 : 0 ≤ n) (r2 : n < 18446744073709551616) : (t.set n k).Fit := by
 obtain ⟨h0, h1, h2, h3, h4, h5, h6, h7⟩ := h
 unfold Tg.set
 split
 ·exact ⟨Int.emod_nonneg _ (by decide), Int.emod_lt_of_pos _ (by decide), h2, h3, h4, h5, h6, h7⟩
 ·exact ⟨h0, h1, h2, h3, r0, r2, h6, h7⟩
 ·exact ⟨h0, h1, h2, h3, h4, h5, r0, r2⟩
 ·exact ⟨h0, h1, r0, r2, h4, h5, h6, h7⟩
 all_goals exact ⟨h0, h1, h2, h3, h4, h5, h6, h7⟩
set_option maxRecDepth 100000 in
theorem decT_fit (l : List UInt8) (k : Nat) : (decT l k).Fit := by
 induction k with
 | zero => exact (show Tg.zero.Fit from ⟨by decide, by decide, by decide, by decide, by decide, by decide, by decide, by decide⟩)
 | succ k ih =>
  obtain ⟨h0, h1, h2, h3, h4, h5, h6, h7⟩ := ih
  obtain ⟨r0, r1⟩ := leV_range (l.drop (offN k)) (fsize k)
  have hp := pow256_le (fsize_le k)
  rw [decT]
  have r2 : leV (l.drop (offN k)) (fsize k) < 18446744073709551616 := by omega
  clear r1 hp
  generalize leV (l.drop (offN k)) (fsize k) = n at *
  exact set_fit (decT l k) n k ⟨h0, h1, h2, h3, h4, h5, h6, h7⟩ r0 r2
end Go.SL
namespace Go.Proofs.YtdafdidmbeecfaaGreatDoor
set_option linter.unusedVariables false
set_option linter.unusedSimpArgs false
open Go.RowKit Go.SL
theorem rd_cells {w : World} {g o c : Nat} {l : List UInt8} (h : ∀ i, i < l.length → w.cell? ⟨g, o + i, none⟩ = some (u8 (l.getD i 0))) : Rd w (.slice (some ⟨g, o, none⟩) l.length c) l := by
 refine ⟨by simp, .inr ⟨_, _, rfl, fun j u hu => ?_⟩⟩
 rw [Addr.add_lit]
 rw [List.getElem?_map] at hu
 by_cases hj : j < l.length
 ·rw [List.getElem?_eq_getElem hj] at hu
  rw [h j hj, ← hu, List.getD, List.getElem?_eq_getElem hj]; rfl
 ·rw [List.getElem?_eq_none (Nat.le_of_not_lt hj)] at hu; cases hu
theorem info_tag0 : (Tryz.prog.info? 121).map (·.size) = some 7 := by kernel_rfl
theorem info_tag (t : Tg) : (Tryz.prog.info? 121).map (·.size) = some t.cells.size := info_tag0
theorem tag_one (t : Tg) : t.cells.all (·.oneCell') = true := by simp [Tg.cells, Value.oneCell']
theorem dec_results {tmps : Array Value} {w : World} {z2 : Nat} {t : Tg} {v u : Value} {F : Assn} (h2 : tmps[2]? = some (ptV z2)) (h3 : tmps[3]? = some v) (h4 : tmps[4]? = some u) (h : Sat w (pt z2 (.cells t.cells 121 (0, 0)) * F)) :
  (results Tryz.f87 tmps).run Tryz.prog w = .ok (.tuple #[.agg t.cells, v, u]) w := by
 have hz : ∀ o, w.cell? ⟨z2, o, none⟩ = t.cells[o]? := fun o => h.cell o
 have z0 := hz 0; have z1 := hz 1; have z2' := hz 2; have z3 := hz 3; have z4 := hz 4; have z5 := hz 5; have z6 := hz 6
 clear hz h
 simp only [Tg.cells] at z0 z1 z2' z3 z4 z5 z6 ⊢
 simp [results, Tryz.results87, go_sem, h2, h3, h4, z0, z1, z2', z3, z4, z5, z6]
def DecIn (l : List UInt8) (off : Nat) (s : Nat) (X : Assn) (w0 : World) (gk : Nat) (u9 u24 : Value) (wr : World) : Prop :=
 ∃ j : Nat, j ≤ s ∧ s - j ≤ gk ∧ u24 = .int .i64 (j : Int) ∧ u9 = .int .u64 (leV (l.drop off) j) ∧ Sat wr X ∧ Side w0 wr
def DecOut (l : List UInt8) (g cap : Nat) (fb : Fb) (b5 : Nat) (X : Assn) (w0 : World) (gk : Nat) (u6 u19 : Value) (wr : World) : Prop :=
 ∃ k : Nat, k ≤ 9 ∧ 9 - k ≤ gk ∧ u19 = .int .i64 (k : Int) ∧ u6 = .slice (some ⟨g, offN k, none⟩) (512 - offN k) (cap - offN k) ∧
  Sat wr (fieldsA fb * (pt b5 (.cells (decT l k).cells 121 (0, 0)) * X)) ∧ Side w0 wr
def DecodeQ (o : Option (Tg × List UInt8)) (w : World) (e : Ending) (w' : World) : Prop :=
 match o with
 | some (t, l) => ∃ v, e = .returned (.tuple #[.agg t.cells, v, .int .i64 0]) ∧ Sat w' (bs 5 v l * whole w) ∧ Side w w'
 | none => e = .returned (.tuple #[.agg Tg.zero.cells, .slice none 0 0, .int .i64 4]) ∧ Sat w' (whole w) ∧ Side w w'
set_option maxRecDepth 100000 in
set_option maxHeartbeats 4000000 in
theorem decode_any (l : List UInt8) (hl : l.length = 512) (g cap : Nat) (hcap : 512 ≤ cap) (hcm : cap ≤ maxLen) (w : World) (hb : ∀ o, o < 512 → w.cell? ⟨g, o, none⟩ = some (u8 (l.getD o 0))) :
  Calls Tryz.prog 87 #[.slice (some ⟨g, 0, none⟩) 512 cap] w (DecodeQ (decodeF l) w) := by
 have hA := ((Sat.whole w).alloc (.cells Tg.zero.cells 121 (0, 0))).alloc (.cells Tg.zero.cells 121 (0, 0))
 have hs := ((Side.refl w).alloc (.cells Tg.zero.cells 121 (0, 0))).alloc (.cells Tg.zero.cells 121 (0, 0))
 rw [World.size_alloc] at hA
 have Hb := SL.hid hb
 clear hb hcm
 go_enter Tryz.func87, Tryz.ntmps87
 go_wp2_with fail
 refine (fields_any _).mono ?_
 rintro e w4 ⟨fb, rfl, h4, d4⟩
 have H4 := h4.under hA
 have D4 := Side.trans hs d4
 clear h4 d4 hA hs
 generalize w.heap.size + 1 = b5 at H4 ⊢
 generalize w.heap.size = z2 at H4 ⊢
 have hix := index_k fb
 have hsk := fun t n k hk => set_k fb b5 t n k hk
 generalize hfv : fieldsV fb = fv at hix
 clear hfv
 go_wp2_with fail
 go_loopg [6, 19] 9 (fun gk u6 u19 wr => DecOut l g cap fb b5 (pt z2 (.cells Tg.zero.cells 121 (0, 0)) * whole w) w gk u6 u19 wr)
 case atStart => exact ⟨0, by omega, by omega, rfl, rfl, H4, D4⟩
 case round =>
  clear H4 D4
  obtain ⟨gko, rfl⟩ : ∃ n, n = gk := ⟨gk, rfl⟩
  obtain ⟨k, hk, hgo, rfl, rfl, hsat, hside⟩ := hrel
  have hoff := offN_le k hk
  by_cases hlt : k < 9
  ·have hlt' : (k : Int) < 9 := by omega
   have hixk := hix k hlt
   have hoff2 := offN_le (k + 1) (by omega)
   rw [offN_succ] at hoff2
   obtain ⟨f2, caps2, hf2, hen, hset⟩ := hsk (decT l k) (leV (l.drop (offN k)) (fsize k)) k hlt
   obtain ⟨f, caps, hf⟩ : ∃ f caps, fget fb k = (f, caps) := ⟨_, _, rfl⟩
   simp only [fcells, hf, hf2] at hixk
   have hsz : (fsize k : Int) ≤ 6 := by have := fsize_le k; omega
   have hszn : fsize k ≤ 6 := fsize_le k
   have hA := hsat.alloc (.cells #[.int .i64 (fsize k), fnV f caps, fnV f2 caps2] 177 (0, 0))
   have hsA := hside.alloc (.cells #[.int .i64 (fsize k), fnV f caps, fnV f2 caps2] 177 (0, 0))
   have Hdec : Hid (decT l (k + 1) = (decT l k).set (leV (l.drop (offN k)) (fsize k)) k) := rfl
   have Hoff : Hid (offN (k + 1) = offN k + fsize k) := offN_succ k
   have Hset := SL.hid hset
   clear hix hsk hf hf2 hsat hside hset
   generalize hsk2 : fsize k = sz at *
   generalize hok : offN k = off at *
   clear hsk2 hok
   go_wp2_with fail
   generalize wr.alloc (.cells #[.int .i64 (sz : Int), fnV f caps, fnV f2 caps2] 177 (0, 0)) = w5 at hA hsA ⊢
   generalize wr.heap.size = b8 at hA ⊢
   have c8 : w5.cell? ⟨b8, 0, none⟩ = some (.int .i64 (sz : Int)) := hA.cell 0
   go_loopg [9, 24] sz (fun gk u9 u24 wr => DecIn l off sz (pt b8 (.cells #[.int .i64 (sz : Int), fnV f caps, fnV f2 caps2] 177 (0, 0)) * (fieldsA fb * (pt b5 (.cells (decT l k).cells 121 (0, 0)) * (pt z2 (.cells Tg.zero.cells 121 (0, 0)) * whole w)))) w gk u9 u24 wr)
   case atStart => exact ⟨0, by omega, by omega, rfl, rfl, hA, hsA⟩
   case round =>
    clear hA hsA c8
    obtain ⟨j, hj, hgj, rfl, rfl, hsat, hside⟩ := hrel
    by_cases hjl : j < sz
    ·have hjl' : (j : Int) < (sz : Int) := by omega
     have hcj : wr.cell? ⟨g, off + j, none⟩ = some (.int .u8 ((l.getD (off + j) 0).toNat : Int)) := (hsat.right.right.right.right.addEmp.to (star_comm _ _)).cellOld (Hb.out (off + j) (by omega))
     have hidx : (j : Int) < ((512 - off : Nat) : Int) := by omega
     obtain ⟨r0, r1⟩ := leV_range (l.drop off) j
     go_wp2_with fail
     go_roundg (gk - 1)
     case measure => omega
     case rel => exact ⟨j + 1, by omega, by omega, by go_num, by rw [or_step l off j (by omega)], hsat, hside⟩
    ·obtain rfl : j = sz := by omega
     have c8 : wr.cell? ⟨b8, 0, none⟩ = some (.int .i64 (j : Int)) := hsat.cell 0
     have c82 : wr.cell? ⟨b8, 2, none⟩ = some (fnV f2 caps2) := hsat.cell 2
     have hcall := Hset.out wr _ hsat.front3.front3
     clear hjl
     go_wp2_with fail
     refine hcall.mono ?_
     rintro e w7 ⟨rfl, h7, d7⟩
     have H7 := h7
     have c8' : w7.cell? ⟨b8, 0, none⟩ = some (.int .i64 (j : Int)) := H7.front3.cell 0
     have hb1 : (j : Int) ≤ ((512 - off : Nat) : Int) := by omega
     have hb2 : j ≤ 512 - off := by omega
     have hb3 : j ≤ cap - off := by omega
     have hb4 : 512 - off ≤ cap - off := by omega
     have hb5 : ¬ cap - off = j := by omega
     have hb6 : ¬ cap - off - j = 0 := by omega
     have hside7 := hside.trans d7
     clear hcall h7 d7 c8 c82 hsat hside
     go_wp2
     go_roundg (gko - 1)
     case measure => omega
     case rel =>
      refine ⟨k + 1, by omega, by omega, by go_num, by rw [Hoff.out, Nat.sub_sub, Nat.sub_sub], ?_, hside7⟩
      rw [Hdec.out]
      exact H7.drop3.front2
  ·obtain rfl : k = 9 := by omega
   have ho9 : offN 9 = 32 := by decide
   have Ht := SL.hid (decT_fit l 9)
   rw [ho9]
   have cb : ∀ o, wr.cell? ⟨b5, o, none⟩ = (decT l 9).cells[o]? := fun o => hsat.front2.cell o
   have cb0 := cb 0; have cb1 := cb 1; have cb2 := cb 2; have cb3 := cb 3; have cb4 := cb 4; have cb5 := cb 5; have cb6 := cb 6
   simp only [Tg.cells] at cb0 cb1 cb2 cb3 cb4 cb5 cb6
   have hrest : Rd wr (.slice (some ⟨g, 32, none⟩) 480 (cap - 32)) (l.drop 32) := by
    have hdl : (l.drop 32).length = 480 := by rw [List.length_drop, hl]
    have := rd_cells (w := wr) (g := g) (o := 32) (c := cap - 32) (l := l.drop 32) fun o h => by
     have hc := (hsat.right.right.right.addEmp.to (star_comm _ _)).cellOld (Hb.out (32 + o) (by omega))
     rw [hc]
     simp [List.getD]
    rwa [hdl] at this
   have hfull : ∀ w', Sat w' (whole w) → Rd w' (.slice (some ⟨g, 0, none⟩) 512 cap) l := fun w' h => by
    have := rd_cells (w := w') (g := g) (o := 0) (c := cap) (l := l) fun o hh => by
     have hc := (h.addEmp.to (star_comm _ _)).cellOld (Hb.out o (by omega))
     rw [Nat.zero_add]; exact hc
    rwa [hl] at this
   have Hfull := SL.hid hfull; have Hrest := SL.hid hrest; have Hl := SL.hid hl
   have hz : ∀ o, wr.cell? ⟨z2, o, none⟩ = Tg.zero.cells[o]? := fun o => hsat.front3.cell o
   have Hdn : Hid ((decT l 9).ok = false → decodeF l = none) := fun hok => by unfold decodeF; rw [if_neg]; rintro ⟨h1, _⟩; rw [hok] at h1; cases h1
   have Hdy : Hid ((decT l 9).ok = true → enc (decT l 9) ++ l.drop 32 = l → decodeF l = some (decT l 9, l.drop 32)) := fun h1 h2 => by unfold decodeF; rw [if_pos ⟨h1, h2⟩]
   have Hdz : Hid (¬ enc (decT l 9) ++ l.drop 32 = l → decodeF l = none) := fun h2 => by unfold decodeF; rw [if_neg]; rintro ⟨_, h3⟩; exact h2 h3
   clear cb hfull hrest hix hsk hoff hlt hl
   generalize decT l 9 = t at *
   cases hok : t.ok with
   | false =>
    have hdec : decodeF l = none := Hdn.out hok
    have Hdec := SL.hid hdec
    have hcall := encode_no t hok _ _ wr Hrest.out
    clear hdec hok
    simp only [Tg.cells] at hcall
    go_wp2_with fail
    refine hcall.mono ?_
    rintro e w7 ⟨rfl, h7, d7⟩
    have H7 := h7.keepW hsat
    clear hcall hsat cb0 cb1 cb2 cb3 cb4 cb5 cb6 hz h7
    have hzh : w7.heap[z2]? = some (.cells Tg.zero.cells 121 (0, 0)) := H7.front3.heap
    have H8 := H7.front3.setRow (cs' := Tg.zero.cells)
    have hs8 := (hside.trans d7).setRow z2 Tg.zero.cells
    go_wp2_with (refine wpList_store_row rfl 121 (.tmp 2) (.tmp 61) rfl z2 Tg.zero.cells rfl rfl 121 Tg.zero.cells hzh (info_tag _) rfl (tag_one _) ?_)
    refine bodyPost_ret (dec_results rfl rfl rfl H8) rfl ?_
    rw [Hdec.out]
    exact ⟨rfl, H8.right.right.right, hs8⟩
   | true =>
    have hcall := encode_yes t Ht.out hok _ _ (by rw [List.length_drop, Hl.out]) wr Hrest.out
    have Hok := SL.hid hok
    clear hok
    simp only [Tg.cells] at hcall
    go_wp2_with fail
    refine hcall.mono ?_
    rintro e w7 ⟨v, rfl, h7, d7⟩
    have H7 := h7.under hsat
    have hside7 := hside.trans d7
    have hag : Rd w7 v (enc t ++ l.drop 32) := h7.bsRd
    have hfull := Hfull.out w7 H7.right.right.right.right
    have heq := equal_any w7 v _ _ _ hag hfull
    clear hcall hsat cb0 cb1 cb2 cb3 cb4 cb5 cb6 hz h7 d7 hside hag hfull
    by_cases he : enc t ++ l.drop 32 = l
    ·rw [show decide (enc t ++ l.drop 32 = l) = true by simpa using he] at heq
     have hdec : decodeF l = some (t, l.drop 32) := Hdy.out Hok.out he
     have Hdec := SL.hid hdec
     have hcb : ∀ o, w7.cell? ⟨b5, o, none⟩ = t.cells[o]? := fun o => H7.front3.cell o
     have cb0 := hcb 0; have cb1 := hcb 1; have cb2 := hcb 2; have cb3 := hcb 3; have cb4 := hcb 4; have cb5 := hcb 5; have cb6 := hcb 6
     simp only [Tg.cells] at cb0 cb1 cb2 cb3 cb4 cb5 cb6
     have Hrest7 : Hid (Rd w7 (.slice (some ⟨g, 32, none⟩) 480 (cap - 32)) (l.drop 32)) := by
      have hdl : (l.drop 32).length = 480 := by rw [List.length_drop, Hl.out]
      have := rd_cells (w := w7) (g := g) (o := 32) (c := cap - 32) (l := l.drop 32) fun o h => by
       have hc := (H7.right.right.right.right.addEmp.to (star_comm _ _)).cellOld (Hb.out (32 + o) (by omega))
       rw [hc]
       simp [List.getD]
      rwa [hdl] at this
     clear hcb he hdec
     go_wp2_with (go_at_call 106; (with_reducible refine heq.mono ?_); rintro e w8 ⟨rfl, rfl⟩)
     obtain ⟨i0, hi, hz, hs0, hb0⟩ := info_parts info_u8
     obtain ⟨B3, hB3⟩ : ∃ X, X = pt b5 (.cells t.cells 121 (0, 0)) * (fieldsA fb * whole w) := ⟨_, rfl⟩
     have K7 : Sat w7.drew (sl 5 1 (.slice none 0 0) 0 [] * (pt z2 (.cells Tg.zero.cells 121 (0, 0)) * B3)) := (Sat.slNil (F := pt z2 (.cells Tg.zero.cells 121 (0, 0)) * B3) (H7.right.to (by rw [hB3]; ac_rfl)) _ _)
     have hrl2 : Rds w7.drew 1 (.slice (some ⟨g, 32, none⟩) 480 (cap - 32)) 480 ((l.drop 32).map Go.SL.u8) := by
      have := Hrest7.out; unfold Rd at this; rwa [List.length_drop, Hl.out] at this
     obtain ⟨v', w8, hrun, h8, d8⟩ := Sat.append (P := Tryz.prog) (ty := 22) Tryz.underlying22 hi hz hs0 hb0 rfl K7 hrl2 (u8_one _) (by unfold maxLen; omega) (by omega)
     have hbs : Sat w8 (bs 5 v' (l.drop 32) * (pt z2 (.cells Tg.zero.cells 121 (0, 0)) * B3)) := h8.to (by
      rw [bs, List.length_drop, Hl.out]; rfl)
     obtain ⟨va', vc', rfl⟩ := sl_shape hbs
     have hz8 : ∀ o, w8.cell? ⟨z2, o, none⟩ = Tg.zero.cells[o]? := fun o => hbs.front2.cell o
     have zz0 : w8.cell? ⟨z2, 0, none⟩ = some (.int .u32 0) := hz8 0
     have zz1 : w8.cell? ⟨z2, 1, none⟩ = some (.int .u64 0) := hz8 1
     have zz2 : w8.cell? ⟨z2, 2, none⟩ = some (.int .u64 0) := hz8 2
     have zz3 : w8.cell? ⟨z2, 3, none⟩ = some (.int .u64 0) := hz8 3
     have zz4 : w8.cell? ⟨z2, 4, none⟩ = some (.int .i64 0) := hz8 4
     have zz5 : w8.cell? ⟨z2, 5, none⟩ = some (.int .i64 0) := hz8 5
     have zz6 : w8.cell? ⟨z2, 6, none⟩ = some (.int .i64 0) := hz8 6
     have fz0 : w8.frozen? ⟨z2, 0, none⟩ = false := hbs.front2.frozen 0
     have fz1 : w8.frozen? ⟨z2, 1, none⟩ = false := hbs.front2.frozen 1
     have fz2 : w8.frozen? ⟨z2, 2, none⟩ = false := hbs.front2.frozen 2
     have fz3 : w8.frozen? ⟨z2, 3, none⟩ = false := hbs.front2.frozen 3
     have fz4 : w8.frozen? ⟨z2, 4, none⟩ = false := hbs.front2.frozen 4
     have fz5 : w8.frozen? ⟨z2, 5, none⟩ = false := hbs.front2.frozen 5
     have fz6 : w8.frozen? ⟨z2, 6, none⟩ = false := hbs.front2.frozen 6
     have K9 := ((((((hbs.front2.setCell 0 (.int .u32 t.ep)).setCell 1 (.int .u64 t.st)).setCell 2 (.int .u64 t.sq)).setCell 3 (.int .u64 t.fl)).setCell 4 (.int .i64 t.ix)).setCell 5 (.int .i64 t.ct)).setCell 6 (.int .i64 t.id)
     have S9 := K9.right.right
     have S8 := hbs.right.right
     have S7 := K7.right.right
     have gb : ∀ o w', Sat w' B3 → w'.cell? ⟨b5, o, none⟩ = t.cells[o]? := fun o w' h => (hB3 ▸ h).cell o
     have gb0 : ∀ w', Sat w' B3 → w'.cell? ⟨b5, 0, none⟩ = some (.int .u32 t.ep) := gb 0
     have gb1 : ∀ w', Sat w' B3 → w'.cell? ⟨b5, 1, none⟩ = some (.int .u64 t.st) := gb 1
     have gb2 : ∀ w', Sat w' B3 → w'.cell? ⟨b5, 2, none⟩ = some (.int .u64 t.sq) := gb 2
     have gb3 : ∀ w', Sat w' B3 → w'.cell? ⟨b5, 3, none⟩ = some (.int .u64 t.fl) := gb 3
     have gb4 : ∀ w', Sat w' B3 → w'.cell? ⟨b5, 4, none⟩ = some (.int .i64 t.ix) := gb 4
     have gb5 : ∀ w', Sat w' B3 → w'.cell? ⟨b5, 5, none⟩ = some (.int .i64 t.ct) := gb 5
     have gb6 : ∀ w', Sat w' B3 → w'.cell? ⟨b5, 6, none⟩ = some (.int .i64 t.id) := gb 6
     have Hrun := SL.hid hrun
     have HB3 := SL.hid hB3
     clear hrun gb h8 hz8 hB3 hi hz hs0 hb0 hrl2 K7 H7 heq cb0 cb1 cb2 cb3 cb4 cb5 cb6
     have S9d := S9.drew
     go_region_held3 (fun w' => Sat w' B3) (first | (with_reducible exact S7) | (with_reducible exact S8) | (with_reducible exact S9) | (with_reducible exact S9d)) (first
      | (refine step_append_run Hrun.out rfl _ _ rfl rfl (by rfl) (by rfl) ?_))
     go_wp2
     have K10 : Sat ((((((((w8.setCell ⟨z2, 0, none⟩ (.int .u32 t.ep)).setCell ⟨z2, 1, none⟩ (.int .u64 t.st)).setCell ⟨z2, 2, none⟩ (.int .u64 t.sq)).setCell ⟨z2, 3, none⟩ (.int .u64 t.fl)).setCell ⟨z2, 4, none⟩ (.int .i64 t.ix)).setCell ⟨z2, 5, none⟩ (.int .i64 t.ct)).setCell ⟨z2, 6, none⟩ (.int .i64 t.id))) (pt z2 (.cells t.cells 121 (0, 0)) * (bs 5 (.slice va' (l.length - 32) vc') (l.drop 32) * B3)) := by
      rw [List.length_drop] at K9; exact K9
     refine bodyPost_ret (dec_results rfl rfl rfl K10) rfl ?_
     rw [Hdec.out]
     refine ⟨_, rfl, ?_, (((((((hside7.drew.trans d8).setCell _ _).setCell _ _).setCell _ _).setCell _ _).setCell _ _).setCell _ _).setCell _ _⟩
     rw [HB3.out] at K10
     exact K10.right.drop2.drop2
    ·rw [show decide (enc t ++ l.drop 32 = l) = false by simpa using he] at heq
     have hdec : decodeF l = none := Hdz.out he
     have Hdec := SL.hid hdec
     have hzh : w7.heap[z2]? = some (.cells Tg.zero.cells 121 (0, 0)) := H7.front4.heap
     have H8 := H7.front4.setRow (cs' := Tg.zero.cells)
     have hs8 := hside7.setRow z2 Tg.zero.cells
     clear he hdec H7
     go_wp2_with (first
      | (go_at_call 106; (with_reducible refine heq.mono ?_); rintro e w8 ⟨rfl, rfl⟩)
      | (refine wpList_store_row rfl 121 (.tmp 2) (.tmp 61) rfl z2 Tg.zero.cells rfl rfl 121 Tg.zero.cells hzh (info_tag _) rfl (tag_one _) ?_))
     refine bodyPost_ret (dec_results rfl rfl rfl H8) rfl ?_
     rw [Hdec.out]
     exact ⟨rfl, H8.right.right.right.right, hs8⟩
end Go.Proofs.YtdafdidmbeecfaaGreatDoor
end

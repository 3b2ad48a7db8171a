/- What append, make, a conversion of bytes do, said by assertions. Over any program. -/
import Derived.Test.YtlfooilcngjeiaaBy
namespace Go.SL
set_option linter.unusedVariables false
set_option linter.unusedSimpArgs false
open Go.RowKit
/-- A slice that owns its array: n elements of sz cells each, whose cells are xs. -/
def sl (T : TypeId) (sz : Nat) (v : Value) (n : Nat) (xs : List Value) : Assn := fun h =>
  (v = .slice none 0 0 ∧ n = 0 ∧ xs = [] ∧ h = fun _ => none) ∨
  ∃ g cap cur, v = .slice (some ⟨g, 0, none⟩) n cap ∧ n ≤ cap ∧ cap ≤ maxLen ∧ cur.size = cap * sz ∧ cur.toList.take (n * sz) = xs ∧ h = one g (.cells cur T (0, 0))
/-- A slice of bytes that owns its array. -/
def bs (T : TypeId) (v : Value) (l : List UInt8) : Assn := sl T 1 v l.length (l.map u8)
section
variable {w w' : World} {F : Assn} {T : TypeId} {sz n cap g : Nat} {v : Value} {xs : List Value}
theorem sl_nil (T : TypeId) (sz : Nat) : sl T sz (.slice none 0 0) 0 [] (fun _ => none) := .inl ⟨rfl, rfl, rfl, rfl⟩
theorem Sat.slNil (h : Sat w F) (T : TypeId) (sz : Nat) : Sat w (sl T sz (.slice none 0 0) 0 [] * F) :=
  (h.to (emp_star F).symm).weak fun k hk => by rw [hk]; exact sl_nil T sz
/-- What it is: nothing, or a row. -/
theorem Sat.slCases (h : Sat w (sl T sz v n xs * F)) : (v = .slice none 0 0 ∧ n = 0 ∧ xs = [] ∧ Sat w F) ∨
    ∃ g cap cur, v = .slice (some ⟨g, 0, none⟩) n cap ∧ n ≤ cap ∧ cap ≤ maxLen ∧ cur.size = cap * sz ∧ cur.toList.take (n * sz) = xs ∧ Sat w (pt g (.cells cur T (0, 0)) * F) := by
  obtain ⟨m, a, h1, h2, p, f, d, rfl⟩ := h
  rcases p with ⟨rfl, rfl, rfl, rfl⟩ | ⟨g, cap, cur, rfl, h3, h4, h5, h6, rfl⟩
  · exact .inl ⟨rfl, rfl, rfl, h2, fun b o hb => a b o (by simp [join, hb]), f⟩
  · exact .inr ⟨g, cap, cur, rfl, h3, h4, h5, h6, _, a, _, h2, rfl, f, d, rfl⟩
theorem Sat.slOf {cur : Array Value} (h : Sat w (pt g (.cells cur T (0, 0)) * F)) (h3 : n ≤ cap) (h4 : cap ≤ maxLen) (h5 : cur.size = cap * sz) :
    Sat w (sl T sz (.slice (some ⟨g, 0, none⟩) n cap) n (cur.toList.take (n * sz)) * F) :=
  h.weak fun _ hk => .inr ⟨g, cap, cur, rfl, h3, h4, h5, rfl, hk⟩
theorem sl_len (h : Sat w (sl T sz v n xs * F)) : xs.length = n * sz := by
  rcases h.slCases with ⟨_, rfl, rfl, _⟩ | ⟨g, cap, cur, _, h3, _, h5, h6, _⟩
  · simp
  · rw [← h6, List.length_take, Array.length_toList, h5]
    exact Nat.min_eq_left (Nat.mul_le_mul_right _ h3)
theorem Sat.setRow {cs cs' : Array Value} {fr : Nat × Nat} (h : Sat w (pt g (.cells cs T fr) * F)) : Sat (w.setRow g cs') (pt g (.cells cs' T fr) * F) := by
  refine h.upd ?_ fun c hc => ?_
  · simp [World.setRow, Array.getElem?_modify, h.heap]
  · simp only [World.setRow, Array.getElem?_modify]; rw [if_neg (by omega)]
theorem Side.setRow {a b : World} (h : Side a b) (g : Nat) (cs : Array Value) : Side a (b.setRow g cs) := h.trans ⟨rfl, rfl, rfl, by simp [World.setRow]⟩
/-- cells at an address -/
def At (w : World) (a : Addr) (xs : List Value) : Prop := ∀ j u, xs[j]? = some u → w.cell? (a.add j) = some u
/-- A slice reads as these cells (sz an element). -/
def Rds (w : World) (sz : Nat) (v : Value) (n : Nat) (xs : List Value) : Prop :=
  xs.length = n * sz ∧ ((v = .slice none 0 0 ∧ n = 0) ∨ ∃ a c, v = .slice (some a) n c ∧ At w a xs)
/-- A slice reads as these bytes. -/
def Rd (w : World) (v : Value) (l : List UInt8) : Prop := Rds w 1 v l.length (l.map u8)
theorem Sat.rds (h : Sat w (sl T sz v n xs * F)) : Rds w sz v n xs := by
  refine ⟨sl_len h, ?_⟩
  rcases h.slCases with ⟨rfl, rfl, rfl, _⟩ | ⟨g, cap, cur, rfl, h3, _, h5, rfl, hs⟩
  · exact .inl ⟨rfl, rfl⟩
  · refine .inr ⟨_, _, rfl, fun j u hu => ?_⟩
    rw [Addr.add_lit, Nat.zero_add, hs.cell]
    rw [List.getElem?_take] at hu
    split at hu
    · simpa using hu
    · cases hu
theorem Rds.carry (h : Rds w sz v n xs) (k : ∀ a u, w.cell? a = some u → w'.cell? a = some u) : Rds w' sz v n xs := by
  refine ⟨h.1, ?_⟩
  rcases h.2 with h | ⟨a, c, hv, ha⟩
  · exact .inl h
  · exact .inr ⟨a, c, hv, fun j u hu => k _ _ (ha j u hu)⟩
theorem cell_alloc (w : World) (o : Obj) (a : Addr) (u : Value) (h : w.cell? a = some u) : (w.alloc o).cell? a = some u := by
  have : a.block < w.heap.size := World.block_lt_of_cell? w a h
  rw [World.cell?_of_block (heap_alloc_old w o this)]; exact h
theorem Rds.alloc (h : Rds w sz v n xs) (o : Obj) : Rds (w.alloc o) sz v n xs := h.carry fun a u hu => cell_alloc w o a u hu
theorem Rds.drew (h : Rds w sz v n xs) : Rds w.drew sz v n xs := h
end
section
variable {P : Program} {w : World} {F : Assn}
/-- append to a slice of one's own. -/
theorem Sat.append {t ty e : TypeId} {i : TypeInfo} {z : Value} {sz bytes : Nat} (ht : P.underlying t = some (.slice e)) (hi : P.info? e = some i) (hz : i.zero = some z)
    (hsize : i.size = sz) (hby : i.bytes = bytes) (hzs : z.cells.size = sz)
    {v x : Value} {n m : Nat} {xs news : List Value} (h : Sat w (sl e sz v n xs * F)) (hx : Rds w sz x m news) (h1 : ∀ u ∈ news, u.oneCell' = true)
    (h63 : n + m ≤ maxLen) (hbytes : (n + m) * bytes ≤ 140737488355328) :
    ∃ v' w', (Builtin.append_ #[t, t] ty #[v, x]).run P w = .ok v' w' ∧ Sat w' (sl e sz v' (n + m) (xs ++ news) * F) ∧ Side w w' := by
  subst hsize; subst hby
  have hsmall : n + m ≤ 9223372036854775807 := by simp only [maxLen] at h63; omega
  obtain ⟨hl, hx⟩ := hx
  have hxs := sl_len h
  have fin : ∀ (old : Nat) (F' : Assn), Sat w F' →
      Sat (w.drew.alloc (.cells (xs.toArray ++ news.toArray ++ Builtin.zeroCells z.cells (grownCap w (n + m) old e - (n + m))) e))
        (sl e i.size (.slice (some ⟨w.heap.size, 0, none⟩) (n + m) (grownCap w (n + m) old e)) (n + m) (xs ++ news) * F') := by
    intro old F' hF
    have hge := grownCap_ge w (n + m) old e
    have hcm : grownCap w (n + m) old e ≤ maxLen := grownCap_le_maxLen w (n + m) old e h63
    have hA := hF.drew.alloc (.cells (xs.toArray ++ news.toArray ++ Builtin.zeroCells z.cells (grownCap w (n + m) old e - (n + m))) e)
    have := Sat.slOf (sz := i.size) (n := n + m) hA hge hcm (by
      simp only [Array.size_append, List.size_toArray, size_zeroCells, hzs, hxs, hl, ← Nat.add_mul]; congr 1; omega)
    refine this.to ?_
    congr 2
    simp only [Array.toList_append, List.append_assoc]
    rw [← List.append_assoc]
    exact List.take_left' (by rw [List.length_append, hxs, hl, Nat.add_mul])
  rcases h.slCases with ⟨rfl, rfl, rfl, hF⟩ | ⟨g, cap, cur, rfl, h3, h4, h5, h6, hF⟩
  · rcases hx with ⟨rfl, rfl⟩ | ⟨a, c, rfl, ha⟩
    · have : news = [] := List.eq_nil_of_length_eq_zero (by simpa using hl)
      subst this
      refine ⟨.slice none 0 0, w, ?_, hF.slNil _ _, Side.refl w⟩
      simp [Builtin.append_, run_underlying ht, sizeOf, typeInfo, hi, Builtin.lenOf, Builtin.firstCells]
    · by_cases hm : m = 0
      · subst hm
        have : news = [] := List.eq_nil_of_length_eq_zero (by simpa using hl)
        subst this
        refine ⟨.slice none 0 0, w, ?_, hF.slNil _ _, Side.refl w⟩
        simp [Builtin.append_, run_underlying ht, sizeOf, typeInfo, hi, Builtin.lenOf, Builtin.firstCells, loadCells, loadCellsFrom]
      · have hr := run_append_nil (P := P) w t ty e i z ht hi hz a m c news hl ha (by omega) (by omega) (by have hb := hbytes; simp only [Nat.zero_add] at hb; omega)
        have := fin 0 F hF
        simp only [Nat.zero_add, List.nil_append] at this ⊢
        exact ⟨_, _, hr, by simpa using this, ((Side.refl w).drew).alloc _⟩
  · rcases hx with ⟨rfl, rfl⟩ | ⟨a, c, rfl, ha⟩
    · have : news = [] := List.eq_nil_of_length_eq_zero (by simpa using hl)
      subst this
      refine ⟨.slice (some ⟨g, 0, none⟩) n cap, w, ?_, by simpa using h, Side.refl w⟩
      simp [Builtin.append_, run_underlying ht, sizeOf, typeInfo, hi, Builtin.lenOf, Builtin.firstCells, h3, storeCells]
    · by_cases hroom : n + m ≤ cap
      · have hfit : n * i.size + news.length ≤ cur.size := by
          rw [hl, h5, ← Nat.add_mul]; exact Nat.mul_le_mul_right _ hroom
        have hr := run_append_room (P := P) w t ty e i ht hi g n cap cur hF.heap a m c news hl ha h1 hroom hfit
        refine ⟨_, _, hr, ?_, (Side.refl w).setRow _ _⟩
        have hlen : (List.take (n * i.size) cur.toList).length = n * i.size := by simp; omega
        have hS := Sat.slOf (sz := i.size) (n := n + m) (cap := cap) (hF.setRow (cs' := (cur.toList.take (n * i.size) ++ news ++ cur.toList.drop (n * i.size + news.length)).toArray)) hroom h4 (by
          simp; omega)
        refine hS.to ?_
        congr 2
        simp only []
        rw [h6, List.take_left' (by rw [List.length_append, hxs, hl, Nat.add_mul])]
      · have holds : At w ⟨g, 0, none⟩ xs := by
          have := h.rds.2
          rcases this with ⟨h, _⟩ | ⟨a', c', h, h'⟩
          · cases h
          · cases h; exact h'
        have hfit : Builtin.nextslicecap (n + m) cap * i.bytes ≤ 281474976710656 := growslice_fits (by omega) hbytes
        have hr := run_append_grow (P := P) w t ty e i z ht hi hz ⟨g, 0, none⟩ n cap xs hxs holds a m c news hl ha (by omega) (by omega) hfit
        exact ⟨_, _, hr, fin cap F hF.right, ((Side.refl w).drew).alloc _⟩
end
/-- THE ARM FOR append: its run is known. -/
theorem wpList_append_run {P : Program} {w w' : World} {ops : Array Oper} {rest : List Oper} {o : Oper} {a : Act} {Q : Exit → Act → World → Prop} {v xv v' : Value} {t ty : TypeId}
    (hrun : (Builtin.append_ #[t, t] ty #[v, xv]).run P w = .ok v' w') (s x : Operand)
    (hg : o.guard = none) (hty : o.type = ty) (hop : o.op = Op.call { callee := Callee.builtin Builtin.append, args := #[s, x], argTypes := #[t, t] })
    (hs : a.eval s = v) (hx : a.eval x = xv)
    (hK : wpList P ops Q rest (a.put o.dst v') w') : wpList P ops Q (o :: rest) a w := by
  refine wpList_plain hg fun K hK' => ?_
  subst hty hs hx
  unfold Oper.wp
  simp [execOp, hop, resolve, invoke, builtin, hrun, Result.andThen]
  exact hK' _ _ hK
end Go.SL

/- append(b, s...) of a string to a slice of bytes of one's own. -/
import Derived.Test.YtaoohjeaaccnfaaGreatAz
namespace Go.SL
set_option linter.unusedVariables false
set_option linter.unusedSimpArgs false
open Go.RowKit
section
variable {P : Program} {w : World} {F : Assn}
theorem str_cells (s : List UInt8) : ((str s).extract 0 (str s).size).data.map (fun b => Value.int .u8 b.toNat) = u8s s := by
  have e : (str s).extract 0 (str s).size = str s := ByteArray.extract_zero_size
  rw [e]
  simp [str, u8s, SL.u8]
theorem Sat.appendS {t u ty e : TypeId} {i : TypeInfo} (ht : P.underlying t = some (.slice e)) (hu : P.underlying u = some .string) (hi : P.info? e = some i) (hz : i.zero = some (.int .u8 0))
    (hsize : i.size = 1) (hby : i.bytes = 1) {v : Value} {l : List UInt8} (h : Sat w (bs e v l * F)) (s : List UInt8) (hb : l.length + s.length ≤ 140737488355328) :
    ∃ v' w', (Builtin.append_ #[t, u] ty #[v, .string (str s)]).run P w = .ok v' w' ∧ Sat w' (bs e v' (l ++ s) * F) ∧ Side w w' := by
  have hss : (str s).size = s.length := by simp [str, ByteArray.size]
  have hcl := str_cells s
  rw [hss] at hcl
  have hlen : (l ++ s).length = l.length + s.length := List.length_append
  have hzl : (u8s s).toList = s.map SL.u8 := by simp [u8s]
  have fin : ∀ (old : Nat) (F' : Assn), Sat w F' → Sat (w.drew.alloc (.cells (u8s l ++ (u8s s ++ u8s (zs (grownCap w (l.length + s.length) old e - (l.length + s.length))))) e)) (bs e (.slice (some ⟨w.heap.size, 0, none⟩) (l.length + s.length) (grownCap w (l.length + s.length) old e)) (l ++ s) * F') := by
    intro old F' hF
    have hge := grownCap_ge w (l.length + s.length) old e
    have hcm : grownCap w (l.length + s.length) old e ≤ maxLen := grownCap_le_maxLen w (l.length + s.length) old e (by unfold maxLen; omega)
    have hA := hF.drew.alloc (.cells (u8s l ++ (u8s s ++ u8s (zs (grownCap w (l.length + s.length) old e - (l.length + s.length))))) e)
    have := Sat.slOf (sz := 1) (n := l.length + s.length) hA hge hcm (by rw [Array.size_append, Array.size_append, size_u8s, size_u8s, size_u8s, length_zs]; omega)
    refine this.to ?_
    unfold bs
    rw [hlen]
    congr 2
    rw [Array.toList_append, Array.toList_append]
    unfold u8s
    simp only [List.map_append]
    rw [← List.append_assoc, List.take_left' (by simp)]
  have hzc2 : ∀ m, Builtin.zeroCells #[Value.int .u8 0] m = u8s (zs m) := fun m => by have := zeroCells_u8 m; simpa [Value.cells] using this
  by_cases hk : s.length = 0
  · obtain rfl : s = [] := List.eq_nil_of_length_eq_zero hk
    refine ⟨v, w, ?_, by simpa using h, Side.refl w⟩
    rcases h.slCases with ⟨rfl, hl, -, -⟩ | ⟨g, cap, cur, rfl, h3, h4, h5, h6, hF⟩
    · simp [Builtin.append_, run_underlying ht, run_underlying hu, sizeOf, typeInfo, zeroValue, hi, hz, Builtin.lenOf, hss, Builtin.firstCells]
    · simp [Builtin.append_, run_underlying ht, run_underlying hu, sizeOf, typeInfo, zeroValue, hi, hz, Builtin.lenOf, hss, Builtin.firstCells, h3, storeCells]
  · have h63 : ¬ (9223372036854775807 < (l.length : Int) + (s.length : Int)) := by omega
    rcases h.slCases with ⟨rfl, hl, -, hF⟩ | ⟨g, cap, cur, rfl, h3, h4, h5, h6, hF⟩
    · obtain rfl : l = [] := List.eq_nil_of_length_eq_zero hl
      have h48' : ¬ (281474976710656 < Builtin.nextslicecap s.length 0) := by rw [nextslicecap_zero (by omega)]; omega
      have h63' : ¬ (9223372036854775807 < (s.length : Int)) := by omega
      have hr : (Builtin.append_ #[t, u] ty #[.slice none 0 0, .string (str s)]).run P w = .ok (.slice (some ⟨w.heap.size, 0, none⟩) s.length (grownCap w s.length 0 e)) (w.drew.alloc (.cells (u8s s ++ u8s (zs (grownCap w s.length 0 e - s.length))) e)) := by
        simp [Builtin.append_, run_underlying ht, run_underlying hu, sizeOf, typeInfo, zeroValue, hi, hz, hsize, hby, Builtin.lenOf, Builtin.firstCells, hss, hk, h63', h48', Question.forced, Value.cells, hzc2, newRow, grownCap, ← hcl]
      have := fin 0 F hF
      simp only [List.length_nil, Nat.zero_add, List.nil_append, show u8s [] = #[] from rfl, Array.empty_append] at this
      exact ⟨_, _, hr, this, ((Side.refl w).drew).alloc _⟩
    · have hgs : w.heap[g]? = some (.cells cur e (0, 0)) := hF.heap
      by_cases hroom : l.length + s.length ≤ cap
      · have hst := run_storeCells_at P g l.length e (s.map SL.u8) 0 cur w hgs (by rw [List.length_map]; omega) (fun u hu => by obtain ⟨c, _, rfl⟩ := List.mem_map.1 hu; rfl)
        simp only [Nat.add_zero] at hst
        refine ⟨.slice (some ⟨g, 0, none⟩) (l.length + s.length) cap, w.setRow g (cur.toList.take l.length ++ s.map SL.u8 ++ cur.toList.drop (l.length + (s.map SL.u8).length)).toArray, ?_, ?_, (Side.refl w).setRow _ _⟩
        · have hcl2 : ((str s).extract 0 s.length).data.toList.map (fun b => Value.int .u8 b.toNat) = s.map SL.u8 := by
            have := congrArg Array.toList hcl
            rwa [Array.toList_map, hzl] at this
          simp [Builtin.append_, run_underlying ht, run_underlying hu, sizeOf, typeInfo, zeroValue, hi, hz, hsize, hby, Builtin.lenOf, Builtin.firstCells, hss, hroom, Addr.add_lit, hcl2]
          have hcl3 : List.take s.length (List.map (fun b : UInt8 => Value.int .u8 (b.toNat : Int)) (str s).data.toList) = s.map SL.u8 := by
            rw [List.take_of_length_le (by simp [str])]; rfl
          simp only [List.length_map, List.append_assoc] at hst ⊢
          rw [hcl3, hst]; rfl
        · have hS := Sat.slOf (sz := 1) (n := l.length + s.length) (cap := cap) (hF.setRow (cs' := (cur.toList.take l.length ++ s.map SL.u8 ++ cur.toList.drop (l.length + (s.map SL.u8).length)).toArray)) hroom h4 (by simp; omega)
          refine hS.to ?_
          unfold bs
          rw [hlen]
          congr 2
          simp only [Nat.mul_one] at h6 ⊢
          rw [h6, List.map_append, List.take_left' (by simp)]
      · have holds : ∀ j u, (l.map SL.u8)[j]? = some u → w.cell? ((⟨g, 0, none⟩ : Addr).add j) = some u := by
          have := h.rds.2
          rcases this with ⟨h, _⟩ | ⟨a', c', h, h'⟩
          · cases h
          · cases h; exact h'
        have hfo := run_firstCells_some (P := P) w.drew 1 l.length ⟨g, 0, none⟩ l.length cap (l.map SL.u8) (by simp) (by simpa using holds)
        have hfit : Builtin.nextslicecap (l.length + s.length) cap * 1 ≤ 281474976710656 := growslice_fits (by omega) (by omega)
        have h48' : ¬ (281474976710656 < Builtin.nextslicecap (l.length + s.length) cap) := by omega
        have hr : (Builtin.append_ #[t, u] ty #[.slice (some ⟨g, 0, none⟩) l.length cap, .string (str s)]).run P w =
            .ok (.slice (some ⟨w.heap.size, 0, none⟩) (l.length + s.length) (grownCap w (l.length + s.length) cap e)) (w.drew.alloc (.cells (u8s l ++ (u8s s ++ u8s (zs (grownCap w (l.length + s.length) cap e - (l.length + s.length))))) e)) := by
          have hfs : (Builtin.firstCells 1 s.length (.string (str s))).run P w.drew = .ok (u8s s) w.drew := by
            simp [Builtin.firstCells, ← hcl]
          simp [Builtin.append_, run_underlying ht, run_underlying hu, sizeOf, typeInfo, zeroValue, hi, hz, hsize, hby, Builtin.lenOf, hss, hk, h48', h63, hroom, Question.forced, Value.cells, hzc2, hfo, hfs, newRow, grownCap, u8s]
        exact ⟨_, _, hr, fin cap F hF.right, ((Side.refl w).drew).alloc _⟩
end
/-- THE ARM FOR append of a string: its run is known. -/
theorem wpList_appendS_run {P : Program} {w w' : World} {ops : Array Oper} {rest : List Oper} {o : Oper} {a : Act} {Q : Exit → Act → World → Prop} {v xv v' : Value} {t tn ty : TypeId}
    (hrun : (Builtin.append_ #[t, tn] ty #[v, xv]).run P w = .ok v' w') (s x : Operand)
    (hg : o.guard = none) (hty : o.type = ty) (hop : o.op = Op.call { callee := Callee.builtin Builtin.append, args := #[s, x], argTypes := #[t, tn] })
    (hs : a.eval s = v) (hx : a.eval x = xv)
    (hK : wpList P ops Q rest (a.put o.dst v') w') : wpList P ops Q (o :: rest) a w := wpList_appendZ_run hrun s x hg hty hop hs hx hK
end Go.SL

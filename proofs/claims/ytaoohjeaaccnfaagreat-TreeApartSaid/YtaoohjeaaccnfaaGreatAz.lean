/- append(b, make([]byte, n)...) to a slice of bytes of one's own. -/
import Derived.Test.YtaoohjeaaccnfaaGreatSl
import Derived.Lib.AppendZeros
namespace Go.SL
set_option linter.unusedVariables false
set_option linter.unusedSimpArgs false
open Go.RowKit
theorem zeroCells_u8 (n : Nat) : Builtin.zeroCells (Value.int .u8 0).cells n = u8s (zs n) := by
  have hc : (Value.int .u8 0).cells = #[Value.int .u8 0] := by simp [Value.cells]
  rw [hc]
  apply Array.ext
  · simp [Builtin.zeroCells, u8s, zs]
  · intro i h1 h2
    simp [Builtin.zeroCells, u8s, zs, SL.u8]
    rw [Nat.mod_one]; rfl
section
variable {P : Program} {w : World} {F : Assn}
theorem Sat.appendZ {t tn ty e : TypeId} {i : TypeInfo} (ht : P.underlying t = some (.slice e)) (htn : P.underlying tn = some (.int .i64)) (hi : P.info? e = some i) (hz : i.zero = some (.int .u8 0))
    (hsize : i.size = 1) (hby : i.bytes = 1) {v : Value} {l : List UInt8} (h : Sat w (bs e v l * F)) (k : Nat) (hb : l.length + k ≤ 140737488355328) :
    ∃ v' w', (Builtin.append_ #[t, tn] ty #[v, .int .i64 (k : Int)]).run P w = .ok v' w' ∧ Sat w' (bs e v' (l ++ zs k) * F) ∧ Side w w' := by
  have hw : IntKind.i64.wrap (k : Int) = k := by rw [IntKind.wrap_i64]; omega
  have hneg : ¬ ((k : Int) < 0) := by omega
  have h48i : ¬ (281474976710656 < (k : Int)) := by omega
  have hlen : (l ++ zs k).length = l.length + k := by rw [List.length_append, length_zs]
  have hw0 : IntKind.i64.wrap (0 : Int) = 0 := by rw [IntKind.wrap_i64]; omega
  by_cases hk : k = 0
  · subst hk
    refine ⟨v, w, ?_, by simpa [zs] using h, Side.refl w⟩
    rcases h.slCases with ⟨rfl, hl, -, -⟩ | ⟨g, cap, cur, rfl, h3, h4, h5, h6, hF⟩
    · simp [Builtin.append_, run_underlying ht, run_underlying htn, sizeOf, typeInfo, zeroValue, hi, hz, asInt, asIntOf, hw0]
    · simp [Builtin.append_, run_underlying ht, run_underlying htn, sizeOf, typeInfo, zeroValue, hi, hz, asInt, asIntOf, hw0, h3, storeCells]
  · rcases h.slCases with ⟨rfl, hl, -, hF⟩ | ⟨g, cap, cur, rfl, h3, h4, h5, h6, hF⟩
    · obtain rfl : l = [] := List.eq_nil_of_length_eq_zero hl
      have hr := Lib.run_append_nil_zeros (P := P) w t tn ty e i _ .i64 .i64 ht htn hi hz k (by omega) (by omega) (by omega) (by rw [hby]; omega)
      rw [zeroCells_u8, zeroCells_u8] at hr
      refine ⟨_, _, hr, ?_, ((Side.refl w).drew).alloc _⟩
      have hge := grownCap_ge w k 0 e
      have hcm : grownCap w k 0 e ≤ maxLen := grownCap_le_maxLen w k 0 e (by unfold maxLen; omega)
      have hA := hF.drew.alloc (.cells (u8s (zs k) ++ u8s (zs (grownCap w k 0 e - k))) e)
      have := Sat.slOf (sz := 1) (n := k) hA hge hcm (by rw [Array.size_append, size_u8s, size_u8s, length_zs, length_zs]; omega)
      refine this.to ?_
      unfold bs
      rw [List.nil_append, length_zs]
      congr 2
      rw [Array.toList_append]
      unfold u8s
      rw [List.take_left' (by simp [length_zs])]
    · have hgs : w.heap[g]? = some (.cells cur e (0, 0)) := hF.heap
      by_cases hroom : l.length + k ≤ cap
      · have hst := run_storeCells_at P g l.length e ((zs k).map SL.u8) 0 cur w hgs (by rw [List.length_map, length_zs]; omega) (fun u hu => by obtain ⟨c, _, rfl⟩ := List.mem_map.1 hu; rfl)
        simp only [Nat.add_zero] at hst
        have hzc : Builtin.zeroCells #[Value.int .u8 0] k = u8s (zs k) := by have := zeroCells_u8 k; simpa [Value.cells] using this
        refine ⟨.slice (some ⟨g, 0, none⟩) (l.length + k) cap, w.setRow g (cur.toList.take l.length ++ (zs k).map SL.u8 ++ cur.toList.drop (l.length + ((zs k).map SL.u8).length)).toArray, ?_, ?_, (Side.refl w).setRow _ _⟩
        · have hzl : (u8s (zs k)).toList = (zs k).map SL.u8 := by simp [u8s]
          simp [Builtin.append_, run_underlying ht, run_underlying htn, sizeOf, typeInfo, zeroValue, hi, hz, hsize, hby, asInt, asIntOf, hw, hk, hneg, h48i, hroom, Value.cells, hzc, hzl, Addr.add_lit]
          simp only [List.length_map, List.append_assoc] at hst ⊢
          rw [hst]; rfl
        · have hS := Sat.slOf (sz := 1) (n := l.length + k) (cap := cap) (hF.setRow (cs' := (cur.toList.take l.length ++ (zs k).map SL.u8 ++ cur.toList.drop (l.length + ((zs k).map SL.u8).length)).toArray)) hroom h4 (by simp [length_zs]; omega)
          refine hS.to ?_
          unfold bs
          rw [hlen]
          congr 2
          simp only [Nat.mul_one] at h6 ⊢
          rw [h6, List.map_append, List.take_left' (by simp [length_zs])]
      · have hzc : Builtin.zeroCells #[Value.int .u8 0] k = u8s (zs k) := by have := zeroCells_u8 k; simpa [Value.cells] using this
        have hzc2 : ∀ m, Builtin.zeroCells #[Value.int .u8 0] m = u8s (zs m) := fun m => by have := zeroCells_u8 m; simpa [Value.cells] using this
        have holds : ∀ j u, (l.map SL.u8)[j]? = some u → w.cell? ((⟨g, 0, none⟩ : Addr).add j) = some u := by
          have := h.rds.2
          rcases this with ⟨h, _⟩ | ⟨a', c', h, h'⟩
          · cases h
          · cases h; exact h'
        have hfo := run_firstCells_some (P := P) w.drew 1 l.length ⟨g, 0, none⟩ l.length cap (l.map SL.u8) (by simp) (by simpa using holds)
        have hfit : Builtin.nextslicecap (l.length + k) cap * 1 ≤ 281474976710656 := growslice_fits (by omega) (by omega)
        have h48' : ¬ (281474976710656 < Builtin.nextslicecap (l.length + k) cap) := by omega
        have h63 : ¬ (9223372036854775807 < (l.length : Int) + (k : Int)) := by omega
        have hr : (Builtin.append_ #[t, tn] ty #[.slice (some ⟨g, 0, none⟩) l.length cap, .int .i64 (k : Int)]).run P w =
            .ok (.slice (some ⟨w.heap.size, 0, none⟩) (l.length + k) (grownCap w (l.length + k) cap e)) (w.drew.alloc (.cells (u8s l ++ u8s (zs k) ++ u8s (zs (grownCap w (l.length + k) cap e - (l.length + k)))) e)) := by
          simp [Builtin.append_, run_underlying ht, run_underlying htn, sizeOf, typeInfo, zeroValue, hi, hz, hsize, hby, asInt, asIntOf, hw, hk, hneg, h48i, h48', h63, hroom, Question.forced, Value.cells, hzc, hzc2, hfo, newRow, grownCap, u8s]
        refine ⟨_, _, hr, ?_, ((Side.refl w).drew).alloc _⟩
        have hge := grownCap_ge w (l.length + k) cap e
        have hcm : grownCap w (l.length + k) cap e ≤ maxLen := grownCap_le_maxLen w (l.length + k) cap e (by unfold maxLen; omega)
        have hA := hF.right.drew.alloc (.cells (u8s l ++ u8s (zs k) ++ u8s (zs (grownCap w (l.length + k) cap e - (l.length + k)))) e)
        have := Sat.slOf (sz := 1) (n := l.length + k) hA hge hcm (by rw [Array.size_append, Array.size_append, size_u8s, size_u8s, size_u8s, length_zs, length_zs]; omega)
        refine this.to ?_
        unfold bs
        rw [hlen]
        congr 2
        rw [Array.toList_append, Array.toList_append]
        unfold u8s
        rw [List.take_left' (by simp [length_zs])]
        simp
end
/-- THE ARM FOR append of a made slice: its run is known. -/
theorem wpList_appendZ_run {P : Program} {w w' : World} {ops : Array Oper} {rest : List Oper} {o : Oper} {a : Act} {Q : Exit → Act → World → Prop} {v xv v' : Value} {t tn ty : TypeId}
    (hrun : (Builtin.append_ #[t, tn] ty #[v, xv]).run P w = .ok v' w') (s x : Operand)
    (hg : o.guard = none) (hty : o.type = ty) (hop : o.op = Op.call { callee := Callee.builtin Builtin.append, args := #[s, x], argTypes := #[t, tn] })
    (hs : a.eval s = v) (hx : a.eval x = xv)
    (hK : wpList P ops Q rest (a.put o.dst v') w') : wpList P ops Q (o :: rest) a w := by
  refine wpList_plain hg fun K hK' => ?_
  subst hty hs hx
  unfold Oper.wp
  simp [execOp, hop, resolve, invoke, builtin, hrun, Result.andThen]
  exact hK' _ _ hK
end Go.SL

/- Steps towards the statement StoreC. -/
import Derived.Test.YtdafdidmbeecfaaGreatDoorStoreCP2
import Derived.Test.YtdafdidmbeecfaaGreatDoorRows
import Derived.Deep.LoopGhost
import Derived.Deep.RegionHeld3
import Derived.Laws.CopyRow
import Derived.Deep.MidRow
import Derived.Test.YtdafdidmbeecfaaGreatDoorStoreCP1
section
namespace Go.SL
set_option linter.unusedVariables false
set_option linter.unusedSimpArgs false
open Go.RowKit
def padTo (n : Nat) (l : List UInt8) : List UInt8 := (l ++ zs n).take n
theorem padTo_length (n : Nat) (l : List UInt8) : (padTo n l).length = n := by simp [padTo, length_zs]
theorem padTo_self {n : Nat} {l : List UInt8} (h : l.length = n) : padTo n l = l := by rw [padTo, List.take_left' h]
theorem sl_shape {w : World} {F : Assn} {T : TypeId} {sz n : Nat} {v : Value} {xs : List Value} (h : Sat w (sl T sz v n xs * F)) : ∃ a c, v = .slice a n c := by
 rcases h.slCases with ⟨rfl, rfl, _, _⟩ | ⟨g, cap, cur, rfl, _⟩
 ·exact ⟨_, _, rfl⟩
 ·exact ⟨_, _, rfl⟩
theorem sl_addr {w : World} {F : Assn} {T : TypeId} {sz n : Nat} {v : Value} {xs : List Value} (h : Sat w (sl T sz v n xs * F)) (hn : 0 < n) : ∃ g c, v = .slice (some ⟨g, 0, none⟩) n c := by
 rcases h.slCases with ⟨rfl, rfl, _, _⟩ | ⟨g, cap, cur, rfl, _⟩
 ·omega
 ·exact ⟨_, _, rfl⟩
theorem wpList_copy_run {P : Program} {w w' : World} {ops : Array Oper} {rest : List Oper} {o : Oper} {a : Act} {Q : Exit → Act → World → Prop} {v xv v' : Value} {t1 t2 ty : TypeId}
  (hrun : (Builtin.copy_ #[t1, t2] ty #[v, xv]).run P w = .ok v' w') (s x : Operand)
  (hg : o.guard = none) (hty : o.type = ty) (hop : o.op = Op.call { callee := Callee.builtin Builtin.copy, args := #[s, x], argTypes := #[t1, t2] })
  (hs : a.eval s = v) (hx : a.eval x = xv)
  (hK : wpList P ops Q rest (a.put o.dst v') w') : wpList P ops Q (o :: rest) a w := by
 refine wpList_plain hg fun K hK' => ?_
 subst hty hs hx
 unfold Oper.wp
 simp [execOp, hop, resolve, invoke, builtin, hrun, Result.andThen]
 exact hK' _ _ hK
theorem step_append_run {P : Program} {ops : Array Oper} {o : Oper} {a : Act} {w w' : World} {K : Act → World → Prop} {Q : Exit → Act → World → Prop} {E : Prop} {t1 t2 ty : TypeId} {dv sv v' : Value}
  (hrun : (Builtin.append_ #[t1, t2] ty #[dv, sv]).run P w = .ok v' w') (hgd : o.guard = none) (d s : Operand) (hty : o.type = ty)
  (ho : o.op = .call { callee := .builtin .append, args := #[d, s], argTypes := #[t1, t2] }) (hd : a.eval d = dv) (hs : a.eval s = sv)
  (h : K (a.put o.dst v') w') : if Region.wanted o (yielded ops a.tmps) = true then Oper.wp P o a w K Q else E := by
 have hw : Region.wanted o (yielded ops a.tmps) = true := by simp [Region.wanted, hgd]
 rw [if_pos hw]
 subst hty hd hs
 unfold Oper.wp
 simp [execOp, ho, resolve, invoke, builtin, hrun, Result.andThen]
 exact h
theorem enters {P : Program} {f : FuncId} {fn : Func} {c : Code} (hf : P.funcs[f]? = some fn) (hname : (fn.name == "runtime.NumGoroutine") = false) (hb : fn.body = some c) : ∀ args w, (callFunc f args).run P w = .ok (.enter f args) w := by
 intro args w
 have h1 : fn.name ≠ "runtime.NumGoroutine" := by simpa using hname
 simp [callFunc, hf, h1, hb, mark]
theorem step_call_run {P : Program} {ops : Array Oper} {o : Oper} {a : Act} {w : World} {K : Act → World → Prop} {Q : Exit → Act → World → Prop} {E : Prop} {n : FuncId} {argv : Array Value} {R : Ending → World → Prop}
  (hc : Calls P n argv w R) (heg : ∀ args w, (callFunc n args).run P w = .ok (.enter n args) w) (hgd : o.guard = none) (args : Array Operand) (ts : Array TypeId)
  (ho : o.op = .call { callee := .value (.func n), args := args, argTypes := ts }) (hargs : args.toList.map a.eval = argv.toList)
  (h : ∀ e w', R e w' → ∃ v, e = .returned v ∧ K (a.put o.dst v) w') :
  if Region.wanted o (yielded ops a.tmps) = true then Oper.wp P o a w K Q else E := by
 have hw : Region.wanted o (yielded ops a.tmps) = true := by simp [Region.wanted, hgd]
 rw [if_pos hw]
 have hargs' : args.map a.eval = argv := by
  apply Array.toList_inj.1
  rw [Array.toList_map]; exact hargs
 subst hargs'
 unfold Oper.wp
 have he : (execOp a.eval o).run P w = .ok (.enter n (args.map a.eval)) w := by
  simp [execOp, ho, resolve, invoke, Act.eval, Deferred.ofValue, go_sem, heg]
 rw [he, Oper.upon_enter]
 refine hc.mono ?_
 intro e w' hR
 obtain ⟨v, rfl, hK⟩ := h e w' hR
 exact hK
theorem Rd.shape {w : World} {v : Value} {l : List UInt8} (h : Rd w v l) : ∃ a c, v = .slice a l.length c := by
 rcases h.2 with ⟨rfl, h0⟩ | ⟨a, c, rfl, _⟩
 ·exact ⟨_, _, by rw [h0]⟩
 ·exact ⟨_, _, rfl⟩
theorem Rd.keep {w w' : World} {v : Value} {l : List UInt8} {P : Assn} (h : Rd w v l) (s : Sat w' (P * whole w)) : Rd w' v l := Rds.carry h fun a u hu => s.cellOld hu
theorem u8_one (l : List UInt8) : ∀ v ∈ l.map u8, v.oneCell' = true := by
 intro v hv
 obtain ⟨x, _, rfl⟩ := List.mem_map.1 hv
 rfl
theorem At.take {w : World} {a : Addr} {xs : List Value} (h : At w a xs) (n : Nat) : At w a (xs.take n) := fun j u hu => h j u (by
 rw [List.getElem?_take] at hu
 split at hu
 ·exact hu
 ·cases hu)
theorem copy_pad {P : Program} {w : World} {g : Nat} {v : Value} {l : List UInt8} {T dT : TypeId} {F : Assn} (hu : P.underlying dT = some (.slice T)) (hs : (P.info? T).map (·.size) = some 1)
  (h : Sat w (pt g (.cells (u8s (zs 512)) T (0, 0)) * F)) (hr : Rd w v l) (ty : TypeId) :
  ∃ w' v', (Builtin.copy_ #[dT, dT] ty #[.slice (some ⟨g, 0, none⟩) 512 512, v]).run P w = .ok v' w' ∧ Sat w' (pt g (.cells (u8s (padTo 512 l)) T (0, 0)) * F) ∧ Side w w' := by
 obtain ⟨hn, hr⟩ := hr
 rcases hr with ⟨rfl, h0⟩ | ⟨a, c, rfl, ha⟩
 ·have : l = [] := List.eq_nil_of_length_eq_zero h0
  subst this
  refine ⟨w, _, run_copy_nil (P := P) w dT dT ty T ⟨g, 0, none⟩ 512 512 hu (by rw [hs]; rfl), ?_, Side.refl w⟩
  rw [padTo, List.nil_append, List.take_of_length_le (by rw [length_zs]; exact Nat.le_refl _)]
  exact h
 ·have := run_copy_row (P := P) w dT dT ty T g 0 512 512 a l.length c (u8s (zs 512)) T ((l.take 512).map u8) hu hs h.heap (by simp [Nat.min_comm]) (by rw [List.map_take]; exact ha.take 512)
   (by simp [size_u8s, length_zs]; omega) (u8_one _)
  refine ⟨_, _, this, ?_, (Side.refl w).setRow _ _⟩
  have h2 := h.setRow (cs' := ((u8s (zs 512)).toList.take 0 ++ (l.take 512).map u8 ++ (u8s (zs 512)).toList.drop (0 + ((l.take 512).map u8).length)).toArray)
  refine h2.to ?_
  congr 3
  simp only [u8s, padTo, zs, List.take_zero, List.nil_append, Nat.zero_add, List.length_map, List.length_take, List.map_append, List.map_take, List.take_append, List.map_replicate, List.drop_replicate, List.take_replicate, List.toList_toArray]
  congr 3
  omega
def Tells (v : Value) (w : World) (e : Ending) (w' : World) : Prop := e = .returned v ∧ Sat w' (whole w) ∧ Side w w'
def leN (n : Int) (j : Nat) : List UInt8 := (List.range j).map fun i => UInt8.ofInt (n / (256 : Int) ^ i)
theorem leN_length (n : Int) (j : Nat) : (leN n j).length = j := by simp [leN]
theorem leN_succ (n : Int) (j : Nat) : leN n (j + 1) = leN n j ++ [UInt8.ofInt (n / (256 : Int) ^ j)] := by simp [leN, List.range_succ]
theorem Sat.keepW {w w' : World} {Q : Assn} (h : Sat w' (SL.whole w)) (g : Sat w Q) : Sat w' Q := (Sat.under (h.to (emp_star _).symm) g).to (emp_star _)
def leV (l : List UInt8) : Nat → Int
 | 0 => 0
 | j + 1 => leV l j + ((l.getD j 0).toNat : Int) * (256 : Int) ^ j
theorem leV_range (l : List UInt8) (j : Nat) : 0 ≤ leV l j ∧ leV l j < (256 : Int) ^ j := by
 induction j with
 | zero => simp [leV]
 | succ j ih =>
  have h1 : ((l.getD j 0).toNat : Int) < 256 := by have := UInt8.toNat_lt (l.getD j 0); omega
  have h0 : 0 ≤ ((l.getD j 0).toNat : Int) := by omega
  have hp : 0 < (256 : Int) ^ j := Int.pow_pos (by decide)
  rw [leV, Int.pow_succ]
  generalize ((l.getD j 0).toNat : Int) = x at *
  generalize (256 : Int) ^ j = p at *
  have h2 : 0 ≤ x * p := Int.mul_nonneg h0 (by omega)
  have h3 : x * p ≤ 255 * p := Int.mul_le_mul_of_nonneg_right (by omega) (by omega)
  omega
theorem pow256_le {j : Nat} (h : j ≤ 6) : (256 : Int) ^ j ≤ 281474976710656 := by
 obtain rfl | rfl | rfl | rfl | rfl | rfl | rfl : j = 0 ∨ j = 1 ∨ j = 2 ∨ j = 3 ∨ j = 4 ∨ j = 5 ∨ j = 6 := by omega
 all_goals decide
theorem or_add {a x : Int} {i : Nat} (ha0 : 0 ≤ a) (ha : a < 2 ^ i) (hx0 : 0 ≤ x) (hs : x * 2 ^ i + a < 18446744073709551616) : bits .or .u64 a (x * 2 ^ i) = a + x * 2 ^ i := by
 obtain ⟨A, rfl⟩ := Int.eq_ofNat_of_zero_le ha0
 obtain ⟨X, rfl⟩ := Int.eq_ofNat_of_zero_le hx0
 have e2 : (X : Int) * 2 ^ i = ((2 ^ i * X : Nat) : Int) := by rw [Nat.mul_comm]; simp
 rw [e2] at hs ⊢
 have hA : A < 2 ^ i := by
  have : ((2 ^ i : Nat) : Int) = (2 : Int) ^ i := by simp
  omega
 have hor := Nat.two_pow_add_eq_or_of_lt hA X
 show IntKind.u64.wrap ((BitVec.ofInt 64 (A : Int) ||| BitVec.ofInt 64 ((2 ^ i * X : Nat) : Int)).toNat : Nat) = _
 rw [BitVec.toNat_or, BitVec.toNat_ofInt, BitVec.toNat_ofInt]
 have f1 : ((A : Int) % ((2 ^ 64 : Nat) : Int)).toNat = A := by omega
 have f2 : (((2 ^ i * X : Nat) : Int) % ((2 ^ 64 : Nat) : Int)).toNat = 2 ^ i * X := by omega
 rw [f1, f2, Nat.or_comm, ← hor, IntKind.wrap_u64]
 omega
theorem or_step (l : List UInt8) (off j : Nat) (hj : j < 6) :
  bits .or .u64 (leV (l.drop off) j) (IntKind.u64.wrap (IntKind.u64.wrap ((l[off + j]?.getD 0).toNat : Int) * 2 ^ (8 * j))) = leV (l.drop off) (j + 1) := by
 have hx1 : ((l[off + j]?.getD 0).toNat : Int) < 256 := by have := UInt8.toNat_lt (l[off + j]?.getD 0); omega
 have hx0 : 0 ≤ ((l[off + j]?.getD 0).toNat : Int) := by omega
 obtain ⟨r0, r1⟩ := leV_range (l.drop off) j
 have hd : (l.drop off).getD j 0 = l[off + j]?.getD 0 := by simp [List.getD]
 rw [leV, hd]
 have hpow : (256 : Int) ^ j = 2 ^ (8 * j) := by rw [Int.pow_mul]; rfl
 have hp := pow256_le (j := j) (by omega)
 have hp0 : 0 < (256 : Int) ^ j := Int.pow_pos (by decide)
 generalize ((l[off + j]?.getD 0).toNat : Int) = x at *
 rw [hpow] at r1 hp hp0 ⊢
 have h2 : 0 ≤ x * 2 ^ (8 * j) := Int.mul_nonneg hx0 (by omega)
 have h3 : x * 2 ^ (8 * j) ≤ 255 * 2 ^ (8 * j) := Int.mul_le_mul_of_nonneg_right (by omega) (by omega)
 have e1 : IntKind.u64.wrap x = x := by rw [IntKind.wrap_u64]; omega
 have e2 : IntKind.u64.wrap (x * 2 ^ (8 * j)) = x * 2 ^ (8 * j) := by rw [IntKind.wrap_u64]; omega
 rw [e1, e2]
 exact or_add r0 r1 hx0 (by omega)
theorem emod_pow_succ (n : Int) (j : Nat) : n % (256 : Int) ^ (j + 1) = n % (256 : Int) ^ j + (n / (256 : Int) ^ j % 256) * (256 : Int) ^ j := by
 have hp : 0 < (256 : Int) ^ j := Int.pow_pos (by decide)
 rw [Int.pow_succ]
 generalize (256 : Int) ^ j = p at hp
 have h1 := Int.emod_add_mul_ediv n p
 have h2 := Int.emod_add_mul_ediv (n / p) 256
 have h3 := Int.emod_nonneg n (by omega : p ≠ 0)
 have h4 := Int.emod_lt_of_pos n hp
 have h5 := Int.emod_nonneg (n / p) (by decide : (256 : Int) ≠ 0)
 have h6 := Int.emod_lt_of_pos (n / p) (by decide : (0 : Int) < 256)
 have h7 : 0 ≤ (n / p % 256) * p := Int.mul_nonneg h5 (by omega)
 have h8 : (n / p % 256) * p ≤ 255 * p := Int.mul_le_mul_of_nonneg_right (by omega) (by omega)
 have e : n = (n % p + (n / p % 256) * p) + (p * 256) * (n / p / 256) := by
  have h9 : p * (n / p) = (n / p % 256) * p + (p * 256) * (n / p / 256) := by
   conv => lhs; rw [← h2]
   rw [Int.mul_add, ← Int.mul_assoc, Int.mul_comm p]
  omega
 generalize hq : n / p / 256 = q at e
 generalize hx : n % p + n / p % 256 * p = x at e
 have h10 : 0 ≤ x := by omega
 have h11 : x < p * 256 := by omega
 rw [e, Int.add_mul_emod_self_left, Int.emod_eq_of_lt h10 h11]
theorem u8_ofInt (n : Int) : ((UInt8.ofInt n).toNat : Int) = n % 256 := by
 simp [UInt8.ofInt, UInt8.toNat_ofNat']
 omega
theorem leV_leN (n : Int) (s : Nat) (rest : List UInt8) : ∀ j, j ≤ s → leV (leN n s ++ rest) j = n % (256 : Int) ^ j := by
 intro j
 induction j with
 | zero => intro _; simp [leV]
 | succ j ih =>
  intro hj
  rw [leV, ih (by omega), emod_pow_succ]
  congr 1
  have : (leN n s ++ rest).getD j 0 = UInt8.ofInt (n / (256 : Int) ^ j) := by
   rw [List.getD, List.getElem?_append_left (by rw [leN_length]; omega)]
   simp [leN, List.getElem?_map, List.getElem?_range (show j < s by omega)]
  rw [this, u8_ofInt]
def ints (l : List Int) : Array Value := (l.map (Value.int .i64)).toArray
theorem size_ints (l : List Int) : (ints l).size = l.length := by simp [ints]
theorem get_ints (l : List Int) (i : Nat) : (ints l)[i]? = l[i]?.map (Value.int .i64) := by simp [ints]
theorem set_ints (l : List Int) (i : Nat) (x : Int) : (ints l).setIfInBounds i (.int .i64 x) = ints (l.set i x) := by simp [ints, List.map_set]
theorem get_ints_lt {l : List Int} {i : Nat} (h : i < l.length) : (ints l)[i]? = some (.int .i64 (l.getD i 0)) := by
 rw [get_ints, List.getD, List.getElem?_eq_getElem h]; rfl
theorem made_ints (n : Nat) : madeCells (Value.int .i64 0).cells (n * 1) = ints (List.replicate n 0) := by
 apply Array.ext
 ·simp [size_madeCells, size_ints]
 ·intro i h1 h2
  simp [madeCells, ints, Value.cells, Nat.mod_one]
def IntIs (n : Int) (w : World) (e : Ending) (w' : World) : Prop := e = .returned (.int .i64 n) ∧ w = w'
abbrev ptV (b : Nat) : Value := .pointer (some ⟨b, 0, none⟩)
def RdI (w : World) (v : Value) (l : List Int) : Prop :=
 (∃ x c, v = .slice x 0 c ∧ l = []) ∨ ∃ g o c, v = .slice (some ⟨g, o, none⟩) l.length c ∧ l.length ≤ c ∧ c ≤ maxLen ∧ ∀ k, k < l.length → w.cell? ⟨g, o + k, none⟩ = some (.int .i64 (l.getD k 0))
theorem Sat.there {w : World} {g : Nat} {cs : Array Value} {T : TypeId} {F : Assn} (h : Sat w (pt g (.cells cs T (0, 0)) * F)) {o n : Nat} (hn : o + n ≤ cs.size) : w.there g o n := fun j hj =>
 ⟨by rw [h.cell, Array.getElem?_eq_getElem (by omega)]; rfl, h.frozen _⟩
end Go.SL
end
section
namespace Go.Proofs.YtdafdidmbeecfaaGreatDoor.Ba
set_option linter.unusedVariables false
set_option linter.unusedSimpArgs false
open Go.RowKit Go.SL
theorem info_u8 : (Tryz.prog.info? 5).map (fun i => (i.zero, i.size, i.bytes)) = some (some (.int .u8 0), 1, 1) := by kernel_rfl
theorem info_bytes : (Tryz.prog.info? 22).map (fun i => (i.zero, i.size, i.bytes)) = some (some (.slice none 0 0), 1, 24) := by kernel_rfl
theorem make_bytes (n : Nat) (hn : n ≤ 281474976710656) (w : World) : (Instr.makeSlice 22 (.int .i64 n) (.int .i64 n)).run Tryz.prog w =
  .ok (.slice (some ⟨w.heap.size, 0, none⟩) n n) (w.alloc (.cells (u8s (zs n)) 5 (0, 0))) := by
 obtain ⟨i, hi, hz, hs, hb⟩ := info_parts info_u8
 have := run_make (P := Tryz.prog) w 22 5 i _ Tryz.underlying22 hi hz .i64 .i64 n n (by omega) (by omega) (by rw [hb]; omega) (by omega)
 rw [this, hs]
 simp only [Int.toNat_natCast]
 rw [madeCells_u8]
end Go.Proofs.YtdafdidmbeecfaaGreatDoor.Ba
namespace Go.SL
set_option linter.unusedVariables false
set_option linter.unusedSimpArgs false
open Go.RowKit
structure Bx where
 wv : Value
 ws : Bool
 tv : Value
 ts : Bool
 av : Value
def Bx.cells (x : Bx) (rd : Value) (err : Int) : Array Value := #[rd, .int .i64 err, x.wv, .bool x.ws, x.tv, .bool x.ts, x.av]
end Go.SL
end

/- Steps towards the statement StoreK. -/
import Derived.Test.YtdafdidmbeecfaaGreatDoorStoreKP40
import Derived.ProofKit
import Derived.LaidMore
import Derived.OpenShut
import Derived.Stop.Joined
section
namespace Go.Proofs.YtdafdidmbeecfaaGreatDoor.Su
set_option linter.unusedVariables false
set_option linter.unusedSimpArgs false
open Go.ChangeShapes Go.WideShapes Go.ChangeAt Go.WideMaps Go.WideElems Go.RowKit Go.SL Go.Proofs.YtdafdidmbeecfaaGreatDoor
theorem gHalf : Tryz.prog.globalNamed "harrow/crc.half" = some 0 := by kernel_rfl
theorem tHalf : (Tryz.prog.globals[0]?).map (·.type) = some 191 := by kernel_rfl
def laidH {H : Type} : List (String × DataW H) := [("harrow/crc.half", Rows.laid_harrow_crc_half)]
theorem door_met (os : Os) (args : Array Value) : laidMetH Tryz.prog laidH ((World.doorLaid Tryz.prog 400 os).forCall (fun _ _ => 0) ⟨#[], args, []⟩).memory :=
 laidMetH_of_parts3 (fuel := 8) (laidMet_of_run' 8 (by kernel_rfl) (by kernel_rfl)) (by kernel_rfl) (by kernel_rfl)
set_option maxRecDepth 100000 in
theorem half_of_laid {W : World} (h : laidMetH Tryz.prog laidH W) : Half W := by
 rw [MakeChecks.laidMetH_plain _ _ _ (by kernel_rfl)] at h
 obtain ⟨ps, ⟨g0, t0, cs0, f0, p0, q0, hg0, ht0, hv0, hd0, _, _⟩, _, _⟩ := h
 obtain rfl := Option.some.inj (gHalf.symm.trans hg0)
 obtain rfl := Option.some.inj (tHalf.symm.trans ht0)
 obtain ⟨xs, m1, rfl, hx1, hlen, hn3, hel⟩ := DataW.trod_array Tryz.underlying191 hd0
 intro k hk
 have hk1 := hel k hk
 simp only [Prod.mk.injEq] at hx1
 have hL : DataW.agg (halfL.map fun z => (DataW.lit (.int .u32 z) : DataW Unit)) = DataW.agg (xs.map fun x => x.1) := hx1.1
 injection hL with hL
 have c84 : Tryz.prog.cellsOf 84 = 1 := by kernel_rfl
 rw [c84, Nat.mul_one] at hk1
 obtain ⟨x, hx⟩ : ∃ x, xs[k]? = some x := ⟨_, List.getElem?_eq_getElem (by omega)⟩
 rw [hx] at hk1
 obtain ⟨z, e1, e2, _⟩ := DataW.trod_int Tryz.underlying84 hk1
 have hx2 : x.1 = DataW.lit (.int .u32 (halfL.getD k 0)) := by
  have h1 := congrArg (fun l => l[k]?) hL
  simp only [List.getElem?_map, hx, Option.map_some] at h1
  have hk2 : k < halfL.length := by show k < 16; exact hk
  rw [List.getElem?_eq_getElem hk2, Option.map_some] at h1
  injection h1 with h1
  rw [← h1, List.getD, List.getElem?_eq_getElem hk2]; rfl
 have hz : z = halfL.getD k 0 := by
  rw [e2] at hx2
  injection hx2 with h1
  injection h1
 have hcell := World.var?_cell hg0 hv0 k
 rw [hcell]
 have h2 : (cs0.toList.drop k)[0]? = some (.int .u32 z) := by
  have h3 := congrArg (fun l => l[0]?) e1
  simp only [List.getElem?_take] at h3
  simpa using h3
 rw [List.getElem?_drop] at h2
 rw [← hz]
 simpa using h2
end Go.Proofs.YtdafdidmbeecfaaGreatDoor.Su
end
section
namespace Go.Proofs.YtdafdidmbeecfaaGreatDoor.Su
set_option linter.unusedVariables false
set_option linter.unusedSimpArgs false
open Go.RowKit Go.SL Go.ChangeShapes Go.WideShapes Go.ChangeAt Go.Proofs.YtdafdidmbeecfaaGreatDoor Go.Proofs.YtdafdidmbeecfaaGreatDoor.Ba
def IsBytes (w : World) (a : Option Addr) (len cap : Nat) (l : List UInt8) : Prop :=
 (a = none ∧ len = 0 ∧ cap = 0 ∧ l = []) ∨ ∃ x, a = some x ∧ len ≤ cap ∧ cap ≤ maxLen ∧ l.length = len ∧ At w x (l.map SL.u8)
section
variable {H : Type} {enc : TypeId × Value → H} {w : World}
theorem bytes_of {fuel : Nat} {a : Option Addr} {len cap : Nat} {x : DataW H × List MemPlace} (hf : DataW.trod enc Tryz.prog w 0 (fun _ => true) true fuel 22 [.slice a len cap] = some x) : ∃ l, IsBytes w a len cap l := by
 rcases open_ints Tryz.underlying22 Tryz.underlying5 (by kernel_rfl) hf with ⟨hcs, _⟩ | ⟨x, l, c, zs, hcs, _, hl, hm, hz, _, hcell, hwz⟩
 ·simp at hcs
  obtain ⟨rfl, rfl, rfl⟩ := hcs
  exact ⟨[], .inl ⟨rfl, rfl, rfl, rfl⟩⟩
 ·simp at hcs
  obtain ⟨rfl, rfl, rfl⟩ := hcs
  have hz' : zs.length = cap := by simpa using hz
  refine ⟨(zs.take len).map UInt8.ofInt, .inr ⟨_, rfl, hl, hm, by simp; omega, fun j u hu => ?_⟩⟩
  rw [List.getElem?_map, List.getElem?_map, List.getElem?_take] at hu
  split at hu
  ·rename_i hj
   rw [hcell j (by omega)]
   rw [List.getElem?_eq_getElem (by omega)] at hu
   have hw := hwz _ (List.getElem_mem (show j < zs.length by omega))
   rw [List.getD, List.getElem?_eq_getElem (by omega)]
   generalize zs[j] = y at hu hw
   simp only [Lit.wf, Bool.and_eq_true, decide_eq_true_eq] at hw
   rw [← hu]
   show some (Value.int .u8 y) = some (SL.u8 (UInt8.ofInt y))
   rw [← u8_wrap, IntKind.wrap_u8]
   congr 2
   have hw2 : 0 ≤ y ∧ y ≤ 255 := hw
   omega
  ·cases hu
end
theorem forms11_in (w : World) (hh : Half w) (sectors blocks : Int) (a : Option Addr) (len cap : Nat) (l : List UInt8) (hb : IsBytes w a len cap l) :
  Calls Tryz.prog 3 #[.int .i64 sectors, .int .i64 blocks, .slice a len cap] w (ShownQ w) := by
 have h : Rd w (.slice a len cap) l ∧ l.length ≤ 9223372036854775807 := by
  rcases hb with ⟨rfl, rfl, rfl, rfl⟩ | ⟨x, rfl, h1, h2, h3, h4⟩
  ·exact ⟨⟨rfl, .inl ⟨rfl, rfl⟩⟩, by simp⟩
  ·exact ⟨⟨by rw [List.length_map]; omega, .inr ⟨x, cap, by rw [h3], h4⟩⟩, by unfold maxLen at h2; omega⟩
 exact forms11_any w hh sectors blocks _ l h.1 h.2
end Go.Proofs.YtdafdidmbeecfaaGreatDoor.Su
end

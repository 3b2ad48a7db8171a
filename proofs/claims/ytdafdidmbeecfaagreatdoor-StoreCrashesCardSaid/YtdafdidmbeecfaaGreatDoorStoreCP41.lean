/- Steps towards the statement StoreC. -/
import Derived.Test.YtdafdidmbeecfaaGreatDoorStoreCP40
import Derived.ProofKit
import Derived.LaidMore
import Derived.OpenShut
import Derived.Stop.Joined
import Derived.Test.YtdafdidmbeecfaaGreatDoorStoreCP39
section
namespace Go.Proofs.YtdafdidmbeecfaaGreatDoor.Su
set_option linter.unusedVariables false
set_option linter.unusedSimpArgs false
open Go.ChangeShapes Go.WideShapes Go.ChangeAt Go.WideMaps Go.WideElems Go.RowKit Go.SL Go.Proofs.YtdafdidmbeecfaaGreatDoor
theorem gHalf : Tryz.prog.globalNamed "harrow/crc.half" = some 0 := by kernel_rfl
theorem tHalf : (Tryz.prog.globals[0]?).map (·.type) = some 191 := by kernel_rfl
def laidH {H : Type} : List (String × DataW H) := [("harrow/crc.half", Rows.laid_harrow_crc_half)]
theorem door_met (os : Os) (args : Array Value) : laidMetH Tryz.prog laidH ((World.doorLaid Tryz.prog 400 os).forCall (fun _ _ => 0) ⟨#[], args, []⟩).memory :=
 laidMetH_of_parts3 (fuel := 8) (laidMet_of_run' 8 (by kernel_rfl) (by kernel_rfl)) (by kernel_rfl) (by kernel_rfl)
set_option maxRecDepth 100000 in
theorem half_of_laid {W : World} (h : laidMetH Tryz.prog laidH W) : Half W := by
 rw [MakeChecks.laidMetH_plain _ _ _ (by kernel_rfl)] at h
 obtain ⟨ps, ⟨g0, t0, cs0, f0, p0, q0, hg0, ht0, hv0, hd0, _, _⟩, _, _⟩ := h
 obtain rfl := Option.some.inj (gHalf.symm.trans hg0)
 obtain rfl := Option.some.inj (tHalf.symm.trans ht0)
 obtain ⟨xs, m1, rfl, hx1, hlen, hn3, hel⟩ := DataW.trod_array Tryz.underlying191 hd0
 intro k hk
 have hk1 := hel k hk
 simp only [Prod.mk.injEq] at hx1
 have hL : DataW.agg (halfL.map fun z => (DataW.lit (.int .u32 z) : DataW Unit)) = DataW.agg (xs.map fun x => x.1) := hx1.1
 injection hL with hL
 have c84 : Tryz.prog.cellsOf 84 = 1 := by kernel_rfl
 rw [c84, Nat.mul_one] at hk1
 obtain ⟨x, hx⟩ : ∃ x, xs[k]? = some x := ⟨_, List.getElem?_eq_getElem (by omega)⟩
 rw [hx] at hk1
 obtain ⟨z, e1, e2, _⟩ := DataW.trod_int Tryz.underlying84 hk1
 have hx2 : x.1 = DataW.lit (.int .u32 (halfL.getD k 0)) := by
  have h1 := congrArg (fun l => l[k]?) hL
  simp only [List.getElem?_map, hx, Option.map_some] at h1
  have hk2 : k < halfL.length := by show k < 16; exact hk
  rw [List.getElem?_eq_getElem hk2, Option.map_some] at h1
  injection h1 with h1
  rw [← h1, List.getD, List.getElem?_eq_getElem hk2]; rfl
 have hz : z = halfL.getD k 0 := by
  rw [e2] at hx2
  injection hx2 with h1
  injection h1
 have hcell := World.var?_cell hg0 hv0 k
 rw [hcell]
 have h2 : (cs0.toList.drop k)[0]? = some (.int .u32 z) := by
  have h3 := congrArg (fun l => l[0]?) e1
  simp only [List.getElem?_take] at h3
  simpa using h3
 rw [List.getElem?_drop] at h2
 rw [← hz]
 simpa using h2
end Go.Proofs.YtdafdidmbeecfaaGreatDoor.Su
end
section
namespace Go.Proofs.YtdafdidmbeecfaaGreatDoor.Su
set_option linter.unusedVariables false
set_option linter.unusedSimpArgs false
open Go.RowKit Go.SL Go.Proofs.YtdafdidmbeecfaaGreatDoor Go.Proofs.YtdafdidmbeecfaaGreatDoor.Ba
theorem hdI_range (l : List UInt8) : 0 ≤ hdI l ∧ hdI l < 256 := by unfold hdI; have := (l.getD 0 0).toNat_lt; omega
theorem blk_hd (c : Int) : blkI (hdI (bj c)) = bj c := by
 unfold blkI
 rw [if_neg (by have := hdI_range (bj c); omega)]
 apply bj_congr
 have h : (bj c).getD 0 0 = UInt8.ofInt (c + ((0 : Nat) : Int)) := by
  unfold bj
  rw [List.getD, List.getElem?_map, List.getElem?_range (by decide)]; rfl
 unfold hdI
 rw [h]
 have := u8_ofInt (c + ((0 : Nat) : Int))
 omega
theorem withN_off {X : List Int} {L : Bl} {i : Nat} : ∀ k, (∀ m, m < k → (L.getD m (0, [])).1.toNat ≠ i) → (withN X L k).getD i 0 = X.getD i 0 := by
 intro k
 induction k with
 | zero => intro _; rfl
 | succ k ih =>
  intro h
  have h1 := ih fun m hm => h m (by omega)
  rw [withN, List.getD, List.getElem?_set_ne (h k (by omega))]
  exact h1
theorem withN_on {X : List Int} {L : Bl} {i m : Nat} (hi : i < X.length) (hm : (L.getD m (0, [])).1.toNat = i) (hd : ∀ a b, a < b → b < L.length → (L.getD a (0, [])).1.toNat ≠ (L.getD b (0, [])).1.toNat) :
  ∀ k, m < k → k ≤ L.length → (withN X L k).getD i 0 = hdI (L.getD m (0, [])).2 := by
 intro k
 induction k with
 | zero => intro h; omega
 | succ k ih =>
  intro h hk
  by_cases e : m = k
  ·subst e
   rw [withN, hm, List.getD, List.getElem?_set_self (by rw [withN_len]; exact hi)]; rfl
  ·have hne := hd m k (by omega) (by omega)
   rw [hm] at hne
   rw [withN, List.getD, List.getElem?_set_ne (fun e => hne e.symm)]
   exact ih (by omega) (by omega)
theorem kget_none {L : Bl} {x : Int} (h : ∀ y ∈ L, y.1 ≠ x) : kget L x = none := by
 unfold kget
 rw [List.find?_eq_none.2 fun y hy => by simpa using h y hy]; rfl
theorem kget_nodup {x : Int × List UInt8} : ∀ {L : Bl}, (L.map Prod.fst).Nodup → x ∈ L → kget L x.1 = some x.2 := by
 intro L
 induction L with
 | nil => intro _ h; cases h
 | cons y L ih =>
  intro hn h
  rw [kget_cons]
  rw [List.map_cons, List.nodup_cons] at hn
  rcases List.mem_cons.1 h with rfl | h
  ·rw [if_pos rfl]
  ·rw [if_neg, ih hn.2 h]
   intro e
   exact hn.1 (by rw [e]; exact List.mem_map.2 ⟨x, h, rfl⟩)
theorem says_with {n : Nat} {has : Has} {X : List Int} {v : Value} {L : Wo} (hX : X.length = n) (h : SaysK has X n) (hW : WIn11 n v L) : SaysK (updB has L.bl) (withL X L.bl) n := by
 intro i hi
 have hbl : L.bl.length = L.length := bl_len L
 have hnd : (L.bl.map Prod.fst).Nodup := by
  have e : L.bl.map Prod.fst = L.map fun x => x.2.1 := by unfold Wo.bl; rw [List.map_map]; rfl
  rw [e]; exact hW.nd
 have hids : ∀ x ∈ L.bl, 0 ≤ x.1 ∧ x.1 < (n : Int) := by
  intro x hx
  obtain ⟨y, hy, rfl⟩ := List.mem_map.1 hx
  exact hW.ids y hy
 have hbj : ∀ x ∈ L.bl, ∃ c, x.2 = bj c := by
  intro x hx
  obtain ⟨y, hy, rfl⟩ := List.mem_map.1 hx
  exact hW.bjs y hy
 have hget : ∀ m, m < L.bl.length → ∃ x, x ∈ L.bl ∧ L.bl.getD m (0, []) = x ∧ (L.bl.map Prod.fst)[m]? = some x.1 := fun m hm => ⟨L.bl[m], List.getElem_mem _, by rw [List.getD, List.getElem?_eq_getElem hm]; rfl, by rw [List.getElem?_map, List.getElem?_eq_getElem hm]; rfl⟩
 have hd : ∀ a b, a < b → b < L.bl.length → (L.bl.getD a (0, [])).1.toNat ≠ (L.bl.getD b (0, [])).1.toNat := by
  intro a b hab hb e
  obtain ⟨x, hx, ex, gx⟩ := hget a (by omega)
  obtain ⟨y, hy, ey, gy⟩ := hget b hb
  rw [ex, ey] at e
  have h1 := hids x hx; have h2 := hids y hy
  have exy : x.1 = y.1 := by omega
  have hla : a < (L.bl.map Prod.fst).length := by rw [List.length_map]; omega
  have hlb : b < (L.bl.map Prod.fst).length := by rw [List.length_map]; exact hb
  have hne := List.pairwise_iff_getElem.1 hnd a b hla hlb hab
  rw [List.getElem?_eq_getElem hla] at gx
  rw [List.getElem?_eq_getElem hlb] at gy
  exact hne (by rw [Option.some.inj gx, Option.some.inj gy, exy])
 show ((kget L.bl (i : Int)).or (has (i : Int))).getD (zs 480) = _
 unfold withL
 by_cases hex : ∃ m, m < L.bl.length ∧ (L.bl.getD m (0, [])).1.toNat = i
 ·obtain ⟨m, hm, he⟩ := hex
  rw [withN_on (by rw [hX]; exact hi) he hd L.bl.length hm (Nat.le_refl _)]
  obtain ⟨x, hx, ex, _⟩ := hget m hm
  rw [ex] at he ⊢
  have h1 := hids x hx
  have e1 : (i : Int) = x.1 := by omega
  obtain ⟨c, hc⟩ := hbj x hx
  rw [e1, kget_nodup hnd hx]
  show x.2 = _
  rw [hc, blk_hd]
 ·rw [withN_off L.bl.length fun m hm e => hex ⟨m, hm, e⟩, kget_none fun y hy e => by
   obtain ⟨m, hm, e2⟩ := List.mem_iff_getElem.1 hy
   refine hex ⟨m, hm, ?_⟩
   rw [List.getD, List.getElem?_eq_getElem hm, Option.getD_some, e2]
   omega]
  exact h i hi
theorem with_val {n : Nat} {X : List Int} {L : Bl} (hX : X.length = n) (h : ∀ i, i < n → X.getD i 0 = -1 ∨ 0 ≤ X.getD i 0) : ∀ k i, i < n → (withN X L k).getD i 0 = -1 ∨ 0 ≤ (withN X L k).getD i 0 := by
 intro k
 induction k with
 | zero => exact h
 | succ k ih =>
  intro i hi
  by_cases e : (L.getD k (0, [])).1.toNat = i
  ·rw [withN, e, List.getD, List.getElem?_set_self (by rw [withN_len, hX]; exact hi)]
   exact .inr (hdI_range _).1
  ·rw [withN, List.getD, List.getElem?_set_ne e]
   exact ih i hi
theorem says_same {n : Nat} {a b : Has} {X : List Int} (h : SaysK a X n) (hs : SameH b a) : SaysK b X n := fun i hi => (hs _).trans (h i hi)
theorem says_no (n : Nat) : SaysK noH (List.replicate n (-1)) n := by
 intro i hi
 have : (List.replicate n (-1 : Int)).getD i 0 = -1 := by simp [List.getD, List.getElem?_replicate, hi]
 rw [this]; rfl
theorem lst_of {w0 : World} {F0 F : Assn} {v : Value} {n : Nat} {X : List Int} (h0 : Sat w0 (sl 3 1 v X.length (SL.i64v X) * F0)) (hX : X.length = n) (hn : 1 ≤ n) (hval : ∀ i, i < n → X.getD i 0 = -1 ∨ 0 ≤ X.getD i 0) : Lst (sl 3 1 v X.length (SL.i64v X) * F) v n X := by
 refine ⟨?_, hX, hval⟩
 rcases rdI_sl h0 with ⟨_, _, _, h⟩ | ⟨g, o, c, rfl, hc, hm, _⟩
 ·rw [h] at hX; simp at hX; omega
 ·have ho : o = 0 := by
   rcases h0.slCases with ⟨hh, _⟩ | ⟨g', cap, cur, hh, _⟩
   ·cases hh
   ·injection hh with hh; injection hh with hh; injection hh
  subst ho
  refine ⟨g, c, by rw [hX], by omega, hm, fun w' Q h i hi => ?_⟩
  have h' : Sat w' (sl 3 1 (.slice (some ⟨g, 0, none⟩) X.length c) X.length (SL.i64v X) * (Q * F)) := h.to (by ac_rfl)
  rcases rdI_sl h' with ⟨_, _, _, h2⟩ | ⟨g', o', c', e, _, _, hcell⟩
  ·rw [h2] at hX; simp at hX; omega
  ·injection e with e
   injection e with e
   injection e with e1 e2
   subst e1; subst e2
   have := hcell i (by omega)
   rwa [Nat.zero_add] at this
theorem Lst.under {F : Assn} {v : Value} {n : Nat} {X : List Int} (h : Lst F v n X) (Y : Assn) : Lst (Y * F) v n X := by
 obtain ⟨⟨hg, hc, e, h1, h2, h3⟩, h4, h5⟩ := h
 exact ⟨⟨hg, hc, e, h1, h2, fun w' Q hs i hi => h3 w' (Q * Y) (hs.to (SL.star_assoc _ _ _).symm) i hi⟩, h4, h5⟩
theorem Lst.rds {F : Assn} {v : Value} {n : Nat} {X : List Int} (h : Lst F v n X) {w' : World} {Q : Assn} (hs : Sat w' (Q * F)) : Rds w' 1 v n (SL.i64v X) := by
 obtain ⟨⟨hg, hc, rfl, h1, h2, h3⟩, h4, h5⟩ := h
 refine ⟨by simp [SL.i64v, h4], .inr ⟨_, _, rfl, fun j u hu => ?_⟩⟩
 have hj : j < n := by
  have := (List.getElem?_eq_some_iff.1 hu).1
  simp [SL.i64v, h4] at this; exact this
 rw [Addr.add_lit, Nat.zero_add, h3 w' Q hs j hj]
 rw [SL.i64v, List.getElem?_map, List.getElem?_eq_getElem (by omega)] at hu
 rw [List.getD, List.getElem?_eq_getElem (by omega)]
 exact hu
theorem lst_ints {F : Assn} {hb n : Nat} (hn : n ≤ 1000) : Lst (pt hb (.cells (ints (List.replicate n (-1))) 3 (0, 0)) * F) (.slice (some ⟨hb, 0, none⟩) n n) n (List.replicate n (-1)) := by
 refine ⟨⟨hb, n, rfl, Nat.le_refl _, by unfold maxLen; omega, fun w' Q h i hi => ?_⟩, List.length_replicate, fun i hi => .inl (by simp [List.getD, List.getElem?_replicate, hi])⟩
 have h' : Sat w' (pt hb (.cells (ints (List.replicate n (-1))) 3 (0, 0)) * (Q * F)) := h.to (by ac_rfl)
 rw [h'.cell]
 simp [ints, List.getD, hi]
theorem rdWs_of {w' : World} {Q F : Assn} {v : Value} {L : Wo} (h480 : ∀ x ∈ L, x.2.2.length = 480) (h : Sat w' (Q * (wrsA v L * F))) : RdWs w' v L := by
 have := wrsA_reads NoB v L h480 F NoB Q w' (Ext.refl _) (h.poolEmp.to (by ac_rfl))
 exact this
structure LawS (n P B : Nat) (J : Jr) (D : Dev) (has : Has) : Prop where
 sj : Sj n P B (superE n P) J D has
 sec : D.sec.length = P + 1
 nb : Numb B D
theorem LawS.more {n P B B' : Nat} {J : Jr} {D : Dev} {has : Has} (h : LawS n P B J D has) (hB : B ≤ B') : LawS n P B' J D has := ⟨h.sj.more hB, h.sec, h.nb.more hB⟩
section
variable {n P B : Nat} {J : Jr} {D : Dev} {has : Has} {L : Bl}
theorem LawS.cr (h : LawS n P B J D has) {k : Nat} (hk : k ≤ 30000) (hB : B ≤ 1000000) : LawS n P (B + 1) J ({ D with cr := addN D.cr k } : Dev) has ∧ addN D.cr k = D.cr + k := by
 obtain ⟨a0, a1, b0, b1, c0, c1⟩ := h.nb
 have e := addN_eq (c := D.cr) k a0 (by omega)
 exact ⟨⟨(h.sj.cr _).more (Nat.le_succ _), h.sec, ⟨by show 0 ≤ addN D.cr k; omega, by show addN D.cr k ≤ _; omega, b0, by show D.cw ≤ _; omega, c0, by show D.cf ≤ _; omega⟩⟩, e⟩
theorem LawS.flush (h : LawS n P B J D has) (hB : B ≤ 1000000) : J.flush D = (0, J, D.flushed) ∧ LawS n P (B + 1) J D.flushed has ∧ D.flushed.cr = D.cr ∧ D.flushed.cw = D.cw ∧ D.flushed.cf = D.cf + 1 ∧ D.flushed.wait = [] := by
 obtain ⟨a0, a1, b0, b1, c0, c1⟩ := h.nb
 obtain ⟨f1, f2, f3, f4⟩ := flushed_counts D
 have e : i64w (D.cf + 1) = D.cf + 1 := addN_eq (c := D.cf) 1 c0 (by omega)
 rw [e] at f3
 refine ⟨?_, ⟨h.sj.flushed.more (Nat.le_succ _), by rw [f4]; exact h.sec, ⟨by omega, by omega, by omega, by omega, by omega, by omega⟩⟩, f1, f2, f3, rfl⟩
 rcases flush_armed h.sj.jt.inv arOk_none with ⟨_, h⟩ | ⟨⟨K, hK⟩, _⟩
 ·exact h
 ·cases hK
theorem LawS.commit (h : LawS n P B J D has) (hg : geoOk n P = true) (hB : B ≤ 1000000) (hb : Batch (n : Int) L) :
  ∃ J' D', jcommit J D true L = (0, J', D') ∧ LawS n P (B + 1) J' D' (updB has L) ∧ D'.cr ≤ D.cr + 2 * L.length ∧ D'.cw ≤ D.cw + 3 * L.length ∧ D'.cf = D.cf + 1 ∧ J'.sq = J.sq + 1 ∧ (∀ K, (∃ J1, Mnt n P (B + 1) (superE n P) J1 (Dev.again D' K) has) ∨ ∃ J1, Mnt n P (B + 1) (superE n P) J1 (Dev.again D' K) (updB has L)) ∧ D.cr ≤ D'.cr ∧ D.cw ≤ D'.cw ∧ D'.wait.length ≤ 100 := by
 obtain ⟨a0, a1, b0, b1, c0, c1⟩ := h.nb
 obtain ⟨f1, f2, f3, f4⟩ := flushed_counts D
 have hgG := geoOk_iff.1 hg
 obtain ⟨hc, hs⟩ := h.sj.commit (by omega) hB hb
 have hl := hb.n1
 have hml := movB_len J has L h.sj.jt.inv.ok.us0
 have hcl := Jr.cleaned_range h.sj.jt.inv.ok.us0 L.length
 have e : i64w (D.cf + 1) = D.cf + 1 := addN_eq (c := D.cf) 1 c0 (by omega)
 have er : (devC J D has L).cr = D.cr + (movB J has L).length := by
  show addN D.flushed.cr _ = _
  rw [f1]; exact addN_eq _ a0 (by omega)
 have ew : (devC J D has L).cw = D.cw + (L ++ movB J has L).length := by
  show addN D.flushed.cw _ = _
  rw [f2]; exact addN_eq _ b0 (by rw [List.length_append]; omega)
 have ef : (devC J D has L).cf = D.cf + 1 := by
  show D.flushed.cf = _
  rw [f3, e]
 rw [List.length_append] at ew
 refine ⟨_, _, hc, ⟨hs, ?_, ⟨by omega, by omega, by omega, by omega, by omega, by omega⟩⟩, by omega, by omega, ef, rfl, fun K => mid_crash (mid_devC J D has L) h.sj (by omega) hB hb, by omega, by omega, by show (wrsL J (wrOf (L ++ movB J has L)) (L ++ movB J has L).length).length ≤ 100; unfold wrsL; rw [List.length_map, List.length_range, List.length_append]; omega⟩
 show D.flushed.sec.length = _
 rw [f4]; exact h.sec
theorem LawS.start {D D' : Dev} {o' : Ar} (hs : D.sec.length = P + 1) (hP : P ≤ 20000) (h0 : D.cr = 0) (h1 : D.cw = 0) (h2 : D.cf = 0) (h : FmOk n P D none D' o') : LawS n P 1 (J0 P n) D' noH := by
 have e1 := h.cr; have e2 := h.cw; have e3 := h.cf
 rw [h0] at e1
 rw [h1, addN_eq (P + 2) (Int.le_refl 0) (by omega)] at e2
 rw [h2, addN_eq 3 (Int.le_refl 0) (by omega)] at e3
 exact ⟨h.sj, h.sec.trans hs, ⟨by omega, by omega, by omega, by omega, by omega, by omega⟩⟩
end
end Go.Proofs.YtdafdidmbeecfaaGreatDoor.Su
end

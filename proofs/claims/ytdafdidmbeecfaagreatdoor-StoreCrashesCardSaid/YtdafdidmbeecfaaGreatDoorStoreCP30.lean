/- Steps towards the statement StoreC. -/
import Derived.Test.YtdafdidmbeecfaaGreatDoorStoreCP24
import Derived.Test.YtdafdidmbeecfaaGreatDoorStoreCP27
import Derived.Test.YtdafdidmbeecfaaGreatDoorStoreCP29
section
namespace Go.SL
set_option linter.unusedVariables false
set_option linter.unusedSimpArgs false
open Go.RowKit
def flrI (L : List Fnd) : Int := L.foldl (fun m x => max m x.1.fl) 0
def epoI (L : List Fnd) : Int := L.foldl (fun m x => max m x.1.ep) 0
theorem fold_max {α : Type} (f : α → Int) (M : Int) (L : List α) (h : ∀ x ∈ L, f x ≤ M) : ∀ a, 0 ≤ a → a ≤ M → 0 ≤ L.foldl (fun m x => max m (f x)) a ∧ L.foldl (fun m x => max m (f x)) a ≤ M := by
 induction L with
 | nil => intro a h0 h1; exact ⟨h0, h1⟩
 | cons x L ih =>
  intro a h0 h1
  have hx := h x (by simp)
  exact ih (fun y hy => h y (by simp [hy])) (max a (f x)) (by omega) (by omega)
end Go.SL
namespace Go.Proofs.YtdafdidmbeecfaaGreatDoor
set_option linter.unusedVariables false
set_option linter.unusedSimpArgs false
open Go.RowKit Go.SL
def sqI (L : List Fnd) : Int := if wholeB (freshL L) (flrI L + 1) = true then flrI L + 1 else flrI L
def scanSt (L : List Fnd) (P B : Nat) : Option Js :=
 if epoI L = 4294967295 ∨ 281474976710655 ≤ sqI L then none
 else some ⟨epoI L + 1, sqI L + 1, sqI L, headI (freshL L) (sqI L) P, usedI (whereL (freshL L) (sqI L) B) (headI (freshL L) (sqI L) P) P, whereL (freshL L) (sqI L) B⟩
def scanR (D : Dev) (P B : Int) : Int × Option Js × Dev :=
 if 1 ≤ P ∧ P ≤ (D.sec.length : Int) - 1 ∧ 1 ≤ B ∧ B ≤ 3840 then
  (if (scanN B D P.toNat).1 = 0 then
   (match scanSt (scanN B D P.toNat).2.1 P.toNat B.toNat with
   | some s => ((0 : Int), some s, (scanN B D P.toNat).2.2)
   | none => ((12 : Int), none, (scanN B D P.toNat).2.2))
  else ((2 : Int), none, (scanN B D P.toNat).2.2))
 else ((1 : Int), none, D)
def noSt : Value := .agg #[.int .u32 0, .int .u64 0, .int .u64 0, .int .i64 0, .int .i64 0, .slice none 0 0]
def stA (v : Value) (s : Option Js) : Assn := match s with
 | none => fact (v = noSt)
 | some s => ex fun g => fact (v = s.v (.slice (some ⟨g, 0, none⟩) s.at_.length s.at_.length)) * pt g (.cells (ints s.at_) 3 (0, 0))
def ScanQ (S : Hp) (d : Nat) (R : Int × Option Js × Dev) (F : Assn) (w : World) (e : Ending) (w' : World) : Prop :=
 ∃ v, e = .returned (.tuple #[v, .int .i64 R.1]) ∧ Sat w' (stA v R.2.1 * (devA S d R.2.2 * (pool S * F))) ∧ Side w w'
theorem scan_results {tmps : Array Value} {w : World} {z : Nat} {v : Value} {F : Assn} {c0 c1 c2 c3 c4 c5 : Value} (h6 : tmps[6]? = some (ptV z)) (h7 : tmps[7]? = some v) (h : Sat w (pt z (.cells #[c0, c1, c2, c3, c4, c5] 86 (0, 0)) * F)) :
  (results Tryz.f43 tmps).run Tryz.prog w = .ok (.tuple #[.agg #[c0, c1, c2, c3, c4, c5], v]) w := by
 have hz : ∀ o, w.cell? ⟨z, o, none⟩ = #[c0, c1, c2, c3, c4, c5][o]? := fun o => h.cell o
 have z0 := hz 0; have z1 := hz 1; have z2 := hz 2; have z3 := hz 3; have z4 := hz 4; have z5 := hz 5
 clear hz h
 simp only [List.getElem?_toArray, List.getElem?_cons_zero, List.getElem?_cons_succ] at z0 z1 z2 z3 z4 z5
 simp [results, Tryz.results43, go_sem, h6, h7, z0, z1, z2, z3, z4, z5]
set_option maxRecDepth 100000 in
set_option maxHeartbeats 2000000 in
theorem scan_bad (w : World) (S : Hp) (d : Nat) (D : Dev) (P B : Int) (F : Assn) (h : Sat w (devA S d D * (pool S * F))) (hD : D.Ok) (hb : ¬ (1 ≤ P ∧ P ≤ (D.sec.length : Int) - 1 ∧ 1 ≤ B ∧ B ≤ 3840)) :
  Calls Tryz.prog 43 #[ptV d, .int .i64 P, .int .i64 B] w (ScanQ S d ((1 : Int), none, D) F w) := by
 have hA := h.alloc (.cells #[.int .u32 0, .int .u64 0, .int .u64 0, .int .i64 0, .int .i64 0, .slice none 0 0] 86 (0, 0))
 have hs := (Side.refl w).alloc (.cells #[.int .u32 0, .int .u64 0, .int .u64 0, .int .i64 0, .int .i64 0, .slice none 0 0] 86 (0, 0))
 have hsec := sectors_any _ S d D _ hA.right
 have hn := hD.n
 have hn0 : (D.sec.length : Int) ≤ 20000 := by omega
 have hn1 : (0 : Int) ≤ (D.sec.length : Int) := by omega
 clear hD hn h
 generalize (D.sec.length : Int) = n at *
 have fin : ∀ {w' : World}, Sat w' (devA S d D * (pool S * F)) → Sat w' (stA noSt none * (devA S d D * (pool S * F))) := fun h => Sat.fact_iff.2 ⟨rfl, h⟩
 have Hb := SL.hid hb
 clear hb
 by_cases h1 : P < 1
 ·go_enter Tryz.func43, Tryz.ntmps43
  go_wp2_with fail
  exact bodyPost_ret (scan_results rfl rfl hA) rfl ⟨_, rfl, fin hA.right, hs⟩
 by_cases h2 : n - 1 < P
 ·go_enter Tryz.func43, Tryz.ntmps43
  go_wp2_with (refine hsec.mono ?_; rintro e w1 ⟨rfl, rfl⟩)
  exact bodyPost_ret (scan_results rfl rfl hA) rfl ⟨_, rfl, fin hA.right, hs⟩
 by_cases h3 : B < 1
 ·go_enter Tryz.func43, Tryz.ntmps43
  go_wp2_with (refine hsec.mono ?_; rintro e w1 ⟨rfl, rfl⟩)
  exact bodyPost_ret (scan_results rfl rfl hA) rfl ⟨_, rfl, fin hA.right, hs⟩
 have h4 : 3840 < B := by have := Hb.out; omega
 go_enter Tryz.func43, Tryz.ntmps43
 go_wp2_with (refine hsec.mono ?_; rintro e w1 ⟨rfl, rfl⟩)
 exact bodyPost_ret (scan_results rfl rfl hA) rfl ⟨_, rfl, fin hA.right, hs⟩
theorem st_one0 : (#[.int .u32 0, .int .u64 0, .int .u64 0, .int .i64 0, .int .i64 0, .slice none 0 0] : Array Value).all (·.oneCell') = true := by simp [Value.oneCell']
theorem st_one (n0 n1 n2 n3 n4 : Int) (a : Option Addr) (n c : Nat) : (#[.int .u32 n0, .int .u64 n1, .int .u64 n2, .int .i64 n3, .int .i64 n4, .slice a n c] : Array Value).all (·.oneCell') = true := by simp [Value.oneCell']
theorem st_six (n0 n1 n2 n3 n4 : Int) (a : Option Addr) (n c : Nat) : (Tryz.prog.info? 86).map (·.size) = some (#[.int .u32 n0, .int .u64 n1, .int .u64 n2, .int .i64 n3, .int .i64 n4, .slice a n c] : Array Value).size := info_state0
def ScRel (L : List Fnd) (X : Assn) (w : World) (u10 u11 u53 : Value) (wr : World) : Prop :=
 ∃ (k : Nat) (f e : Int), k ≤ L.length ∧ u53 = .int .i64 (k : Int) ∧ u10 = .int .u64 f ∧ u11 = .int .u32 e ∧ (L.take k).foldl (fun m x => max m x.1.fl) 0 = f ∧ (L.take k).foldl (fun m x => max m x.1.ep) 0 = e ∧ Sat wr X ∧ Side w wr
set_option maxRecDepth 100000 in
set_option maxHeartbeats 4000000 in
theorem scan_good (w : World) (S : Hp) (d : Nat) (D : Dev) (P B : Nat) (F : Assn) (h : Sat w (devA S d D * (pool S * F))) (hD : D.Ok) (hP0 : 1 ≤ P) (hP : P + 1 ≤ D.sec.length) (hB0 : 1 ≤ B) (hB : B ≤ 3840) (R : Int × List Fnd × Dev) (hR : scanN B D P = R) (O : Int × Option Js × Dev)
  (hO2 : R.1 ≠ 0 → O = ((2 : Int), none, R.2.2)) (hOn : R.1 = 0 → scanSt R.2.1 P B = none → O = ((12 : Int), none, R.2.2)) (hOs : ∀ s, R.1 = 0 → scanSt R.2.1 P B = some s → O = ((0 : Int), some s, R.2.2)) :
  Calls Tryz.prog 43 #[ptV d, .int .i64 (P : Int), .int .i64 (B : Int)] w (ScanQ S d O F w) := by
 have hn : (D.sec.length : Int) ≤ 20000 := by have := hD.n; omega
 have hA := h.alloc (.cells #[.int .u32 0, .int .u64 0, .int .u64 0, .int .i64 0, .int .i64 0, .slice none 0 0] 86 (0, 0))
 have hs := (Side.refl w).alloc (.cells #[.int .u32 0, .int .u64 0, .int .u64 0, .int .i64 0, .int .i64 0, .slice none 0 0] 86 (0, 0))
 have hsec := sectors_any _ S d D _ hA.right
 have hrd := rread_any _ S d D P B _ (hA.to (by ac_rfl : _ = devA S d D * (pool S * (pt w.heap.size (.cells #[.int .u32 0, .int .u64 0, .int .u64 0, .int .i64 0, .int .i64 0, .slice none 0 0] 86 (0, 0)) * F)))) hD hP
 obtain ⟨hfd, hfl, -⟩ := scanN_found (B : Int) D P
 rw [hR] at hrd hfd hfl
 have hp0 : (1 : Int) ≤ (P : Int) := by omega
 have hp1 : (P : Int) ≤ (D.sec.length : Int) - 1 := by omega
 have hb0 : (1 : Int) ≤ (B : Int) := by omega
 have hb1 : (B : Int) ≤ 3840 := by omega
 have hcode := scanN_code (B : Int) D P
 rw [hR] at hcode
 obtain ⟨code, L, D2⟩ := R
 dsimp only at hrd hfd hfl hcode hO2 hOn hOs
 have HO2 := SL.hid hO2; have HOn := SL.hid hOn; have HOs := SL.hid hOs; have Hfd := SL.hid hfd; have Hb := SL.hid (show 1 ≤ P ∧ P ≤ 20000 ∧ 1 ≤ B ∧ B ≤ 3840 by omega)
 have hfl2 : L.length ≤ 20000 := by omega
 have Hs0 := SL.hid hs
 clear h hA hD hP0 hP hB0 hB hR hO2 hOn hOs hfd hfl
 generalize (D.sec.length : Int) = n at *
 go_enter Tryz.func43, Tryz.ntmps43
 go_wp2_with (refine hsec.mono ?_; rintro e w1 ⟨rfl, rfl⟩)
 generalize w.alloc (.cells #[.int .u32 0, .int .u64 0, .int .u64 0, .int .i64 0, .int .i64 0, .slice none 0 0] 86 (0, 0)) = w1 at *
 generalize w.heap.size = z at *
 (with_reducible refine hrd.mono ?_)
 rintro e w2 ⟨v, rfl, h2, d2⟩
 clear hsec hrd
 have d3 := hs.trans d2
 rcases hcode with rfl | ⟨rfl, rfl⟩
 ·obtain ⟨X, hX⟩ : ∃ X, X = sl 123 8 v L.length (flatF L) * (devA S d D2 * (pool S * (pt z (.cells #[.int .u32 0, .int .u64 0, .int .u64 0, .int .i64 0, .int .i64 0, .slice none 0 0] 86 (0, 0)) * F))) := ⟨_, rfl⟩
  have h3 : Sat w2 X := hX ▸ h2
  have HX := SL.hid hX
  obtain ⟨va, vc, rfl⟩ := sl_shape h2
  clear h2 d2 hs hX
  have hfl3 : (L.length : Int) ≤ 20000 := by omega
  go_wp2_with fail
  go_loopw [10, 11, 53] (fun u10 u11 u53 wr => ScRel L X w u10 u11 u53 wr) (fun _ _ u _ => L.length - (intOf u).toNat)
  case atStart => exact ⟨0, 0, 0, Nat.zero_le _, rfl, rfl, rfl, rfl, rfl, h3, d3⟩
  case round =>
   clear h3 d3
   obtain ⟨k, f, e, hk, rfl, rfl, rfl, hf, he, hsat, hside⟩ := hrel
   have hRd : RdF wr (.slice va L.length vc) L := (HX.out ▸ hsat : Sat wr (sl 123 8 (.slice va L.length vc) L.length (flatF L) * _)).rds
   by_cases hlt : k < L.length
   ·have hlt' : (k : Int) < (L.length : Int) := by omega
    obtain ⟨g, off, c', hv, t, p, ht, c0, c1, c2, c3, c4, c5, c6, c7⟩ := fnd_cells hRd hlt
    cases hv
    have hf2 := foldl_take (fun m (x : Fnd) => max m x.1.fl) 0 L hlt
    have he2 := foldl_take (fun m (x : Fnd) => max m x.1.ep) 0 L hlt
    rw [hf, ht] at hf2
    rw [he, ht] at he2
    have Hf := SL.hid hf2; have He := SL.hid he2
    have HA := SL.hid (hsat.alloc (.cells #[.int .u32 t.ep, .int .u64 t.st, .int .u64 t.sq, .int .u64 t.fl, .int .i64 t.ix, .int .i64 t.ct, .int .i64 t.id, .int .i64 (p : Int)] 123 (0, 0))).right
    clear hf he hf2 he2 ht hRd hsat
    go_wp2_with fail
    all_goals
     go_roundw
     case rel => exact ⟨k + 1, max f t.fl, max e t.ep, by omega, by go_num, by first | rfl | (congr 1; omega), by first | rfl | (congr 1; omega), Hf.out, He.out, HA.out, hside.alloc _⟩
     case measure => simp [intOf]; omega
   ·obtain rfl : k = L.length := by omega
    rw [List.take_length] at hf he
    have hfI : flrI L = f := hf
    have heI : epoI L = e := he
    have bf := fold_max (fun x : Fnd => x.1.fl) 281474976710654 L (fun x hx => by have := ok_range (Hfd.out x hx).ok; omega) 0 (by omega) (by omega)
    have be := fold_max (fun x : Fnd => x.1.ep) 4294967295 L (fun x hx => by have := (Hfd.out x hx).fit.ep1; omega) 0 (by omega) (by omega)
    rw [hf] at bf
    rw [he] at be
    obtain ⟨bf0, bf1⟩ := bf
    obtain ⟨be0, be1⟩ := be
    have htr := truth_any wr _ L hRd (fun x hx => ⟨(Hfd.out x hx).ok, (Hfd.out x hx).fit⟩) (by omega)
    have HfI := SL.hid hfI; have HeI := SL.hid heI
    clear hf he hfI heI hRd
    go_wp2_with fail
    (with_reducible refine htr.mono ?_)
    rintro e5 w5 ⟨v2, rfl, h5, d5⟩
    have H5 := h5.under hsat
    have hRd5 : RdF w5 v2 (freshL L) := h5.rds
    have hmem : ∀ x ∈ freshL L, x ∈ L := fun x hx => (List.mem_filter.1 hx).1
    have hln5 : (freshL L).length ≤ 20000 := Nat.le_trans (List.length_filter_le _ _) hfl2
    have hwh := whole_any w5 v2 (freshL L) (f + 1) hRd5 (fun x hx => (Hfd.out x (hmem x hx)).ok) (by omega)
    have hsqI : sqI L = if wholeB (freshL L) (f + 1) = true then f + 1 else f := by unfold sqI; rw [HfI.out]
    have Hmem := SL.hid hmem; have HRd5 := SL.hid hRd5; have HsqI := SL.hid hsqI
    have D5 := hside.trans d5
    clear htr h5 d5 hmem hRd5 hsqI hsat hside
    obtain ⟨va2, vc2, rfl⟩ : ∃ a c, v2 = .slice a (freshL L).length c := sl_shape H5
    generalize hFL : freshL L = FL at *
    have hFL2 := SL.hid hFL
    clear hFL
    generalize hwb : wholeB FL (f + 1) = wb at hwh HsqI
    clear hwb
    go_wp2_with fail
    (with_reducible refine hwh.mono ?_)
    rintro e6 w6 ⟨rfl, h6, d6⟩
    have H6 := h6.keepW H5
    have D6 := D5.trans d6
    have HRd6 : Hid (RdF w6 (.slice va2 FL.length vc2) FL) := SL.hid (HRd5.out.keep (h6.to (emp_star _).symm))
    clear hwh h6 d6 H5 D5 HRd5
    cases wb
    ·have hq0 : sqI L = f := HsqI.out
     have hz6 : w6.heap[z]? = some (.cells #[.int .u32 0, .int .u64 0, .int .u64 0, .int .i64 0, .int .i64 0, .slice none 0 0] 86 (0, 0)) := (HX.out ▸ H6 : Sat w6 (_ * (_ * (_ * (_ * (pt z _ * F)))))).front5.heap
     have Hq := SL.hid hq0
     clear hq0 HsqI
     by_cases he : e = 4294967295
     ·have ho := HOn.out trivial (by unfold scanSt; rw [HeI.out, if_pos (.inl he)])
      have Ho := SL.hid ho
      subst he
      clear ho HO2 HOn HOs HRd6
      go_wp2_with (refine wpList_store_row rfl 86 (.tmp 6) (.tmp 83) rfl z #[.int .u32 0, .int .u64 0, .int .u64 0, .int .i64 0, .int .i64 0, .slice none 0 0] rfl rfl 86 #[.int .u32 0, .int .u64 0, .int .u64 0, .int .i64 0, .int .i64 0, .slice none 0 0] hz6 (st_six _ _ _ _ _ _ _ _) rfl st_one0 ?_)
      have H8 := ((HX.out ▸ H6 : Sat w6 (_ * (_ * (_ * (_ * (pt z _ * F)))))).front5).setRow (cs' := #[.int .u32 0, .int .u64 0, .int .u64 0, .int .i64 0, .int .i64 0, .slice none 0 0])
      refine bodyPost_ret (scan_results rfl rfl H8) rfl ?_
      rw [Ho.out]
      exact ⟨_, rfl, Sat.fact_iff.2 ⟨rfl, H8.right.right.right⟩, D6.setRow _ _⟩
     have he1 : (e == 4294967295) = false := by simpa using he
     by_cases hq : 281474976710655 ≤ f
     ·have ho := HOn.out trivial (by unfold scanSt; rw [Hq.out, if_pos (.inr hq)])
      have Ho := SL.hid ho
      clear ho HO2 HOn HOs HRd6
      go_wp2_with (refine wpList_store_row rfl 86 (.tmp 6) (.tmp 83) rfl z #[.int .u32 0, .int .u64 0, .int .u64 0, .int .i64 0, .int .i64 0, .slice none 0 0] rfl rfl 86 #[.int .u32 0, .int .u64 0, .int .u64 0, .int .i64 0, .int .i64 0, .slice none 0 0] hz6 (st_six _ _ _ _ _ _ _ _) rfl st_one0 ?_)
      have H8 := ((HX.out ▸ H6 : Sat w6 (_ * (_ * (_ * (_ * (pt z _ * F)))))).front5).setRow (cs' := #[.int .u32 0, .int .u64 0, .int .u64 0, .int .i64 0, .int .i64 0, .slice none 0 0])
      refine bodyPost_ret (scan_results rfl rfl H8) rfl ?_
      rw [Ho.out]
      exact ⟨_, rfl, Sat.fact_iff.2 ⟨rfl, H8.right.right.right⟩, D6.setRow _ _⟩
     have ho := HOs.out _ trivial (by unfold scanSt; rw [HeI.out, Hq.out, hFL2.out, if_neg (by rintro (h | h); exact he h; exact hq h)])
     have Ho := SL.hid ho
     have hwr : IntKind.u32.wrap (e + 1) = e + 1 := by rw [IntKind.wrap_u32]; omega
     have hrn := ringNew_any P 0 w6 Hb.out.1 (by have := Hb.out; omega)
     clear ho HO2 HOn HOs hz6
     go_wp2_with fail
     (with_reducible refine hrn.mono ?_)
     rintro e7 w7 ⟨r, rfl, h7, d7⟩
     have H7 := h7.under H6
     have H8 := H7.alloc (.cells #[.int .u32 (e + 1), .int .u64 (f + 1), .int .u64 f, .int .i64 0, .int .i64 0, .slice none 0 0] 86 (0, 0))
     have D8 := (D6.trans d7).alloc (.cells #[.int .u32 (e + 1), .int .u64 (f + 1), .int .u64 f, .int .i64 0, .int .i64 0, .slice none 0 0] 86 (0, 0))
     clear hrn h7 d7 H6 D6 H7 HRd6
     go_wp2_with fail
     generalize hw8 : w7.alloc (.cells #[.int .u32 (e + 1), .int .u64 (f + 1), .int .u64 f, .int .i64 0, .int .i64 0, .slice none 0 0] 86 (0, 0)) = w8 at *
     generalize w7.heap.size = s17 at *
     have hwh := where_any w8 (.slice va2 FL.length vc2) FL f B H8.front3.rds Hb.out.2.2.2 (fun x hx => ⟨(Hfd.out x (Hmem.out x hx)).ok, (Hfd.out x (Hmem.out x hx)).id⟩) (by omega)
     have hatl := whereL_len FL f B
     generalize hAT : whereL FL f B = AT at hwh hatl Ho
     have Hatl := SL.hid hatl
     clear hAT hw8 hatl
     (with_reducible refine hwh.mono ?_)
     rintro e9 w9 ⟨g, rfl, h9, d9⟩
     have H9 := h9.under H8
     have D9 := D8.trans d9
     have q5 : w9.cell? ⟨s17, 5, none⟩ = some (.slice none 0 0) := H9.front2.cell 5
     have f5 : w9.frozen? ⟨s17, 5, none⟩ = false := H9.front2.frozen 5
     have H10 := H9.front2.setCell 5 (.slice (some ⟨g, 0, none⟩) AT.length AT.length)
     have D10 := D9.setCell ⟨s17, 5, none⟩ (.slice (some ⟨g, 0, none⟩) AT.length AT.length)
     simp only [List.setIfInBounds_toArray, List.set_cons_succ, List.set_cons_zero] at H10
     clear hwh h9 d9 H8 D8 H9 D9
     go_wp2_with fail
     generalize w9.setCell ⟨s17, 5, none⟩ (.slice (some ⟨g, 0, none⟩) AT.length AT.length) = w10 at *
     have hhd := head_any w10 (.slice va2 FL.length vc2) FL f r (List.replicate P 0) _ H10.front4.rds H10.front3 (by rw [List.length_replicate]; exact Hb.out.1) (by rw [List.length_replicate]; have := Hb.out; omega) (fun x hx => ⟨(Hfd.out x (Hmem.out x hx)).ok, by have := (Hfd.out x (Hmem.out x hx)).place; have := Hb.out; omega⟩) (by omega)
     rw [List.length_replicate] at hhd
     generalize headI FL f P = hd at hhd Ho
     (with_reducible refine hhd.mono ?_)
     rintro e11 w11 ⟨rfl, h11, d11⟩
     have H11 := h11.keepW H10
     have D11 := D10.trans d11
     have q3 : w11.cell? ⟨s17, 3, none⟩ = some (.int .i64 0) := H11.cell 3
     have f3 : w11.frozen? ⟨s17, 3, none⟩ = false := H11.frozen 3
     have H12 := H11.setCell 3 (.int .i64 hd)
     have D12 := D11.setCell ⟨s17, 3, none⟩ (.int .i64 hd)
     simp only [List.setIfInBounds_toArray, List.set_cons_succ, List.set_cons_zero] at H12
     have p3 : (w11.setCell ⟨s17, 3, none⟩ (.int .i64 hd)).cell? ⟨s17, 3, none⟩ = some (.int .i64 hd) := H12.cell 3
     have p5 : (w11.setCell ⟨s17, 3, none⟩ (.int .i64 hd)).cell? ⟨s17, 5, none⟩ = some (.slice (some ⟨g, 0, none⟩) AT.length AT.length) := H12.cell 5
     have hus := used_any _ g AT.length AT hd r (List.replicate P 0) _ (H12.front2.to (by ac_rfl : _ = pt g _ * (ringA r _ * (pt s17 _ * (sl 123 8 (.slice va2 FL.length vc2) FL.length (flatF FL) * X))))) (by rw [List.length_replicate]; exact Hb.out.1) (by rw [List.length_replicate]; have := Hb.out; omega) (by rw [Hatl.out]; have := Hb.out; omega)
     rw [List.length_replicate] at hus
     clear hhd h11 d11 H10 D10 H11 D11 q5 f5
     go_wp2_with fail
     generalize w11.setCell ⟨s17, 3, none⟩ (.int .i64 hd) = w12 at *
     generalize usedI AT hd P = us at hus Ho
     (with_reducible refine hus.mono ?_)
     rintro e13 w13 ⟨rfl, rfl⟩
     have q4 : w12.cell? ⟨s17, 4, none⟩ = some (.int .i64 0) := H12.cell 4
     have f4 : w12.frozen? ⟨s17, 4, none⟩ = false := H12.frozen 4
     have H13 := H12.setCell 4 (.int .i64 us)
     have D13 := D12.setCell ⟨s17, 4, none⟩ (.int .i64 us)
     simp only [List.setIfInBounds_toArray, List.set_cons_succ, List.set_cons_zero] at H13
     have r0 : (w12.setCell ⟨s17, 4, none⟩ (.int .i64 us)).cell? ⟨s17, 0, none⟩ = some (.int .u32 (e + 1)) := H13.cell 0
     have r1 : (w12.setCell ⟨s17, 4, none⟩ (.int .i64 us)).cell? ⟨s17, 1, none⟩ = some (.int .u64 (f + 1)) := H13.cell 1
     have r2 : (w12.setCell ⟨s17, 4, none⟩ (.int .i64 us)).cell? ⟨s17, 2, none⟩ = some (.int .u64 f) := H13.cell 2
     have r3 : (w12.setCell ⟨s17, 4, none⟩ (.int .i64 us)).cell? ⟨s17, 3, none⟩ = some (.int .i64 hd) := H13.cell 3
     have r4 : (w12.setCell ⟨s17, 4, none⟩ (.int .i64 us)).cell? ⟨s17, 4, none⟩ = some (.int .i64 us) := H13.cell 4
     have r5 : (w12.setCell ⟨s17, 4, none⟩ (.int .i64 us)).cell? ⟨s17, 5, none⟩ = some (.slice (some ⟨g, 0, none⟩) AT.length AT.length) := H13.cell 5
     have H14 : Sat (w12.setCell ⟨s17, 4, none⟩ (.int .i64 us)) (pt z (.cells #[.int .u32 0, .int .u64 0, .int .u64 0, .int .i64 0, .int .i64 0, .slice none 0 0] 86 (0, 0)) * (pt g (.cells (ints AT) 3 (0, 0)) * (devA S d D2 * (pool S * F)))) := by
      have h := H13
      rw [HX.out] at h
      exact (h.to (by ac_rfl : _ = (pt s17 _ * (ringA r _ * (sl 123 8 (.slice va2 FL.length vc2) FL.length (flatF FL) * sl 123 8 (.slice va L.length vc) L.length (flatF L)))) * (pt z (.cells #[.int .u32 0, .int .u64 0, .int .u64 0, .int .i64 0, .int .i64 0, .slice none 0 0] 86 (0, 0)) * (pt g (.cells (ints AT) 3 (0, 0)) * (devA S d D2 * (pool S * F)))))).right
     have hz14 := H14.heap
     have H15 := H14.setRow (cs' := #[.int .u32 (e + 1), .int .u64 (f + 1), .int .u64 f, .int .i64 hd, .int .i64 us, .slice (some ⟨g, 0, none⟩) AT.length AT.length])
     have H15h := SL.hid H15
     clear hus H12 D12 H13 p3 p5 q3 f3 H14 H15
     go_wp2_with (refine wpList_store_row rfl 86 (.tmp 6) (.tmp 109) rfl z #[.int .u32 (e + 1), .int .u64 (f + 1), .int .u64 f, .int .i64 hd, .int .i64 us, .slice (some ⟨g, 0, none⟩) AT.length AT.length] rfl rfl 86 #[.int .u32 0, .int .u64 0, .int .u64 0, .int .i64 0, .int .i64 0, .slice none 0 0] hz14 (st_six _ _ _ _ _ _ _ _) rfl (st_one _ _ _ _ _ _ _ _) ?_)
     refine bodyPost_ret (scan_results rfl rfl H15h.out) rfl ?_
     rw [Ho.out]
     exact ⟨_, rfl, (Sat.ex_star_iff.2 ⟨g, (Sat.fact_iff.2 ⟨rfl, H15h.out.right⟩ : Sat _ (fact _ * _)).to (star_assoc _ _ _).symm⟩ : Sat _ (ex _ * _)), D13.setRow _ _⟩
    ·have hq0 : sqI L = (f + 1) := HsqI.out
     have hz6 : w6.heap[z]? = some (.cells #[.int .u32 0, .int .u64 0, .int .u64 0, .int .i64 0, .int .i64 0, .slice none 0 0] 86 (0, 0)) := (HX.out ▸ H6 : Sat w6 (_ * (_ * (_ * (_ * (pt z _ * F)))))).front5.heap
     have Hq := SL.hid hq0
     clear hq0 HsqI
     by_cases he : e = 4294967295
     ·have ho := HOn.out trivial (by unfold scanSt; rw [HeI.out, if_pos (.inl he)])
      have Ho := SL.hid ho
      subst he
      clear ho HO2 HOn HOs HRd6
      go_wp2_with (refine wpList_store_row rfl 86 (.tmp 6) (.tmp 83) rfl z #[.int .u32 0, .int .u64 0, .int .u64 0, .int .i64 0, .int .i64 0, .slice none 0 0] rfl rfl 86 #[.int .u32 0, .int .u64 0, .int .u64 0, .int .i64 0, .int .i64 0, .slice none 0 0] hz6 (st_six _ _ _ _ _ _ _ _) rfl st_one0 ?_)
      have H8 := ((HX.out ▸ H6 : Sat w6 (_ * (_ * (_ * (_ * (pt z _ * F)))))).front5).setRow (cs' := #[.int .u32 0, .int .u64 0, .int .u64 0, .int .i64 0, .int .i64 0, .slice none 0 0])
      refine bodyPost_ret (scan_results rfl rfl H8) rfl ?_
      rw [Ho.out]
      exact ⟨_, rfl, Sat.fact_iff.2 ⟨rfl, H8.right.right.right⟩, D6.setRow _ _⟩
     have he1 : (e == 4294967295) = false := by simpa using he
     by_cases hq : 281474976710655 ≤ (f + 1)
     ·have ho := HOn.out trivial (by unfold scanSt; rw [Hq.out, if_pos (.inr hq)])
      have Ho := SL.hid ho
      clear ho HO2 HOn HOs HRd6
      go_wp2_with (refine wpList_store_row rfl 86 (.tmp 6) (.tmp 83) rfl z #[.int .u32 0, .int .u64 0, .int .u64 0, .int .i64 0, .int .i64 0, .slice none 0 0] rfl rfl 86 #[.int .u32 0, .int .u64 0, .int .u64 0, .int .i64 0, .int .i64 0, .slice none 0 0] hz6 (st_six _ _ _ _ _ _ _ _) rfl st_one0 ?_)
      have H8 := ((HX.out ▸ H6 : Sat w6 (_ * (_ * (_ * (_ * (pt z _ * F)))))).front5).setRow (cs' := #[.int .u32 0, .int .u64 0, .int .u64 0, .int .i64 0, .int .i64 0, .slice none 0 0])
      refine bodyPost_ret (scan_results rfl rfl H8) rfl ?_
      rw [Ho.out]
      exact ⟨_, rfl, Sat.fact_iff.2 ⟨rfl, H8.right.right.right⟩, D6.setRow _ _⟩
     have ho := HOs.out _ trivial (by unfold scanSt; rw [HeI.out, Hq.out, hFL2.out, if_neg (by rintro (h | h); exact he h; exact hq h)])
     have Ho := SL.hid ho
     have hwr : IntKind.u32.wrap (e + 1) = e + 1 := by rw [IntKind.wrap_u32]; omega
     have hrn := ringNew_any P 0 w6 Hb.out.1 (by have := Hb.out; omega)
     clear ho HO2 HOn HOs hz6
     go_wp2_with fail
     (with_reducible refine hrn.mono ?_)
     rintro e7 w7 ⟨r, rfl, h7, d7⟩
     have H7 := h7.under H6
     have H8 := H7.alloc (.cells #[.int .u32 (e + 1), .int .u64 ((f + 1) + 1), .int .u64 (f + 1), .int .i64 0, .int .i64 0, .slice none 0 0] 86 (0, 0))
     have D8 := (D6.trans d7).alloc (.cells #[.int .u32 (e + 1), .int .u64 ((f + 1) + 1), .int .u64 (f + 1), .int .i64 0, .int .i64 0, .slice none 0 0] 86 (0, 0))
     clear hrn h7 d7 H6 D6 H7 HRd6
     go_wp2_with fail
     generalize hw8 : w7.alloc (.cells #[.int .u32 (e + 1), .int .u64 ((f + 1) + 1), .int .u64 (f + 1), .int .i64 0, .int .i64 0, .slice none 0 0] 86 (0, 0)) = w8 at *
     generalize w7.heap.size = s17 at *
     have hwh := where_any w8 (.slice va2 FL.length vc2) FL (f + 1) B H8.front3.rds Hb.out.2.2.2 (fun x hx => ⟨(Hfd.out x (Hmem.out x hx)).ok, (Hfd.out x (Hmem.out x hx)).id⟩) (by omega)
     have hatl := whereL_len FL (f + 1) B
     generalize hAT : whereL FL (f + 1) B = AT at hwh hatl Ho
     have Hatl := SL.hid hatl
     clear hAT hw8 hatl
     (with_reducible refine hwh.mono ?_)
     rintro e9 w9 ⟨g, rfl, h9, d9⟩
     have H9 := h9.under H8
     have D9 := D8.trans d9
     have q5 : w9.cell? ⟨s17, 5, none⟩ = some (.slice none 0 0) := H9.front2.cell 5
     have f5 : w9.frozen? ⟨s17, 5, none⟩ = false := H9.front2.frozen 5
     have H10 := H9.front2.setCell 5 (.slice (some ⟨g, 0, none⟩) AT.length AT.length)
     have D10 := D9.setCell ⟨s17, 5, none⟩ (.slice (some ⟨g, 0, none⟩) AT.length AT.length)
     simp only [List.setIfInBounds_toArray, List.set_cons_succ, List.set_cons_zero] at H10
     clear hwh h9 d9 H8 D8 H9 D9
     go_wp2_with fail
     generalize w9.setCell ⟨s17, 5, none⟩ (.slice (some ⟨g, 0, none⟩) AT.length AT.length) = w10 at *
     have hhd := head_any w10 (.slice va2 FL.length vc2) FL (f + 1) r (List.replicate P 0) _ H10.front4.rds H10.front3 (by rw [List.length_replicate]; exact Hb.out.1) (by rw [List.length_replicate]; have := Hb.out; omega) (fun x hx => ⟨(Hfd.out x (Hmem.out x hx)).ok, by have := (Hfd.out x (Hmem.out x hx)).place; have := Hb.out; omega⟩) (by omega)
     rw [List.length_replicate] at hhd
     generalize headI FL (f + 1) P = hd at hhd Ho
     (with_reducible refine hhd.mono ?_)
     rintro e11 w11 ⟨rfl, h11, d11⟩
     have H11 := h11.keepW H10
     have D11 := D10.trans d11
     have q3 : w11.cell? ⟨s17, 3, none⟩ = some (.int .i64 0) := H11.cell 3
     have f3 : w11.frozen? ⟨s17, 3, none⟩ = false := H11.frozen 3
     have H12 := H11.setCell 3 (.int .i64 hd)
     have D12 := D11.setCell ⟨s17, 3, none⟩ (.int .i64 hd)
     simp only [List.setIfInBounds_toArray, List.set_cons_succ, List.set_cons_zero] at H12
     have p3 : (w11.setCell ⟨s17, 3, none⟩ (.int .i64 hd)).cell? ⟨s17, 3, none⟩ = some (.int .i64 hd) := H12.cell 3
     have p5 : (w11.setCell ⟨s17, 3, none⟩ (.int .i64 hd)).cell? ⟨s17, 5, none⟩ = some (.slice (some ⟨g, 0, none⟩) AT.length AT.length) := H12.cell 5
     have hus := used_any _ g AT.length AT hd r (List.replicate P 0) _ (H12.front2.to (by ac_rfl : _ = pt g _ * (ringA r _ * (pt s17 _ * (sl 123 8 (.slice va2 FL.length vc2) FL.length (flatF FL) * X))))) (by rw [List.length_replicate]; exact Hb.out.1) (by rw [List.length_replicate]; have := Hb.out; omega) (by rw [Hatl.out]; have := Hb.out; omega)
     rw [List.length_replicate] at hus
     clear hhd h11 d11 H10 D10 H11 D11 q5 f5
     go_wp2_with fail
     generalize w11.setCell ⟨s17, 3, none⟩ (.int .i64 hd) = w12 at *
     generalize usedI AT hd P = us at hus Ho
     (with_reducible refine hus.mono ?_)
     rintro e13 w13 ⟨rfl, rfl⟩
     have q4 : w12.cell? ⟨s17, 4, none⟩ = some (.int .i64 0) := H12.cell 4
     have f4 : w12.frozen? ⟨s17, 4, none⟩ = false := H12.frozen 4
     have H13 := H12.setCell 4 (.int .i64 us)
     have D13 := D12.setCell ⟨s17, 4, none⟩ (.int .i64 us)
     simp only [List.setIfInBounds_toArray, List.set_cons_succ, List.set_cons_zero] at H13
     have r0 : (w12.setCell ⟨s17, 4, none⟩ (.int .i64 us)).cell? ⟨s17, 0, none⟩ = some (.int .u32 (e + 1)) := H13.cell 0
     have r1 : (w12.setCell ⟨s17, 4, none⟩ (.int .i64 us)).cell? ⟨s17, 1, none⟩ = some (.int .u64 ((f + 1) + 1)) := H13.cell 1
     have r2 : (w12.setCell ⟨s17, 4, none⟩ (.int .i64 us)).cell? ⟨s17, 2, none⟩ = some (.int .u64 (f + 1)) := H13.cell 2
     have r3 : (w12.setCell ⟨s17, 4, none⟩ (.int .i64 us)).cell? ⟨s17, 3, none⟩ = some (.int .i64 hd) := H13.cell 3
     have r4 : (w12.setCell ⟨s17, 4, none⟩ (.int .i64 us)).cell? ⟨s17, 4, none⟩ = some (.int .i64 us) := H13.cell 4
     have r5 : (w12.setCell ⟨s17, 4, none⟩ (.int .i64 us)).cell? ⟨s17, 5, none⟩ = some (.slice (some ⟨g, 0, none⟩) AT.length AT.length) := H13.cell 5
     have H14 : Sat (w12.setCell ⟨s17, 4, none⟩ (.int .i64 us)) (pt z (.cells #[.int .u32 0, .int .u64 0, .int .u64 0, .int .i64 0, .int .i64 0, .slice none 0 0] 86 (0, 0)) * (pt g (.cells (ints AT) 3 (0, 0)) * (devA S d D2 * (pool S * F)))) := by
      have h := H13
      rw [HX.out] at h
      exact (h.to (by ac_rfl : _ = (pt s17 _ * (ringA r _ * (sl 123 8 (.slice va2 FL.length vc2) FL.length (flatF FL) * sl 123 8 (.slice va L.length vc) L.length (flatF L)))) * (pt z (.cells #[.int .u32 0, .int .u64 0, .int .u64 0, .int .i64 0, .int .i64 0, .slice none 0 0] 86 (0, 0)) * (pt g (.cells (ints AT) 3 (0, 0)) * (devA S d D2 * (pool S * F)))))).right
     have hz14 := H14.heap
     have H15 := H14.setRow (cs' := #[.int .u32 (e + 1), .int .u64 ((f + 1) + 1), .int .u64 (f + 1), .int .i64 hd, .int .i64 us, .slice (some ⟨g, 0, none⟩) AT.length AT.length])
     have H15h := SL.hid H15
     clear hus H12 D12 H13 p3 p5 q3 f3 H14 H15
     go_wp2_with (refine wpList_store_row rfl 86 (.tmp 6) (.tmp 109) rfl z #[.int .u32 (e + 1), .int .u64 ((f + 1) + 1), .int .u64 (f + 1), .int .i64 hd, .int .i64 us, .slice (some ⟨g, 0, none⟩) AT.length AT.length] rfl rfl 86 #[.int .u32 0, .int .u64 0, .int .u64 0, .int .i64 0, .int .i64 0, .slice none 0 0] hz14 (st_six _ _ _ _ _ _ _ _) rfl (st_one _ _ _ _ _ _ _ _) ?_)
     refine bodyPost_ret (scan_results rfl rfl H15h.out) rfl ?_
     rw [Ho.out]
     exact ⟨_, rfl, (Sat.ex_star_iff.2 ⟨g, (Sat.fact_iff.2 ⟨rfl, H15h.out.right⟩ : Sat _ (fact _ * _)).to (star_assoc _ _ _).symm⟩ : Sat _ (ex _ * _)), D13.setRow _ _⟩
 ·have Ho := SL.hid (HO2.out (by decide))
  have h3 : Sat w2 (pt z (.cells #[.int .u32 0, .int .u64 0, .int .u64 0, .int .i64 0, .int .i64 0, .slice none 0 0] 86 (0, 0)) * (devA S d D2 * (pool S * F))) := h2.right.front3.to (by ac_rfl)
  have hz6 : w2.heap[z]? = some (.cells #[.int .u32 0, .int .u64 0, .int .u64 0, .int .i64 0, .int .i64 0, .slice none 0 0] 86 (0, 0)) := h3.heap
  have H8 := h3.setRow (cs' := #[.int .u32 0, .int .u64 0, .int .u64 0, .int .i64 0, .int .i64 0, .slice none 0 0])
  clear h2 d2 hs HO2 HOn HOs
  go_wp2_with (refine wpList_store_row rfl 86 (.tmp 6) (.tmp 49) rfl z #[.int .u32 0, .int .u64 0, .int .u64 0, .int .i64 0, .int .i64 0, .slice none 0 0] rfl rfl 86 #[.int .u32 0, .int .u64 0, .int .u64 0, .int .i64 0, .int .i64 0, .slice none 0 0] hz6 (st_six _ _ _ _ _ _ _ _) rfl st_one0 ?_)
  refine bodyPost_ret (scan_results rfl rfl H8) rfl ?_
  rw [Ho.out]
  exact ⟨_, rfl, Sat.fact_iff.2 ⟨rfl, H8.right⟩, d3.setRow _ _⟩
end Go.Proofs.YtdafdidmbeecfaaGreatDoor
namespace Go.Proofs.YtdafdidmbeecfaaGreatDoor
set_option linter.unusedVariables false
set_option linter.unusedSimpArgs false
open Go.RowKit Go.SL
def fndsN (B : Int) (D : Dev) : Nat → List Fnd
 | 0 => []
 | k + 1 => if (D.tells ((k : Int) + 1)).1 = 0 then fndAdd B k (fndsN B D k) (decodeF (D.tells ((k : Int) + 1)).2) else fndsN B D k
theorem fndsN_succ (B : Int) (D : Dev) (k : Nat) : fndsN B D (k + 1) = if (D.tells ((k : Int) + 1)).1 = 0 then fndAdd B k (fndsN B D k) (decodeF (D.tells ((k : Int) + 1)).2) else fndsN B D k := rfl
theorem tells_code (D : Dev) (a : Int) : (D.tells a).1 = 0 ∨ (D.tells a).1 = 3 := by
 unfold Dev.tells
 split
 ·exact .inl rfl
 ·split
  ·exact .inr rfl
  ·exact .inl rfl
theorem leV_zs (n : Nat) (j : Nat) : leV (zs n) j = 0 := by
 induction j with
 | zero => rfl
 | succ j ih =>
  rw [leV, ih]
  have : (zs n).getD j 0 = 0 := by
   unfold zs
   rw [List.getD, List.getElem?_replicate]
   split <;> rfl
  rw [this]; simp
theorem zs_drop (n k : Nat) : (zs n).drop k = zs (n - k) := by simp [zs]
theorem set_ep (t : Tg) (n : Int) (k : Nat) (h : k ≠ 1) : (t.set n k).ep = t.ep := by
 unfold Tg.set; split <;> first | rfl | exact absurd rfl h
theorem decT_zs (n : Nat) (k : Nat) : (decT (zs n) k).ep = 0 := by
 induction k with
 | zero => rfl
 | succ k ih =>
  rw [decT]
  by_cases h : k = 1
  ·subst h
   rw [zs_drop, leV_zs]; rfl
  ·rw [set_ep _ _ _ h]; exact ih
theorem decodeF_zs (n : Nat) : decodeF (zs n) = none := by
 have h := decT_zs n 9
 unfold decodeF
 generalize decT (zs n) 9 = t at *
 rw [if_neg]
 rintro ⟨h1, _⟩
 have := (ok_range h1).1
 omega
theorem tells_fresh (n : Nat) (a : Int) : (Dev.fresh n).tells a = (0, zs 512) := by
 unfold Dev.tells Dev.fresh
 simp only [newest_nil]
 have : (kget ([] : List (Int × Unit)) a).isSome = false := rfl
 rw [this]
 have hz : (List.replicate n ([] : List UInt8)).getD a.toNat [] = [] := by
  rw [List.getD, List.getElem?_replicate]; split <;> rfl
 rw [hz]
 show ((0 : Int), ([] ++ zs 512).take 512) = (0, zs 512)
 rw [List.nil_append, List.take_of_length_le (by rw [length_zs]; exact Nat.le_refl _)]
theorem fresh_ok (n : Nat) (h : n ≤ 20000) : (Dev.fresh n).Ok := ⟨by simp [Dev.fresh]; omega, by simp [Dev.fresh], by simp [Dev.fresh], by simp [Dev.fresh]⟩
theorem scan_any (w : World) (S : Hp) (d : Nat) (D : Dev) (P B : Int) (F : Assn) (h : Sat w (devA S d D * (pool S * F))) (hD : D.Ok) :
  Calls Tryz.prog 43 #[ptV d, .int .i64 P, .int .i64 B] w (ScanQ S d (scanR D P B) F w) := by
 by_cases hg : 1 ≤ P ∧ P ≤ (D.sec.length : Int) - 1 ∧ 1 ≤ B ∧ B ≤ 3840
 ·obtain ⟨h1, h2, h3, h4⟩ := hg
  obtain ⟨p, rfl⟩ := Int.eq_ofNat_of_zero_le (by omega : 0 ≤ P)
  obtain ⟨b, rfl⟩ := Int.eq_ofNat_of_zero_le (by omega : 0 ≤ B)
  refine scan_good w S d D p b F h hD (by omega) (by omega) (by omega) (by omega) _ rfl _ ?_ ?_ ?_
  ·intro hc
   unfold scanR
   rw [if_pos ⟨h1, h2, h3, h4⟩, Int.toNat_natCast, if_neg hc]
  ·intro hc hn
   unfold scanR
   rw [if_pos ⟨h1, h2, h3, h4⟩, Int.toNat_natCast, Int.toNat_natCast, if_pos hc, hn]
  ·intro s hc hn
   unfold scanR
   rw [if_pos ⟨h1, h2, h3, h4⟩, Int.toNat_natCast, Int.toNat_natCast, if_pos hc, hn]
 ·have e : scanR D P B = ((1 : Int), none, D) := by unfold scanR; rw [if_neg hg]
  rw [e]
  exact scan_bad w S d D P B F h hD hg
end Go.Proofs.YtdafdidmbeecfaaGreatDoor
namespace Go.Proofs.YtdafdidmbeecfaaGreatDoor
set_option linter.unusedVariables false
set_option linter.unusedSimpArgs false
open Go.RowKit Go.SL
theorem stSome {w : World} {v : Value} {s : Js} {F : Assn} (h : Sat w (stA v (some s) * F)) : ∃ g, v = s.v (.slice (some ⟨g, 0, none⟩) s.at_.length s.at_.length) ∧ Sat w (pt g (.cells (ints s.at_) 3 (0, 0)) * F) := by
 obtain ⟨g, h⟩ := Sat.ex_star_iff.1 h
 exact ⟨g, Sat.fact_iff.1 (h.to (star_assoc _ _ _))⟩
theorem stNone {w : World} {v : Value} {F : Assn} (h : Sat w (stA v none * F)) : v = noSt ∧ Sat w F := Sat.fact_iff.1 h
end Go.Proofs.YtdafdidmbeecfaaGreatDoor
end
section
namespace Go.SL
set_option linter.unusedVariables false
set_option linter.unusedSimpArgs false
open Go.RowKit
theorem startsL_get (L : List Fnd) (e : Int) : (SU.kget (startsL L) e = none → ∀ x ∈ L, x.1.ep ≠ e) ∧
  (∀ s, SU.kget (startsL L) e = some s → (∃ x ∈ L, x.1.ep = e ∧ x.1.st = s) ∧ ∀ x ∈ L, x.1.ep = e → s ≤ x.1.st) := by
 suffices h : ∀ (L : List Fnd) (M : Ms) (Q : List Fnd), ((SU.kget M e = none → ∀ x ∈ Q, x.1.ep ≠ e) ∧ (∀ s, SU.kget M e = some s → (∃ x ∈ Q, x.1.ep = e ∧ x.1.st = s) ∧ ∀ x ∈ Q, x.1.ep = e → s ≤ x.1.st)) →
   ((SU.kget (L.foldl tstart M) e = none → ∀ x ∈ Q ++ L, x.1.ep ≠ e) ∧ (∀ s, SU.kget (L.foldl tstart M) e = some s → (∃ x ∈ Q ++ L, x.1.ep = e ∧ x.1.st = s) ∧ ∀ x ∈ Q ++ L, x.1.ep = e → s ≤ x.1.st)) by
  have := h L [] [] ⟨fun _ x hx => by simp at hx, fun s hs => by simp [SU.kget] at hs⟩
  simpa [startsL] using this
 intro L
 induction L with
 | nil => intro M Q h; simpa using h
 | cons x L ih =>
  intro M Q h
  have key : (SU.kget (tstart M x) e = none → ∀ y ∈ Q ++ [x], y.1.ep ≠ e) ∧ (∀ s, SU.kget (tstart M x) e = some s → (∃ y ∈ Q ++ [x], y.1.ep = e ∧ y.1.st = s) ∧ ∀ y ∈ Q ++ [x], y.1.ep = e → s ≤ y.1.st) := by
   obtain ⟨h1, h2⟩ := h
   by_cases he : e = x.1.ep
   ·subst he
    unfold tstart
    cases hk : SU.kget M x.1.ep with
    | none =>
     simp only [SU.kget_upd, if_true]
     refine ⟨fun h => (by cases h), fun s hs => ?_⟩
     have hs' : x.1.st = s := by simpa using hs
     rw [← hs']
     exact ⟨⟨x, by simp, rfl, rfl⟩, fun y hy hy2 => by
      rcases List.mem_append.1 hy with h | h
      ·exact absurd hy2 (h1 hk y h)
      ·obtain rfl : y = x := by simpa using h
       exact Int.le_refl _⟩
    | some s0 =>
     obtain ⟨⟨z, hz, hz1, hz2⟩, hle⟩ := h2 s0 hk
     simp only
     by_cases hlt : x.1.st < s0
     ·rw [if_pos hlt]
      simp only [SU.kget_upd, if_true]
      refine ⟨fun h => (by cases h), fun s hs => ?_⟩
      have hs' : x.1.st = s := by simpa using hs
      rw [← hs']
      exact ⟨⟨x, by simp, rfl, rfl⟩, fun y hy hy2 => by
       rcases List.mem_append.1 hy with h | h
       ·have := hle y h hy2; omega
       ·obtain rfl : y = x := by simpa using h
        exact Int.le_refl _⟩
     ·rw [if_neg hlt]
      refine ⟨fun h => (by rw [hk] at h; cases h), fun s hs => ?_⟩
      obtain rfl : s0 = s := by rw [hk] at hs; simpa using hs
      exact ⟨⟨z, by simp [hz], hz1, hz2⟩, fun y hy hy2 => by
       rcases List.mem_append.1 hy with h | h
       ·exact hle y h hy2
       ·obtain rfl : y = x := by simpa using h
        omega⟩
   ·have hsame : SU.kget (tstart M x) e = SU.kget M e := by
     unfold tstart
     cases SU.kget M x.1.ep with
     | none => simp only [SU.kget_upd, if_neg he]
     | some s0 => simp only; split <;> simp only [SU.kget_upd, if_neg he]
    rw [hsame]
    refine ⟨fun h y hy => ?_, fun s hs => ?_⟩
    ·rcases List.mem_append.1 hy with h' | h'
     ·exact h1 h y h'
     ·obtain rfl : y = x := by simpa using h'
      exact fun h => he h.symm
    ·obtain ⟨⟨z, hz, hz1, hz2⟩, hle⟩ := h2 s hs
     exact ⟨⟨z, by simp [hz], hz1, hz2⟩, fun y hy hy2 => by
      rcases List.mem_append.1 hy with h' | h'
      ·exact hle y h' hy2
      ·obtain rfl : y = x := by simpa using h'
       exact absurd hy2.symm he⟩
  have := ih (tstart M x) (Q ++ [x]) key
  simpa using this
def minS (M : Ms) : List Int → Int
 | [] => u64max
 | e :: l => min (minS M l) ((SU.kget M e).getD 0)
theorem minS_lt (M : Ms) (q : Int) : ∀ l, q < minS M l ↔ q < u64max ∧ ∀ e ∈ l, q < (SU.kget M e).getD 0
 | [] => by simp [minS]
 | e :: l => by
  have := minS_lt M q l
  simp only [minS, List.mem_cons, forall_eq_or_imp]
  rw [show (q < min (minS M l) ((SU.kget M e).getD 0)) ↔ (q < minS M l ∧ q < (SU.kget M e).getD 0) by omega, this]
  exact ⟨fun h => ⟨h.1.1, h.2, h.1.2⟩, fun h => ⟨⟨h.1, h.2.2⟩, h.2.1⟩⟩
def backE (s : Ms × Int) (e : Int) : Ms × Int := (SU.upd s.1 e s.2, min s.2 ((SU.kget s.1 e).getD 0))
theorem idx_snd (K : List Int) : (idx K).map Prod.snd = K := by
 apply List.ext_getElem
 ·simp [idx]
 ·intro i h1 h2
  simp [idx, List.getD, List.getElem?_eq_getElem h2]
theorem ebk_eq (K : List Int) (M : Ms) : ebk K M = K.foldr (fun e s => backE s e) (M, u64max) := by
 rw [← List.foldl_reverse]
 unfold ebk
 conv => rhs; rw [← idx_snd K, ← List.map_reverse, List.foldl_map]
 rfl
theorem ebk_facts (M : Ms) : ∀ K : List Int, K.Nodup → (ebk K M).2 = minS M K ∧ (∀ e, e ∉ K → SU.kget (ebk K M).1 e = SU.kget M e) ∧ ∀ K1 e K2, K = K1 ++ e :: K2 → SU.kget (ebk K M).1 e = some (minS M K2)
 | [], _ => ⟨rfl, fun _ _ => rfl, fun K1 e K2 h => by simp at h⟩
 | k :: K, h => by
  obtain ⟨hk, hn⟩ := List.nodup_cons.1 h
  obtain ⟨h1, h2, h3⟩ := ebk_facts M K hn
  have hs : ebk (k :: K) M = backE (ebk K M) k := by rw [ebk_eq, ebk_eq, List.foldr_cons]
  rw [hs]
  refine ⟨?_, fun e he => ?_, fun K1 e K2 hK => ?_⟩
  ·simp only [backE, minS, h1, h2 k hk]
  ·simp only [List.mem_cons, not_or] at he
   simp only [backE, SU.kget_upd, if_neg he.1, h2 e he.2]
  ·cases K1 with
   | nil =>
    simp only [List.nil_append, List.cons.injEq] at hK
    obtain ⟨rfl, rfl⟩ := hK
    simp only [backE, SU.kget_upd, if_true, h1]
   | cons a K1 =>
    simp only [List.cons_append, List.cons.injEq] at hK
    obtain ⟨rfl, hK2⟩ := hK
    have hne : ¬ e = k := fun h => hk (by rw [hK2, ← h]; simp)
    simp only [backE, SU.kget_upd, if_neg hne]
    exact h3 K1 e K2 hK2
theorem startsL_nodup (L : List Fnd) : ((startsL L).map Prod.fst).Nodup := by
 suffices h : ∀ (L : List Fnd) (M : Ms), (M.map Prod.fst).Nodup → ((L.foldl tstart M).map Prod.fst).Nodup from h L [] List.nodup_nil
 intro L
 induction L with
 | nil => intro M h; exact h
 | cons x L ih =>
  intro M h
  refine ih _ ?_
  unfold tstart
  cases SU.kget M x.1.ep with
  | none => exact SU.nodup_upd h _ _
  | some s => simp only; split; exact SU.nodup_upd h _ _; exact h
def staleB (L : List Fnd) (t : Tg) : Bool := L.any fun x => decide (t.ep < x.1.ep) && decide (x.1.st ≤ t.sq)
end Go.SL
namespace Go.Proofs.YtdafdidmbeecfaaGreatDoor
set_option linter.unusedVariables false
set_option linter.unusedSimpArgs false
open Go.RowKit Go.SL
theorem freshL_eq (L : List Fnd) (hq : ∀ x ∈ L, x.1.sq < u64max) : freshL L = L.filter fun x => !staleB L x.1 := by
 unfold freshL
 refine List.filter_congr fun x hx => ?_
 have hnd := startsL_nodup L
 have hperm : (keysL L).Perm ((startsL L).map Prod.fst) := List.mergeSort_perm _ _
 have hKn : (keysL L).Nodup := hperm.nodup_iff.2 hnd
 have hsort : (keysL L).Pairwise fun a b => a ≤ b := by
  have := List.pairwise_mergeSort (le := fun x y : Int => decide (x ≤ y)) (fun a b c h1 h2 => by simp at *; omega) (fun a b => by simp; omega) ((startsL L).map Prod.fst)
  exact this.imp (by intro a b h; simpa using h)
 have hmem : ∀ e, e ∈ keysL L ↔ SU.kget (startsL L) e ≠ none := fun e => by
  rw [hperm.mem_iff]
  rw [Ne, SU.look_none]; simp
 have hxk : x.1.ep ∈ keysL L := (hmem _).2 fun h => (startsL_get L x.1.ep).1 h x hx rfl
 obtain ⟨K1, K2, hK⟩ := List.append_of_mem hxk
 obtain ⟨f1, f2, f3⟩ := ebk_facts (startsL L) (keysL L) hKn
 have hg := f3 K1 x.1.ep K2 hK
 unfold tkeep
 rw [hg, Option.getD_some]
 rw [hK] at hsort hKn
 have hgt : ∀ e, e ∈ K2 ↔ (e ∈ keysL L ∧ x.1.ep < e) := fun e => by
  rw [hK]
  obtain ⟨p1, p2, p3⟩ := List.pairwise_append.1 hsort
  obtain ⟨n1, n2, n3⟩ := List.nodup_append.1 hKn
  obtain ⟨p4, p5⟩ := List.pairwise_cons.1 p2
  obtain ⟨n4, n5⟩ := List.nodup_cons.1 n2
  constructor
  ·intro he
   have := p4 e he
   have hne : e ≠ x.1.ep := fun h => n4 (h ▸ he)
   exact ⟨by simp [he], by omega⟩
  ·rintro ⟨he, hlt⟩
   rcases List.mem_append.1 he with h | h
   ·have := p3 e h x.1.ep (by simp); omega
   ·rcases List.mem_cons.1 h with h | h
    ·omega
    ·exact h
 have main : x.1.sq < minS (startsL L) K2 ↔ staleB L x.1 = false := by
  rw [minS_lt]
  unfold staleB
  rw [List.any_eq_false]
  constructor
  ·rintro ⟨_, h⟩ y hy hs
   simp only [Bool.and_eq_true, decide_eq_true_eq] at hs
   have hyk : y.1.ep ∈ keysL L := (hmem _).2 fun h => (startsL_get L y.1.ep).1 h y hy rfl
   have h2 := h y.1.ep ((hgt _).2 ⟨hyk, hs.1⟩)
   cases hk : SU.kget (startsL L) y.1.ep with
   | none => exact (hmem _).1 hyk hk
   | some s =>
    have := ((startsL_get L y.1.ep).2 s hk).2 y hy rfl
    rw [hk, Option.getD_some] at h2
    omega
  ·intro h
   refine ⟨hq x hx, fun e he => ?_⟩
   obtain ⟨hek, hlt⟩ := (hgt e).1 he
   cases hk : SU.kget (startsL L) e with
   | none => exact absurd hk ((hmem _).1 hek)
   | some s =>
    obtain ⟨⟨y, hy, he1, he2⟩, _⟩ := (startsL_get L e).2 s hk
    have := h y hy
    simp only [Bool.and_eq_true, decide_eq_true_eq, not_and] at this
    have h4 := this (by rw [he1]; exact hlt)
    rw [Option.getD_some]
    omega
 cases hb : staleB L x.1 with
 | false => simp [main.2 hb]
 | true => simp; exact Int.not_lt.1 fun h => by rw [main.1 h] at hb; cases hb
end Go.Proofs.YtdafdidmbeecfaaGreatDoor
namespace Go.SL
set_option linter.unusedVariables false
set_option linter.unusedSimpArgs false
open Go.RowKit
def rstep (sq : Int) (s : Option Int) (x : Fnd) : Option Int :=
 match s with
 | none => none
 | some c => if x.1.sq = sq then (if c ≠ 0 ∧ c ≠ x.1.ct then none else some x.1.ct) else some c
def hasIx (L : List Fnd) (sq : Int) (k : Int) : Bool := L.any fun x => decide (x.1.sq = sq) && decide (x.1.ix = k)
def wholeR (L : List Fnd) (sq : Int) : Bool := match L.foldl (rstep sq) (some 0) with
 | none => false
 | some c => (List.range c.toNat).all (fun k : Nat => hasIx L sq (k : Int)) && decide (0 < c)
def WInv (sq : Int) (Q : List Fnd) (c : Int) (seen : List Int) (h : Int) : Prop :=
 0 ≤ c ∧ c ≤ 72 ∧ seen.length = 72 ∧ (∀ i : Nat, i < 72 → seen.getD i 0 = if hasIx Q sq (i : Int) then 1 else 0) ∧ h = (seen.count 1 : Nat) ∧ (∀ x ∈ Q, x.1.sq = sq → x.1.ct = c) ∧ ∀ x ∈ Q, x.1.ok = true
theorem rstep_none (sq : Int) (L : List Fnd) : L.foldl (rstep sq) none = none := by
 induction L with
 | nil => rfl
 | cons x L ih => exact ih
theorem hasIx_snoc (Q : List Fnd) (x : Fnd) (sq k : Int) : hasIx (Q ++ [x]) sq k = (hasIx Q sq k || (decide (x.1.sq = sq) && decide (x.1.ix = k))) := by
 simp [hasIx, List.any_append]
theorem wh_fold (sq : Int) : ∀ (L Q : List Fnd) (c : Int) (seen : List Int) (h : Int), (∀ x ∈ L, x.1.ok = true) → WInv sq Q c seen h →
  (∃ c' seen' h', L.foldl (wstep sq) (some (c, seen, h)) = some (c', seen', h') ∧ L.foldl (rstep sq) (some c) = some c' ∧ WInv sq (Q ++ L) c' seen' h') ∨
  (L.foldl (wstep sq) (some (c, seen, h)) = none ∧ L.foldl (rstep sq) (some c) = none)
 | [], Q, c, seen, h, _, hi => .inl ⟨c, seen, h, rfl, rfl, by simpa using hi⟩
 | x :: L, Q, c, seen, h, hok, hi => by
  obtain ⟨i1, i2, i3, i4, i5, i6, i7⟩ := hi
  obtain ⟨_, _, _, _, _, c1, c2, x1, x2, _, _⟩ := ok_range (hok x (by simp))
  have hok' : ∀ y ∈ L, y.1.ok = true := fun y hy => hok y (by simp [hy])
  have assoc : Q ++ x :: L = (Q ++ [x]) ++ L := by simp
  rw [assoc]
  simp only [List.foldl_cons]
  by_cases hs : x.1.sq = sq
  ·by_cases hc : c = 0 ∨ c = x.1.ct
   ·have e1 : (if c = 0 then x.1.ct else c) = x.1.ct := by
     rcases hc with h9 | h9
     ·rw [if_pos h9]
     ·split <;> omega
    have r1 : rstep sq (some c) x = some x.1.ct := by
     show (if x.1.sq = sq then (if c ≠ 0 ∧ c ≠ x.1.ct then none else some x.1.ct) else some c) = _
     rw [if_pos hs, if_neg (by omega)]
    have hall : ∀ y ∈ Q ++ [x], y.1.sq = sq → y.1.ct = x.1.ct := fun y hy hy2 => by
     rcases List.mem_append.1 hy with h | h
     ·have h6 := i6 y h hy2
      obtain ⟨_, _, _, _, _, d1, _⟩ := ok_range (i7 y h)
      omega
     ·obtain rfl : y = x := by simpa using h
      rfl
    have hok2 : ∀ y ∈ Q ++ [x], y.1.ok = true := fun y hy => by
     rcases List.mem_append.1 hy with h | h
     ·exact i7 y h
     ·obtain rfl : y = x := by simpa using h
      exact hok y (by simp)
    obtain ⟨n, hn⟩ : ∃ n : Nat, x.1.ix = (n : Int) := ⟨x.1.ix.toNat, by omega⟩
    have hn72 : n < 72 := by omega
    have htn : x.1.ix.toNat = n := by omega
    have hsn := i4 n hn72
    by_cases hz : seen.getD n 0 = 0
    ·have w1 : wstep sq (some (c, seen, h)) x = some (x.1.ct, seen.set n 1, h + 1) := by
      show (if x.1.sq = sq then _ else _) = _
      rw [if_pos hs, e1, if_pos rfl, htn, if_pos hz, if_pos hz]
     rw [r1, w1]
     refine wh_fold sq L (Q ++ [x]) _ _ _ hok' ⟨by omega, c2, by simp [i3], fun i hi => ?_, ?_, hall, hok2⟩
     ·rw [hasIx_snoc]
      by_cases hin : n = i
      ·subst hin
       simp [List.getD, List.getElem?_set, i3, hn72, hs, hn]
      ·have := i4 i hi
       have e2 : (seen.set n 1).getD i 0 = seen.getD i 0 := by simp [List.getD, List.getElem?_set, hin]
       have e3 : decide (x.1.ix = (i : Int)) = false := by simp; omega
       rw [e2, this, e3]; simp
     ·rw [List.count_set (by omega)]
      have e4 : seen[n]'(by omega) = 0 := by rw [List.getD, List.getElem?_eq_getElem (by omega : n < seen.length)] at hz; exact hz
      rw [e4]; simp; omega
    ·have w1 : wstep sq (some (c, seen, h)) x = some (x.1.ct, seen, h) := by
      show (if x.1.sq = sq then _ else _) = _
      rw [if_pos hs, e1, if_pos rfl, htn, if_neg hz, if_neg hz]
     rw [r1, w1]
     refine wh_fold sq L (Q ++ [x]) _ _ _ hok' ⟨by omega, c2, i3, fun i hi => ?_, i5, hall, hok2⟩
     rw [hasIx_snoc, i4 i hi]
     by_cases hin : n = i
     ·subst hin
      have : hasIx Q sq (n : Int) = true := by
       cases hb : hasIx Q sq (n : Int) with
       | true => rfl
       | false => simp only [hb, Bool.false_eq_true, if_false] at hsn; exact absurd hsn hz
      simp [this]
     ·have e3 : decide (x.1.ix = (i : Int)) = false := by simp; omega
      rw [e3]; simp
   ·have r1 : rstep sq (some c) x = none := by
     show (if x.1.sq = sq then (if c ≠ 0 ∧ c ≠ x.1.ct then none else some x.1.ct) else some c) = _
     rw [if_pos hs, if_pos (by omega)]
    have w1 : wstep sq (some (c, seen, h)) x = none := by
     show (if x.1.sq = sq then _ else _) = _
     rw [if_pos hs, if_neg (by rw [if_neg (by omega)]; omega)]
    rw [r1, w1]
    exact .inr ⟨wstep_none sq L, rstep_none sq L⟩
  ·have r1 : rstep sq (some c) x = some c := if_neg hs
   have w1 : wstep sq (some (c, seen, h)) x = some (c, seen, h) := if_neg hs
   rw [r1, w1]
   refine wh_fold sq L (Q ++ [x]) c seen h hok' ⟨i1, i2, i3, fun i hi => ?_, i5, fun y hy hy2 => ?_, fun y hy => ?_⟩
   ·rw [i4 i hi, hasIx_snoc]; simp [hs]
   ·rcases List.mem_append.1 hy with h' | h'
    ·exact i6 y h' hy2
    ·obtain rfl : y = x := by simpa using h'
     exact absurd hy2 hs
   ·rcases List.mem_append.1 hy with h' | h'
    ·exact i7 y h'
    ·obtain rfl : y = x := by simpa using h'
     exact hok y (by simp)
theorem count_le_one {l : List Int} : l.count 1 = l.length ↔ ∀ i : Nat, i < l.length → l.getD i 0 = 1 := by
 rw [List.count_eq_length]
 constructor
 ·intro h i hi
  rw [List.getD, List.getElem?_eq_getElem hi]
  exact (h _ (List.getElem_mem hi)).symm
 ·intro h b hb
  obtain ⟨i, hi, rfl⟩ := List.getElem_of_mem hb
  have := h i hi
  rw [List.getD, List.getElem?_eq_getElem hi] at this
  exact this.symm
theorem whole_eq (L : List Fnd) (sq : Int) (hok : ∀ x ∈ L, x.1.ok = true) : wholeB L sq = wholeR L sq := by
 have h0 : WInv sq [] 0 (List.replicate 72 0) 0 := ⟨by omega, by omega, by simp, fun i hi => by rw [List.getD, List.getElem?_replicate, if_pos hi]; simp [hasIx], by simp [List.count_replicate], by simp, by simp⟩
 unfold wholeB wholeR wstart
 rcases wh_fold sq L [] 0 _ 0 hok h0 with ⟨c, seen, h, e1, e2, i1, i2, i3, i4, i5, i6, i7⟩ | ⟨e1, e2⟩
 ·rw [e1, e2]
  simp only [List.nil_append] at i4 i6 i7
  obtain ⟨n, rfl⟩ := Int.eq_ofNat_of_zero_le i1
  have hn : n ≤ 72 := by omega
  have hdrop : (seen.drop n).count 1 = 0 := by
   rw [List.count_eq_zero]
   intro hm
   obtain ⟨i, hi, he⟩ := List.getElem_of_mem hm
   rw [List.length_drop] at hi
   rw [List.getElem_drop] at he
   have := i4 (n + i) (by omega)
   rw [List.getD, List.getElem?_eq_getElem (by omega : n + i < seen.length), Option.getD_some, he] at this
   have hh : hasIx L sq ((n + i : Nat) : Int) = true := by
    rcases Bool.eq_false_or_eq_true (hasIx L sq ((n + i : Nat) : Int)) with hb | hb
    ·exact hb
    ·exfalso
     rw [if_neg (by rw [hb]; exact Bool.false_ne_true)] at this
     omega
   unfold hasIx at hh
   obtain ⟨x, hx, hx2⟩ := List.any_eq_true.1 hh
   simp only [Bool.and_eq_true, decide_eq_true_eq] at hx2
   obtain ⟨_, _, _, _, _, _, _, _, hlt, _⟩ := ok_range (i7 x hx)
   have := i6 x hx hx2.1
   omega
  have hcount : seen.count 1 = (seen.take n).count 1 := by
   conv => lhs; rw [← List.take_append_drop n seen, List.count_append, hdrop]
   rfl
  have hlen : (seen.take n).length = n := by simp [i3]; omega
  have key : (h = (n : Int)) ↔ ∀ i : Nat, i < n → hasIx L sq (i : Int) = true := by
   rw [i5, hcount]
   have h1 := @count_le_one (seen.take n)
   rw [hlen] at h1
   rw [Int.ofNat_inj, h1]
   refine forall_congr' fun i => forall_congr' fun hi => ?_
   have e : (seen.take n).getD i 0 = seen.getD i 0 := by simp [List.getD, List.getElem?_take, hi]
   rw [e, i4 i (by omega)]
   by_cases hb : hasIx L sq (i : Int) = true <;> simp [hb]
  show (decide (0 < (n : Int)) && decide (h = (n : Int))) = ((List.range n).all (fun k : Nat => hasIx L sq (k : Int)) && decide (0 < (n : Int)))
  rw [Bool.and_comm]
  congr 1
  rw [Bool.eq_iff_iff, decide_eq_true_eq, key, List.all_eq_true]
  simp
 ·rw [e1, e2]
end Go.SL
namespace Go.SL
set_option linter.unusedVariables false
set_option linter.unusedSimpArgs false
open Go.RowKit
def astep (id sq : Int) (s : Int × Int) (x : Fnd) : Int × Int := if x.1.id = id ∧ x.1.sq ≤ sq ∧ s.2 < x.1.sq then ((x.2 : Int), x.1.sq) else s
def atR (L : List Fnd) (id sq : Int) : Int := (L.foldl (astep id sq) (-1, 0)).1
theorem vfold_get (sq : Int) (k : Nat) : ∀ (L : List Fnd) (s : List Int × List Int), (∀ x ∈ L, 0 ≤ x.1.id) → k < s.1.length → k < s.2.length →
  ((L.foldl (vstep sq) s).1.getD k 0, (L.foldl (vstep sq) s).2.getD k 0) = L.foldl (astep (k : Int) sq) (s.1.getD k 0, s.2.getD k 0)
 | [], s, _, _, _ => rfl
 | x :: L, s, h, h1, h2 => by
  have hx := h x (by simp)
  have hL : ∀ y ∈ L, 0 ≤ y.1.id := fun y hy => h y (by simp [hy])
  simp only [List.foldl_cons]
  rw [vfold_get sq k L (vstep sq s x) hL (by unfold vstep; split <;> simp [h1]) (by unfold vstep; split <;> simp [h2])]
  congr 1
  unfold vstep astep
  obtain ⟨n, hn⟩ : ∃ n : Nat, x.1.id = (n : Int) := ⟨x.1.id.toNat, by omega⟩
  have hn2 : x.1.id.toNat = n := by omega
  rw [hn2, hn]
  by_cases hk : n = k
  ·subst hk
   by_cases hc : x.1.sq ≤ sq ∧ s.2.getD n 0 < x.1.sq
   ·rw [if_pos hc, if_pos ⟨rfl, hc⟩]
    simp [List.getD, List.getElem?_set, h1, h2]
   ·rw [if_neg hc, if_neg (fun h => hc h.2)]
  ·rw [if_neg (fun h : (n : Int) = (k : Int) ∧ _ => hk (by omega))]
   split
   ·simp [List.getD, List.getElem?_set, hk]
   ·rfl
theorem whereL_get (L : List Fnd) (sq : Int) (B k : Nat) (hk : k < B) (h : ∀ x ∈ L, 0 ≤ x.1.id) : (whereL L sq B).getD k 0 = atR L (k : Int) sq := by
 have := vfold_get sq k L (vstart B) h (by simp [vstart, hk]) (by simp [vstart, hk])
 have h1 := congrArg Prod.fst this
 simp only at h1
 unfold whereL atR
 rw [h1]
 congr 2
 simp [vstart, List.getD, List.getElem?_replicate, hk]
end Go.SL
end

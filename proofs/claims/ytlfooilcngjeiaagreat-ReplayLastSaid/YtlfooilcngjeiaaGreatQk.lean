/- replay: Scan. replay: the scan of a device that is up, plain; what a fresh device tells; the law's empty, shown. replay's laws: shown. -/
import Derived.Test.YtlfooilcngjeiaaGreatQh
import Derived.Test.YtlfooilcngjeiaaGreatPd
import Derived.Test.YtlfooilcngjeiaaGreatHk
namespace Go.SL
set_option linter.unusedVariables false
set_option linter.unusedSimpArgs false
open Go.RowKit
def flrI (L : List Fnd) : Int := L.foldl (fun m x => max m x.1.fl) 0
def epoI (L : List Fnd) : Int := L.foldl (fun m x => max m x.1.ep) 0
theorem fold_max {α : Type} (f : α → Int) (M : Int) (L : List α) (h : ∀ x ∈ L, f x ≤ M) : ∀ a, 0 ≤ a → a ≤ M → 0 ≤ L.foldl (fun m x => max m (f x)) a ∧ L.foldl (fun m x => max m (f x)) a ≤ M := by
  induction L with
  | nil => intro a h0 h1; exact ⟨h0, h1⟩
  | cons x L ih =>
    intro a h0 h1
    have hx := h x (by simp)
    exact ih (fun y hy => h y (by simp [hy])) (max a (f x)) (by omega) (by omega)
end Go.SL
namespace Go.Proofs.YtlfooilcngjeiaaGreat
set_option linter.unusedVariables false
set_option linter.unusedSimpArgs false
open Go.RowKit Go.SL
def sqI (L : List Fnd) : Int := if wholeB (freshL L) (flrI L + 1) = true then flrI L + 1 else flrI L
def scanSt (L : List Fnd) (P B : Nat) : Option Js :=
  if epoI L = 4294967295 ∨ 281474976710655 ≤ sqI L then none
  else some ⟨epoI L + 1, sqI L + 1, sqI L, headI (freshL L) (sqI L) P, usedI (whereL (freshL L) (sqI L) B) (headI (freshL L) (sqI L) P) P, whereL (freshL L) (sqI L) B⟩
/-- Scan: the error, the state, the device. -/
def scanR (D : Dev) (P B : Int) : Int × Option Js × Dev :=
  if 1 ≤ P ∧ P ≤ (D.sec.length : Int) - 1 ∧ 1 ≤ B ∧ B ≤ 3840 then
    (if (scanN B D P.toNat).1 = 0 then
      (match scanSt (scanN B D P.toNat).2.1 P.toNat B.toNat with
      | some s => ((0 : Int), some s, (scanN B D P.toNat).2.2)
      | none => ((12 : Int), none, (scanN B D P.toNat).2.2))
    else ((2 : Int), none, (scanN B D P.toNat).2.2))
  else ((1 : Int), none, D)
def noSt : Value := .agg #[.int .u32 0, .int .u64 0, .int .u64 0, .int .i64 0, .int .i64 0, .slice none 0 0]
def stA (v : Value) (s : Option Js) : Assn := match s with
  | none => fact (v = noSt)
  | some s => ex fun g => fact (v = s.v (.slice (some ⟨g, 0, none⟩) s.at_.length s.at_.length)) * pt g (.cells (ints s.at_) 3 (0, 0))
def ScanQ (S : Hp) (d : Nat) (R : Int × Option Js × Dev) (F : Assn) (w : World) (e : Ending) (w' : World) : Prop :=
  ∃ v, e = .returned (.tuple #[v, .int .i64 R.1]) ∧ Sat w' (stA v R.2.1 * (devA S d R.2.2 * (pool S * F))) ∧ Side w w'
theorem scan_results {tmps : Array Value} {w : World} {z : Nat} {v : Value} {F : Assn} {c0 c1 c2 c3 c4 c5 : Value} (h6 : tmps[6]? = some (ptV z)) (h7 : tmps[7]? = some v) (h : Sat w (pt z (.cells #[c0, c1, c2, c3, c4, c5] 35 (0, 0)) * F)) :
    (results Tryz.f10 tmps).run Tryz.prog w = .ok (.tuple #[.agg #[c0, c1, c2, c3, c4, c5], v]) w := by
  have hz : ∀ o, w.cell? ⟨z, o, none⟩ = #[c0, c1, c2, c3, c4, c5][o]? := fun o => h.cell o
  have z0 := hz 0; have z1 := hz 1; have z2 := hz 2; have z3 := hz 3; have z4 := hz 4; have z5 := hz 5
  clear hz h
  simp only [List.getElem?_toArray, List.getElem?_cons_zero, List.getElem?_cons_succ] at z0 z1 z2 z3 z4 z5
  simp [results, Tryz.results10, go_sem, h6, h7, z0, z1, z2, z3, z4, z5]
set_option maxRecDepth 100000 in
set_option maxHeartbeats 2000000 in
theorem scan_bad (w : World) (S : Hp) (d : Nat) (D : Dev) (P B : Int) (F : Assn) (h : Sat w (devA S d D * (pool S * F))) (hD : D.Ok) (hb : ¬ (1 ≤ P ∧ P ≤ (D.sec.length : Int) - 1 ∧ 1 ≤ B ∧ B ≤ 3840)) :
    Calls Tryz.prog 10 #[ptV d, .int .i64 P, .int .i64 B] w (ScanQ S d ((1 : Int), none, D) F w) := by
  have hA := h.alloc (.cells #[.int .u32 0, .int .u64 0, .int .u64 0, .int .i64 0, .int .i64 0, .slice none 0 0] 35 (0, 0))
  have hs := (Side.refl w).alloc (.cells #[.int .u32 0, .int .u64 0, .int .u64 0, .int .i64 0, .int .i64 0, .slice none 0 0] 35 (0, 0))
  have hsec := sectors_any _ S d D _ hA.right
  have hn := hD.n
  have hn0 : (D.sec.length : Int) ≤ 20000 := by omega
  have hn1 : (0 : Int) ≤ (D.sec.length : Int) := by omega
  clear hD hn h
  generalize (D.sec.length : Int) = n at *
  have fin : ∀ {w' : World}, Sat w' (devA S d D * (pool S * F)) → Sat w' (stA noSt none * (devA S d D * (pool S * F))) := fun h => Sat.fact_iff.2 ⟨rfl, h⟩
  have Hb := SL.hid hb
  clear hb
  by_cases h1 : P < 1
  · go_enter Tryz.func10, Tryz.ntmps10
    go_wp2_with fail
    exact bodyPost_ret (scan_results rfl rfl hA) rfl ⟨_, rfl, fin hA.right, hs⟩
  by_cases h2 : n - 1 < P
  · go_enter Tryz.func10, Tryz.ntmps10
    go_wp2_with (refine hsec.mono ?_; rintro e w1 ⟨rfl, rfl⟩)
    exact bodyPost_ret (scan_results rfl rfl hA) rfl ⟨_, rfl, fin hA.right, hs⟩
  by_cases h3 : B < 1
  · go_enter Tryz.func10, Tryz.ntmps10
    go_wp2_with (refine hsec.mono ?_; rintro e w1 ⟨rfl, rfl⟩)
    exact bodyPost_ret (scan_results rfl rfl hA) rfl ⟨_, rfl, fin hA.right, hs⟩
  have h4 : 3840 < B := by have := Hb.out; omega
  go_enter Tryz.func10, Tryz.ntmps10
  go_wp2_with (refine hsec.mono ?_; rintro e w1 ⟨rfl, rfl⟩)
  exact bodyPost_ret (scan_results rfl rfl hA) rfl ⟨_, rfl, fin hA.right, hs⟩
theorem st_one0 : (#[.int .u32 0, .int .u64 0, .int .u64 0, .int .i64 0, .int .i64 0, .slice none 0 0] : Array Value).all (·.oneCell') = true := by simp [Value.oneCell']
theorem st_one (n0 n1 n2 n3 n4 : Int) (a : Option Addr) (n c : Nat) : (#[.int .u32 n0, .int .u64 n1, .int .u64 n2, .int .i64 n3, .int .i64 n4, .slice a n c] : Array Value).all (·.oneCell') = true := by simp [Value.oneCell']
theorem st_six (n0 n1 n2 n3 n4 : Int) (a : Option Addr) (n c : Nat) : (Tryz.prog.info? 35).map (·.size) = some (#[.int .u32 n0, .int .u64 n1, .int .u64 n2, .int .i64 n3, .int .i64 n4, .slice a n c] : Array Value).size := info_state0
def ScRel (L : List Fnd) (X : Assn) (w : World) (u10 u11 u53 : Value) (wr : World) : Prop :=
  ∃ (k : Nat) (f e : Int), k ≤ L.length ∧ u53 = .int .i64 (k : Int) ∧ u10 = .int .u64 f ∧ u11 = .int .u32 e ∧ (L.take k).foldl (fun m x => max m x.1.fl) 0 = f ∧ (L.take k).foldl (fun m x => max m x.1.ep) 0 = e ∧ Sat wr X ∧ Side w wr
set_option maxRecDepth 100000 in
set_option maxHeartbeats 4000000 in
theorem scan_good (w : World) (S : Hp) (d : Nat) (D : Dev) (P B : Nat) (F : Assn) (h : Sat w (devA S d D * (pool S * F))) (hD : D.Ok) (hP0 : 1 ≤ P) (hP : P + 1 ≤ D.sec.length) (hB0 : 1 ≤ B) (hB : B ≤ 3840) (R : Int × List Fnd × Dev) (hR : scanN B D P = R) (O : Int × Option Js × Dev)
    (hO2 : R.1 ≠ 0 → O = ((2 : Int), none, R.2.2)) (hOn : R.1 = 0 → scanSt R.2.1 P B = none → O = ((12 : Int), none, R.2.2)) (hOs : ∀ s, R.1 = 0 → scanSt R.2.1 P B = some s → O = ((0 : Int), some s, R.2.2)) :
    Calls Tryz.prog 10 #[ptV d, .int .i64 (P : Int), .int .i64 (B : Int)] w (ScanQ S d O F w) := by
  have hn : (D.sec.length : Int) ≤ 20000 := by have := hD.n; omega
  have hA := h.alloc (.cells #[.int .u32 0, .int .u64 0, .int .u64 0, .int .i64 0, .int .i64 0, .slice none 0 0] 35 (0, 0))
  have hs := (Side.refl w).alloc (.cells #[.int .u32 0, .int .u64 0, .int .u64 0, .int .i64 0, .int .i64 0, .slice none 0 0] 35 (0, 0))
  have hsec := sectors_any _ S d D _ hA.right
  have hrd := rread_any _ S d D P B _ (hA.to (by ac_rfl : _ = devA S d D * (pool S * (pt w.heap.size (.cells #[.int .u32 0, .int .u64 0, .int .u64 0, .int .i64 0, .int .i64 0, .slice none 0 0] 35 (0, 0)) * F)))) hD hP
  obtain ⟨hfd, hfl, -⟩ := scanN_found (B : Int) D P
  rw [hR] at hrd hfd hfl
  have hp0 : (1 : Int) ≤ (P : Int) := by omega
  have hp1 : (P : Int) ≤ (D.sec.length : Int) - 1 := by omega
  have hb0 : (1 : Int) ≤ (B : Int) := by omega
  have hb1 : (B : Int) ≤ 3840 := by omega
  have hcode := scanN_code (B : Int) D P
  rw [hR] at hcode
  obtain ⟨code, L, D2⟩ := R
  dsimp only at hrd hfd hfl hcode hO2 hOn hOs
  have HO2 := SL.hid hO2; have HOn := SL.hid hOn; have HOs := SL.hid hOs; have Hfd := SL.hid hfd; have Hb := SL.hid (show 1 ≤ P ∧ P ≤ 20000 ∧ 1 ≤ B ∧ B ≤ 3840 by omega)
  have hfl2 : L.length ≤ 20000 := by omega
  have Hs0 := SL.hid hs
  clear h hA hD hP0 hP hB0 hB hR hO2 hOn hOs hfd hfl
  generalize (D.sec.length : Int) = n at *
  go_enter Tryz.func10, Tryz.ntmps10
  go_wp2_with (refine hsec.mono ?_; rintro e w1 ⟨rfl, rfl⟩)
  generalize w.alloc (.cells #[.int .u32 0, .int .u64 0, .int .u64 0, .int .i64 0, .int .i64 0, .slice none 0 0] 35 (0, 0)) = w1 at *
  generalize w.heap.size = z at *
  (with_reducible refine hrd.mono ?_)
  rintro e w2 ⟨v, rfl, h2, d2⟩
  clear hsec hrd
  have d3 := hs.trans d2
  rcases hcode with rfl | ⟨rfl, rfl⟩
  · obtain ⟨X, hX⟩ : ∃ X, X = sl 86 8 v L.length (flatF L) * (devA S d D2 * (pool S * (pt z (.cells #[.int .u32 0, .int .u64 0, .int .u64 0, .int .i64 0, .int .i64 0, .slice none 0 0] 35 (0, 0)) * F))) := ⟨_, rfl⟩
    have h3 : Sat w2 X := hX ▸ h2
    have HX := SL.hid hX
    obtain ⟨va, vc, rfl⟩ := sl_shape h2
    clear h2 d2 hs hX
    have hfl3 : (L.length : Int) ≤ 20000 := by omega
    go_wp2_with fail
    go_loopw [10, 11, 53] (fun u10 u11 u53 wr => ScRel L X w u10 u11 u53 wr) (fun _ _ u _ => L.length - (intOf u).toNat)
    case atStart => exact ⟨0, 0, 0, Nat.zero_le _, rfl, rfl, rfl, rfl, rfl, h3, d3⟩
    case round =>
      clear h3 d3
      obtain ⟨k, f, e, hk, rfl, rfl, rfl, hf, he, hsat, hside⟩ := hrel
      have hRd : RdF wr (.slice va L.length vc) L := (HX.out ▸ hsat : Sat wr (sl 86 8 (.slice va L.length vc) L.length (flatF L) * _)).rds
      by_cases hlt : k < L.length
      · have hlt' : (k : Int) < (L.length : Int) := by omega
        obtain ⟨g, off, c', hv, t, p, ht, c0, c1, c2, c3, c4, c5, c6, c7⟩ := fnd_cells hRd hlt
        cases hv
        have hf2 := foldl_take (fun m (x : Fnd) => max m x.1.fl) 0 L hlt
        have he2 := foldl_take (fun m (x : Fnd) => max m x.1.ep) 0 L hlt
        rw [hf, ht] at hf2
        rw [he, ht] at he2
        have Hf := SL.hid hf2; have He := SL.hid he2
        have HA := SL.hid (hsat.alloc (.cells #[.int .u32 t.ep, .int .u64 t.st, .int .u64 t.sq, .int .u64 t.fl, .int .i64 t.ix, .int .i64 t.ct, .int .i64 t.id, .int .i64 (p : Int)] 86 (0, 0))).right
        clear hf he hf2 he2 ht hRd hsat
        go_wp2_with fail
        all_goals
          go_roundw
          case rel => exact ⟨k + 1, max f t.fl, max e t.ep, by omega, by go_num, by first | rfl | (congr 1; omega), by first | rfl | (congr 1; omega), Hf.out, He.out, HA.out, hside.alloc _⟩
          case measure => simp [intOf]; omega
      · obtain rfl : k = L.length := by omega
        rw [List.take_length] at hf he
        have hfI : flrI L = f := hf
        have heI : epoI L = e := he
        have bf := fold_max (fun x : Fnd => x.1.fl) 281474976710654 L (fun x hx => by have := ok_range (Hfd.out x hx).ok; omega) 0 (by omega) (by omega)
        have be := fold_max (fun x : Fnd => x.1.ep) 4294967295 L (fun x hx => by have := (Hfd.out x hx).fit.ep1; omega) 0 (by omega) (by omega)
        rw [hf] at bf
        rw [he] at be
        obtain ⟨bf0, bf1⟩ := bf
        obtain ⟨be0, be1⟩ := be
        have htr := truth_any wr _ L hRd (fun x hx => ⟨(Hfd.out x hx).ok, (Hfd.out x hx).fit⟩) (by omega)
        have HfI := SL.hid hfI; have HeI := SL.hid heI
        clear hf he hfI heI hRd
        go_wp2_with fail
        (with_reducible refine htr.mono ?_)
        rintro e5 w5 ⟨v2, rfl, h5, d5⟩
        have H5 := h5.under hsat
        have hRd5 : RdF w5 v2 (freshL L) := h5.rds
        have hmem : ∀ x ∈ freshL L, x ∈ L := fun x hx => (List.mem_filter.1 hx).1
        have hln5 : (freshL L).length ≤ 20000 := Nat.le_trans (List.length_filter_le _ _) hfl2
        have hwh := whole_any w5 v2 (freshL L) (f + 1) hRd5 (fun x hx => (Hfd.out x (hmem x hx)).ok) (by omega)
        have hsqI : sqI L = if wholeB (freshL L) (f + 1) = true then f + 1 else f := by unfold sqI; rw [HfI.out]
        have Hmem := SL.hid hmem; have HRd5 := SL.hid hRd5; have HsqI := SL.hid hsqI
        have D5 := hside.trans d5
        clear htr h5 d5 hmem hRd5 hsqI hsat hside
        obtain ⟨va2, vc2, rfl⟩ : ∃ a c, v2 = .slice a (freshL L).length c := sl_shape H5
        generalize hFL : freshL L = FL at *
        have hFL2 := SL.hid hFL
        clear hFL
        generalize hwb : wholeB FL (f + 1) = wb at hwh HsqI
        clear hwb
        go_wp2_with fail
        (with_reducible refine hwh.mono ?_)
        rintro e6 w6 ⟨rfl, h6, d6⟩
        have H6 := h6.keepW H5
        have D6 := D5.trans d6
        have HRd6 : Hid (RdF w6 (.slice va2 FL.length vc2) FL) := SL.hid (HRd5.out.keep (h6.to (emp_star _).symm))
        clear hwh h6 d6 H5 D5 HRd5
        cases wb
        · have hq0 : sqI L = f := HsqI.out
          have hz6 : w6.heap[z]? = some (.cells #[.int .u32 0, .int .u64 0, .int .u64 0, .int .i64 0, .int .i64 0, .slice none 0 0] 35 (0, 0)) := (HX.out ▸ H6 : Sat w6 (_ * (_ * (_ * (_ * (pt z _ * F)))))).front5.heap
          have Hq := SL.hid hq0
          clear hq0 HsqI
          by_cases he : e = 4294967295
          · have ho := HOn.out trivial (by unfold scanSt; rw [HeI.out, if_pos (.inl he)])
            have Ho := SL.hid ho
            subst he
            clear ho HO2 HOn HOs HRd6
            go_wp2_with (refine wpList_store_row rfl 35 (.tmp 6) (.tmp 83) rfl z #[.int .u32 0, .int .u64 0, .int .u64 0, .int .i64 0, .int .i64 0, .slice none 0 0] rfl rfl 35 #[.int .u32 0, .int .u64 0, .int .u64 0, .int .i64 0, .int .i64 0, .slice none 0 0] hz6 (st_six _ _ _ _ _ _ _ _) rfl st_one0 ?_)
            have H8 := ((HX.out ▸ H6 : Sat w6 (_ * (_ * (_ * (_ * (pt z _ * F)))))).front5).setRow (cs' := #[.int .u32 0, .int .u64 0, .int .u64 0, .int .i64 0, .int .i64 0, .slice none 0 0])
            refine bodyPost_ret (scan_results rfl rfl H8) rfl ?_
            rw [Ho.out]
            exact ⟨_, rfl, Sat.fact_iff.2 ⟨rfl, H8.right.right.right⟩, D6.setRow _ _⟩
          have he1 : (e == 4294967295) = false := by simpa using he
          by_cases hq : 281474976710655 ≤ f
          · have ho := HOn.out trivial (by unfold scanSt; rw [Hq.out, if_pos (.inr hq)])
            have Ho := SL.hid ho
            clear ho HO2 HOn HOs HRd6
            go_wp2_with (refine wpList_store_row rfl 35 (.tmp 6) (.tmp 83) rfl z #[.int .u32 0, .int .u64 0, .int .u64 0, .int .i64 0, .int .i64 0, .slice none 0 0] rfl rfl 35 #[.int .u32 0, .int .u64 0, .int .u64 0, .int .i64 0, .int .i64 0, .slice none 0 0] hz6 (st_six _ _ _ _ _ _ _ _) rfl st_one0 ?_)
            have H8 := ((HX.out ▸ H6 : Sat w6 (_ * (_ * (_ * (_ * (pt z _ * F)))))).front5).setRow (cs' := #[.int .u32 0, .int .u64 0, .int .u64 0, .int .i64 0, .int .i64 0, .slice none 0 0])
            refine bodyPost_ret (scan_results rfl rfl H8) rfl ?_
            rw [Ho.out]
            exact ⟨_, rfl, Sat.fact_iff.2 ⟨rfl, H8.right.right.right⟩, D6.setRow _ _⟩
          have ho := HOs.out _ trivial (by unfold scanSt; rw [HeI.out, Hq.out, hFL2.out, if_neg (by rintro (h | h); exact he h; exact hq h)])
          have Ho := SL.hid ho
          have hwr : IntKind.u32.wrap (e + 1) = e + 1 := by rw [IntKind.wrap_u32]; omega
          have hrn := ringNew_any P 0 w6 Hb.out.1 (by have := Hb.out; omega)
          clear ho HO2 HOn HOs hz6
          go_wp2_with fail
          (with_reducible refine hrn.mono ?_)
          rintro e7 w7 ⟨r, rfl, h7, d7⟩
          have H7 := h7.under H6
          have H8 := H7.alloc (.cells #[.int .u32 (e + 1), .int .u64 (f + 1), .int .u64 f, .int .i64 0, .int .i64 0, .slice none 0 0] 35 (0, 0))
          have D8 := (D6.trans d7).alloc (.cells #[.int .u32 (e + 1), .int .u64 (f + 1), .int .u64 f, .int .i64 0, .int .i64 0, .slice none 0 0] 35 (0, 0))
          clear hrn h7 d7 H6 D6 H7 HRd6
          go_wp2_with fail
          generalize hw8 : w7.alloc (.cells #[.int .u32 (e + 1), .int .u64 (f + 1), .int .u64 f, .int .i64 0, .int .i64 0, .slice none 0 0] 35 (0, 0)) = w8 at *
          generalize w7.heap.size = s17 at *
          have hwh := where_any w8 (.slice va2 FL.length vc2) FL f B H8.front3.rds Hb.out.2.2.2 (fun x hx => ⟨(Hfd.out x (Hmem.out x hx)).ok, (Hfd.out x (Hmem.out x hx)).id⟩) (by omega)
          have hatl := whereL_len FL f B
          generalize hAT : whereL FL f B = AT at hwh hatl Ho
          have Hatl := SL.hid hatl
          clear hAT hw8 hatl
          (with_reducible refine hwh.mono ?_)
          rintro e9 w9 ⟨g, rfl, h9, d9⟩
          have H9 := h9.under H8
          have D9 := D8.trans d9
          have q5 : w9.cell? ⟨s17, 5, none⟩ = some (.slice none 0 0) := H9.front2.cell 5
          have f5 : w9.frozen? ⟨s17, 5, none⟩ = false := H9.front2.frozen 5
          have H10 := H9.front2.setCell 5 (.slice (some ⟨g, 0, none⟩) AT.length AT.length)
          have D10 := D9.setCell ⟨s17, 5, none⟩ (.slice (some ⟨g, 0, none⟩) AT.length AT.length)
          simp only [List.setIfInBounds_toArray, List.set_cons_succ, List.set_cons_zero] at H10
          clear hwh h9 d9 H8 D8 H9 D9
          go_wp2_with fail
          generalize w9.setCell ⟨s17, 5, none⟩ (.slice (some ⟨g, 0, none⟩) AT.length AT.length) = w10 at *
          have hhd := head_any w10 (.slice va2 FL.length vc2) FL f r (List.replicate P 0) _ H10.front4.rds H10.front3 (by rw [List.length_replicate]; exact Hb.out.1) (by rw [List.length_replicate]; have := Hb.out; omega) (fun x hx => ⟨(Hfd.out x (Hmem.out x hx)).ok, by have := (Hfd.out x (Hmem.out x hx)).place; have := Hb.out; omega⟩) (by omega)
          rw [List.length_replicate] at hhd
          generalize headI FL f P = hd at hhd Ho
          (with_reducible refine hhd.mono ?_)
          rintro e11 w11 ⟨rfl, h11, d11⟩
          have H11 := h11.keepW H10
          have D11 := D10.trans d11
          have q3 : w11.cell? ⟨s17, 3, none⟩ = some (.int .i64 0) := H11.cell 3
          have f3 : w11.frozen? ⟨s17, 3, none⟩ = false := H11.frozen 3
          have H12 := H11.setCell 3 (.int .i64 hd)
          have D12 := D11.setCell ⟨s17, 3, none⟩ (.int .i64 hd)
          simp only [List.setIfInBounds_toArray, List.set_cons_succ, List.set_cons_zero] at H12
          have p3 : (w11.setCell ⟨s17, 3, none⟩ (.int .i64 hd)).cell? ⟨s17, 3, none⟩ = some (.int .i64 hd) := H12.cell 3
          have p5 : (w11.setCell ⟨s17, 3, none⟩ (.int .i64 hd)).cell? ⟨s17, 5, none⟩ = some (.slice (some ⟨g, 0, none⟩) AT.length AT.length) := H12.cell 5
          have hus := used_any _ g AT.length AT hd r (List.replicate P 0) _ (H12.front2.to (by ac_rfl : _ = pt g _ * (ringA r _ * (pt s17 _ * (sl 86 8 (.slice va2 FL.length vc2) FL.length (flatF FL) * X))))) (by rw [List.length_replicate]; exact Hb.out.1) (by rw [List.length_replicate]; have := Hb.out; omega) (by rw [Hatl.out]; have := Hb.out; omega)
          rw [List.length_replicate] at hus
          clear hhd h11 d11 H10 D10 H11 D11 q5 f5
          go_wp2_with fail
          generalize w11.setCell ⟨s17, 3, none⟩ (.int .i64 hd) = w12 at *
          generalize usedI AT hd P = us at hus Ho
          (with_reducible refine hus.mono ?_)
          rintro e13 w13 ⟨rfl, rfl⟩
          have q4 : w12.cell? ⟨s17, 4, none⟩ = some (.int .i64 0) := H12.cell 4
          have f4 : w12.frozen? ⟨s17, 4, none⟩ = false := H12.frozen 4
          have H13 := H12.setCell 4 (.int .i64 us)
          have D13 := D12.setCell ⟨s17, 4, none⟩ (.int .i64 us)
          simp only [List.setIfInBounds_toArray, List.set_cons_succ, List.set_cons_zero] at H13
          have r0 : (w12.setCell ⟨s17, 4, none⟩ (.int .i64 us)).cell? ⟨s17, 0, none⟩ = some (.int .u32 (e + 1)) := H13.cell 0
          have r1 : (w12.setCell ⟨s17, 4, none⟩ (.int .i64 us)).cell? ⟨s17, 1, none⟩ = some (.int .u64 (f + 1)) := H13.cell 1
          have r2 : (w12.setCell ⟨s17, 4, none⟩ (.int .i64 us)).cell? ⟨s17, 2, none⟩ = some (.int .u64 f) := H13.cell 2
          have r3 : (w12.setCell ⟨s17, 4, none⟩ (.int .i64 us)).cell? ⟨s17, 3, none⟩ = some (.int .i64 hd) := H13.cell 3
          have r4 : (w12.setCell ⟨s17, 4, none⟩ (.int .i64 us)).cell? ⟨s17, 4, none⟩ = some (.int .i64 us) := H13.cell 4
          have r5 : (w12.setCell ⟨s17, 4, none⟩ (.int .i64 us)).cell? ⟨s17, 5, none⟩ = some (.slice (some ⟨g, 0, none⟩) AT.length AT.length) := H13.cell 5
          have H14 : Sat (w12.setCell ⟨s17, 4, none⟩ (.int .i64 us)) (pt z (.cells #[.int .u32 0, .int .u64 0, .int .u64 0, .int .i64 0, .int .i64 0, .slice none 0 0] 35 (0, 0)) * (pt g (.cells (ints AT) 3 (0, 0)) * (devA S d D2 * (pool S * F)))) := by
            have h := H13
            rw [HX.out] at h
            exact (h.to (by ac_rfl : _ = (pt s17 _ * (ringA r _ * (sl 86 8 (.slice va2 FL.length vc2) FL.length (flatF FL) * sl 86 8 (.slice va L.length vc) L.length (flatF L)))) * (pt z (.cells #[.int .u32 0, .int .u64 0, .int .u64 0, .int .i64 0, .int .i64 0, .slice none 0 0] 35 (0, 0)) * (pt g (.cells (ints AT) 3 (0, 0)) * (devA S d D2 * (pool S * F)))))).right
          have hz14 := H14.heap
          have H15 := H14.setRow (cs' := #[.int .u32 (e + 1), .int .u64 (f + 1), .int .u64 f, .int .i64 hd, .int .i64 us, .slice (some ⟨g, 0, none⟩) AT.length AT.length])
          have H15h := SL.hid H15
          clear hus H12 D12 H13 p3 p5 q3 f3 H14 H15
          go_wp2_with (refine wpList_store_row rfl 35 (.tmp 6) (.tmp 109) rfl z #[.int .u32 (e + 1), .int .u64 (f + 1), .int .u64 f, .int .i64 hd, .int .i64 us, .slice (some ⟨g, 0, none⟩) AT.length AT.length] rfl rfl 35 #[.int .u32 0, .int .u64 0, .int .u64 0, .int .i64 0, .int .i64 0, .slice none 0 0] hz14 (st_six _ _ _ _ _ _ _ _) rfl (st_one _ _ _ _ _ _ _ _) ?_)
          refine bodyPost_ret (scan_results rfl rfl H15h.out) rfl ?_
          rw [Ho.out]
          exact ⟨_, rfl, (Sat.ex_star_iff.2 ⟨g, (Sat.fact_iff.2 ⟨rfl, H15h.out.right⟩ : Sat _ (fact _ * _)).to (star_assoc _ _ _).symm⟩ : Sat _ (ex _ * _)), D13.setRow _ _⟩
        · have hq0 : sqI L = (f + 1) := HsqI.out
          have hz6 : w6.heap[z]? = some (.cells #[.int .u32 0, .int .u64 0, .int .u64 0, .int .i64 0, .int .i64 0, .slice none 0 0] 35 (0, 0)) := (HX.out ▸ H6 : Sat w6 (_ * (_ * (_ * (_ * (pt z _ * F)))))).front5.heap
          have Hq := SL.hid hq0
          clear hq0 HsqI
          by_cases he : e = 4294967295
          · have ho := HOn.out trivial (by unfold scanSt; rw [HeI.out, if_pos (.inl he)])
            have Ho := SL.hid ho
            subst he
            clear ho HO2 HOn HOs HRd6
            go_wp2_with (refine wpList_store_row rfl 35 (.tmp 6) (.tmp 83) rfl z #[.int .u32 0, .int .u64 0, .int .u64 0, .int .i64 0, .int .i64 0, .slice none 0 0] rfl rfl 35 #[.int .u32 0, .int .u64 0, .int .u64 0, .int .i64 0, .int .i64 0, .slice none 0 0] hz6 (st_six _ _ _ _ _ _ _ _) rfl st_one0 ?_)
            have H8 := ((HX.out ▸ H6 : Sat w6 (_ * (_ * (_ * (_ * (pt z _ * F)))))).front5).setRow (cs' := #[.int .u32 0, .int .u64 0, .int .u64 0, .int .i64 0, .int .i64 0, .slice none 0 0])
            refine bodyPost_ret (scan_results rfl rfl H8) rfl ?_
            rw [Ho.out]
            exact ⟨_, rfl, Sat.fact_iff.2 ⟨rfl, H8.right.right.right⟩, D6.setRow _ _⟩
          have he1 : (e == 4294967295) = false := by simpa using he
          by_cases hq : 281474976710655 ≤ (f + 1)
          · have ho := HOn.out trivial (by unfold scanSt; rw [Hq.out, if_pos (.inr hq)])
            have Ho := SL.hid ho
            clear ho HO2 HOn HOs HRd6
            go_wp2_with (refine wpList_store_row rfl 35 (.tmp 6) (.tmp 83) rfl z #[.int .u32 0, .int .u64 0, .int .u64 0, .int .i64 0, .int .i64 0, .slice none 0 0] rfl rfl 35 #[.int .u32 0, .int .u64 0, .int .u64 0, .int .i64 0, .int .i64 0, .slice none 0 0] hz6 (st_six _ _ _ _ _ _ _ _) rfl st_one0 ?_)
            have H8 := ((HX.out ▸ H6 : Sat w6 (_ * (_ * (_ * (_ * (pt z _ * F)))))).front5).setRow (cs' := #[.int .u32 0, .int .u64 0, .int .u64 0, .int .i64 0, .int .i64 0, .slice none 0 0])
            refine bodyPost_ret (scan_results rfl rfl H8) rfl ?_
            rw [Ho.out]
            exact ⟨_, rfl, Sat.fact_iff.2 ⟨rfl, H8.right.right.right⟩, D6.setRow _ _⟩
          have ho := HOs.out _ trivial (by unfold scanSt; rw [HeI.out, Hq.out, hFL2.out, if_neg (by rintro (h | h); exact he h; exact hq h)])
          have Ho := SL.hid ho
          have hwr : IntKind.u32.wrap (e + 1) = e + 1 := by rw [IntKind.wrap_u32]; omega
          have hrn := ringNew_any P 0 w6 Hb.out.1 (by have := Hb.out; omega)
          clear ho HO2 HOn HOs hz6
          go_wp2_with fail
          (with_reducible refine hrn.mono ?_)
          rintro e7 w7 ⟨r, rfl, h7, d7⟩
          have H7 := h7.under H6
          have H8 := H7.alloc (.cells #[.int .u32 (e + 1), .int .u64 ((f + 1) + 1), .int .u64 (f + 1), .int .i64 0, .int .i64 0, .slice none 0 0] 35 (0, 0))
          have D8 := (D6.trans d7).alloc (.cells #[.int .u32 (e + 1), .int .u64 ((f + 1) + 1), .int .u64 (f + 1), .int .i64 0, .int .i64 0, .slice none 0 0] 35 (0, 0))
          clear hrn h7 d7 H6 D6 H7 HRd6
          go_wp2_with fail
          generalize hw8 : w7.alloc (.cells #[.int .u32 (e + 1), .int .u64 ((f + 1) + 1), .int .u64 (f + 1), .int .i64 0, .int .i64 0, .slice none 0 0] 35 (0, 0)) = w8 at *
          generalize w7.heap.size = s17 at *
          have hwh := where_any w8 (.slice va2 FL.length vc2) FL (f + 1) B H8.front3.rds Hb.out.2.2.2 (fun x hx => ⟨(Hfd.out x (Hmem.out x hx)).ok, (Hfd.out x (Hmem.out x hx)).id⟩) (by omega)
          have hatl := whereL_len FL (f + 1) B
          generalize hAT : whereL FL (f + 1) B = AT at hwh hatl Ho
          have Hatl := SL.hid hatl
          clear hAT hw8 hatl
          (with_reducible refine hwh.mono ?_)
          rintro e9 w9 ⟨g, rfl, h9, d9⟩
          have H9 := h9.under H8
          have D9 := D8.trans d9
          have q5 : w9.cell? ⟨s17, 5, none⟩ = some (.slice none 0 0) := H9.front2.cell 5
          have f5 : w9.frozen? ⟨s17, 5, none⟩ = false := H9.front2.frozen 5
          have H10 := H9.front2.setCell 5 (.slice (some ⟨g, 0, none⟩) AT.length AT.length)
          have D10 := D9.setCell ⟨s17, 5, none⟩ (.slice (some ⟨g, 0, none⟩) AT.length AT.length)
          simp only [List.setIfInBounds_toArray, List.set_cons_succ, List.set_cons_zero] at H10
          clear hwh h9 d9 H8 D8 H9 D9
          go_wp2_with fail
          generalize w9.setCell ⟨s17, 5, none⟩ (.slice (some ⟨g, 0, none⟩) AT.length AT.length) = w10 at *
          have hhd := head_any w10 (.slice va2 FL.length vc2) FL (f + 1) r (List.replicate P 0) _ H10.front4.rds H10.front3 (by rw [List.length_replicate]; exact Hb.out.1) (by rw [List.length_replicate]; have := Hb.out; omega) (fun x hx => ⟨(Hfd.out x (Hmem.out x hx)).ok, by have := (Hfd.out x (Hmem.out x hx)).place; have := Hb.out; omega⟩) (by omega)
          rw [List.length_replicate] at hhd
          generalize headI FL (f + 1) P = hd at hhd Ho
          (with_reducible refine hhd.mono ?_)
          rintro e11 w11 ⟨rfl, h11, d11⟩
          have H11 := h11.keepW H10
          have D11 := D10.trans d11
          have q3 : w11.cell? ⟨s17, 3, none⟩ = some (.int .i64 0) := H11.cell 3
          have f3 : w11.frozen? ⟨s17, 3, none⟩ = false := H11.frozen 3
          have H12 := H11.setCell 3 (.int .i64 hd)
          have D12 := D11.setCell ⟨s17, 3, none⟩ (.int .i64 hd)
          simp only [List.setIfInBounds_toArray, List.set_cons_succ, List.set_cons_zero] at H12
          have p3 : (w11.setCell ⟨s17, 3, none⟩ (.int .i64 hd)).cell? ⟨s17, 3, none⟩ = some (.int .i64 hd) := H12.cell 3
          have p5 : (w11.setCell ⟨s17, 3, none⟩ (.int .i64 hd)).cell? ⟨s17, 5, none⟩ = some (.slice (some ⟨g, 0, none⟩) AT.length AT.length) := H12.cell 5
          have hus := used_any _ g AT.length AT hd r (List.replicate P 0) _ (H12.front2.to (by ac_rfl : _ = pt g _ * (ringA r _ * (pt s17 _ * (sl 86 8 (.slice va2 FL.length vc2) FL.length (flatF FL) * X))))) (by rw [List.length_replicate]; exact Hb.out.1) (by rw [List.length_replicate]; have := Hb.out; omega) (by rw [Hatl.out]; have := Hb.out; omega)
          rw [List.length_replicate] at hus
          clear hhd h11 d11 H10 D10 H11 D11 q5 f5
          go_wp2_with fail
          generalize w11.setCell ⟨s17, 3, none⟩ (.int .i64 hd) = w12 at *
          generalize usedI AT hd P = us at hus Ho
          (with_reducible refine hus.mono ?_)
          rintro e13 w13 ⟨rfl, rfl⟩
          have q4 : w12.cell? ⟨s17, 4, none⟩ = some (.int .i64 0) := H12.cell 4
          have f4 : w12.frozen? ⟨s17, 4, none⟩ = false := H12.frozen 4
          have H13 := H12.setCell 4 (.int .i64 us)
          have D13 := D12.setCell ⟨s17, 4, none⟩ (.int .i64 us)
          simp only [List.setIfInBounds_toArray, List.set_cons_succ, List.set_cons_zero] at H13
          have r0 : (w12.setCell ⟨s17, 4, none⟩ (.int .i64 us)).cell? ⟨s17, 0, none⟩ = some (.int .u32 (e + 1)) := H13.cell 0
          have r1 : (w12.setCell ⟨s17, 4, none⟩ (.int .i64 us)).cell? ⟨s17, 1, none⟩ = some (.int .u64 ((f + 1) + 1)) := H13.cell 1
          have r2 : (w12.setCell ⟨s17, 4, none⟩ (.int .i64 us)).cell? ⟨s17, 2, none⟩ = some (.int .u64 (f + 1)) := H13.cell 2
          have r3 : (w12.setCell ⟨s17, 4, none⟩ (.int .i64 us)).cell? ⟨s17, 3, none⟩ = some (.int .i64 hd) := H13.cell 3
          have r4 : (w12.setCell ⟨s17, 4, none⟩ (.int .i64 us)).cell? ⟨s17, 4, none⟩ = some (.int .i64 us) := H13.cell 4
          have r5 : (w12.setCell ⟨s17, 4, none⟩ (.int .i64 us)).cell? ⟨s17, 5, none⟩ = some (.slice (some ⟨g, 0, none⟩) AT.length AT.length) := H13.cell 5
          have H14 : Sat (w12.setCell ⟨s17, 4, none⟩ (.int .i64 us)) (pt z (.cells #[.int .u32 0, .int .u64 0, .int .u64 0, .int .i64 0, .int .i64 0, .slice none 0 0] 35 (0, 0)) * (pt g (.cells (ints AT) 3 (0, 0)) * (devA S d D2 * (pool S * F)))) := by
            have h := H13
            rw [HX.out] at h
            exact (h.to (by ac_rfl : _ = (pt s17 _ * (ringA r _ * (sl 86 8 (.slice va2 FL.length vc2) FL.length (flatF FL) * sl 86 8 (.slice va L.length vc) L.length (flatF L)))) * (pt z (.cells #[.int .u32 0, .int .u64 0, .int .u64 0, .int .i64 0, .int .i64 0, .slice none 0 0] 35 (0, 0)) * (pt g (.cells (ints AT) 3 (0, 0)) * (devA S d D2 * (pool S * F)))))).right
          have hz14 := H14.heap
          have H15 := H14.setRow (cs' := #[.int .u32 (e + 1), .int .u64 ((f + 1) + 1), .int .u64 (f + 1), .int .i64 hd, .int .i64 us, .slice (some ⟨g, 0, none⟩) AT.length AT.length])
          have H15h := SL.hid H15
          clear hus H12 D12 H13 p3 p5 q3 f3 H14 H15
          go_wp2_with (refine wpList_store_row rfl 35 (.tmp 6) (.tmp 109) rfl z #[.int .u32 (e + 1), .int .u64 ((f + 1) + 1), .int .u64 (f + 1), .int .i64 hd, .int .i64 us, .slice (some ⟨g, 0, none⟩) AT.length AT.length] rfl rfl 35 #[.int .u32 0, .int .u64 0, .int .u64 0, .int .i64 0, .int .i64 0, .slice none 0 0] hz14 (st_six _ _ _ _ _ _ _ _) rfl (st_one _ _ _ _ _ _ _ _) ?_)
          refine bodyPost_ret (scan_results rfl rfl H15h.out) rfl ?_
          rw [Ho.out]
          exact ⟨_, rfl, (Sat.ex_star_iff.2 ⟨g, (Sat.fact_iff.2 ⟨rfl, H15h.out.right⟩ : Sat _ (fact _ * _)).to (star_assoc _ _ _).symm⟩ : Sat _ (ex _ * _)), D13.setRow _ _⟩
  · have Ho := SL.hid (HO2.out (by decide))
    have h3 : Sat w2 (pt z (.cells #[.int .u32 0, .int .u64 0, .int .u64 0, .int .i64 0, .int .i64 0, .slice none 0 0] 35 (0, 0)) * (devA S d D2 * (pool S * F))) := h2.right.front3.to (by ac_rfl)
    have hz6 : w2.heap[z]? = some (.cells #[.int .u32 0, .int .u64 0, .int .u64 0, .int .i64 0, .int .i64 0, .slice none 0 0] 35 (0, 0)) := h3.heap
    have H8 := h3.setRow (cs' := #[.int .u32 0, .int .u64 0, .int .u64 0, .int .i64 0, .int .i64 0, .slice none 0 0])
    clear h2 d2 hs HO2 HOn HOs
    go_wp2_with (refine wpList_store_row rfl 35 (.tmp 6) (.tmp 49) rfl z #[.int .u32 0, .int .u64 0, .int .u64 0, .int .i64 0, .int .i64 0, .slice none 0 0] rfl rfl 35 #[.int .u32 0, .int .u64 0, .int .u64 0, .int .i64 0, .int .i64 0, .slice none 0 0] hz6 (st_six _ _ _ _ _ _ _ _) rfl st_one0 ?_)
    refine bodyPost_ret (scan_results rfl rfl H8) rfl ?_
    rw [Ho.out]
    exact ⟨_, rfl, Sat.fact_iff.2 ⟨rfl, H8.right⟩, d3.setRow _ _⟩
end Go.Proofs.YtlfooilcngjeiaaGreat
namespace Go.Proofs.YtlfooilcngjeiaaGreat
set_option linter.unusedVariables false
set_option linter.unusedSimpArgs false
open Go.RowKit Go.SL
/-- What places tell, of a device that is up. -/
def fndsN (B : Int) (D : Dev) : Nat → List Fnd
  | 0 => []
  | k + 1 => if (D.tells ((k : Int) + 1)).1 = 0 then fndAdd B k (fndsN B D k) (decodeF (D.tells ((k : Int) + 1)).2) else fndsN B D k
theorem fndsN_succ (B : Int) (D : Dev) (k : Nat) : fndsN B D (k + 1) = if (D.tells ((k : Int) + 1)).1 = 0 then fndAdd B k (fndsN B D k) (decodeF (D.tells ((k : Int) + 1)).2) else fndsN B D k := rfl
theorem tells_code (D : Dev) (a : Int) : (D.tells a).1 = 0 ∨ (D.tells a).1 = 3 := by
  unfold Dev.tells
  split
  · exact .inl rfl
  · split
    · exact .inr rfl
    · exact .inl rfl
theorem scanN_calm (B : Int) {D : Dev} (h : D.Calm) {P : Nat} (hP : P + 1 ≤ D.sec.length) : ∀ k, k ≤ P → scanN B D k = ((0 : Int), fndsN B D k, { D with cr := addN D.cr k }) := by
  intro k
  induction k with
  | zero => intro _; rfl
  | succ k ih =>
    intro hk
    have h1 := ih (by omega)
    have hr : ({ D with cr := addN D.cr k } : Dev).read ((k : Int) + 1) = (D.tells ((k : Int) + 1), { D with cr := addN D.cr (k + 1) }) := by
      rw [(cr_calm h (addN D.cr k)).read (by show 0 ≤ (k : Int) + 1 ∧ (k : Int) + 1 < (D.sec.length : Int); omega)]
      rfl
    rw [scanN_succ, h1, fndsN_succ]
    unfold scanS
    simp only [hr, if_true]
    rcases tells_code D ((k : Int) + 1) with h0 | h0
    · rw [if_neg (by rw [h0]; decide), if_pos h0, if_pos h0]
    · rw [if_pos h0, if_neg (by rw [h0]; decide)]
theorem fndsN_congr {B : Int} {D D' : Dev} {P : Nat} (h : ∀ k, k < P → D.tells ((k : Int) + 1) = D'.tells ((k : Int) + 1)) : ∀ k, k ≤ P → fndsN B D k = fndsN B D' k := by
  intro k
  induction k with
  | zero => intro _; rfl
  | succ k ih => intro hk; rw [fndsN_succ, fndsN_succ, ih (by omega), h k (by omega)]
theorem leV_zs (n : Nat) (j : Nat) : leV (zs n) j = 0 := by
  induction j with
  | zero => rfl
  | succ j ih =>
    rw [leV, ih]
    have : (zs n).getD j 0 = 0 := by
      unfold zs
      rw [List.getD, List.getElem?_replicate]
      split <;> rfl
    rw [this]; simp
theorem zs_drop (n k : Nat) : (zs n).drop k = zs (n - k) := by simp [zs]
theorem set_ep (t : Tg) (n : Int) (k : Nat) (h : k ≠ 1) : (t.set n k).ep = t.ep := by
  unfold Tg.set; split <;> first | rfl | exact absurd rfl h
theorem decT_zs (n : Nat) (k : Nat) : (decT (zs n) k).ep = 0 := by
  induction k with
  | zero => rfl
  | succ k ih =>
    rw [decT]
    by_cases h : k = 1
    · subst h
      rw [zs_drop, leV_zs]; rfl
    · rw [set_ep _ _ _ h]; exact ih
theorem decodeF_zs (n : Nat) : decodeF (zs n) = none := by
  have h := decT_zs n 9
  unfold decodeF
  generalize decT (zs n) 9 = t at *
  rw [if_neg]
  rintro ⟨h1, _⟩
  have := (ok_range h1).1
  omega
theorem tells_fresh (n : Nat) (a : Int) : (Dev.fresh n).tells a = (0, zs 512) := by
  unfold Dev.tells Dev.fresh
  simp only [newest_nil]
  have : (kget ([] : List (Int × Unit)) a).isSome = false := rfl
  rw [this]
  have hz : (List.replicate n ([] : List UInt8)).getD a.toNat [] = [] := by
    rw [List.getD, List.getElem?_replicate]; split <;> rfl
  rw [hz]
  show ((0 : Int), ([] ++ zs 512).take 512) = (0, zs 512)
  rw [List.nil_append, List.take_of_length_le (by rw [length_zs]; exact Nat.le_refl _)]
theorem fndsN_fresh (B : Int) (n k : Nat) : fndsN B (Dev.fresh n) k = [] := by
  induction k with
  | zero => rfl
  | succ k ih => rw [fndsN_succ, tells_fresh, ih, if_pos rfl, decodeF_zs, fndAdd_none]
theorem fresh_calm (n : Nat) : (Dev.fresh n).Calm := ⟨rfl, rfl⟩
theorem fresh_ok (n : Nat) (h : n ≤ 20000) : (Dev.fresh n).Ok := ⟨by simp [Dev.fresh]; omega, by simp [Dev.fresh], by simp [Dev.fresh], by simp [Dev.fresh]⟩
def emptyJs (B : Nat) : Js := ⟨1, 1, 0, 0, 0, List.replicate B (-1)⟩
theorem used_neg (hd : Int) (P : Nat) (B : Nat) : usedI (List.replicate B (-1)) hd P = 0 := by
  unfold usedI
  induction B with
  | zero => rfl
  | succ B ih => rw [List.replicate_succ, List.foldl_cons]; exact ih
theorem freshL_nil : freshL [] = [] := rfl
theorem wholeB_nil (sq : Int) : wholeB [] sq = false := by
  unfold wholeB wstart; simp
theorem scanSt_nil (P B : Nat) : scanSt [] P B = some (emptyJs B) := by
  have hs : sqI [] = 0 := by unfold sqI; rw [freshL_nil, wholeB_nil]; rfl
  unfold scanSt
  rw [hs, if_neg (by decide), freshL_nil]
  show some (⟨0 + 1, 0 + 1, 0, 0, usedI (List.replicate B (-1)) 0 P, List.replicate B (-1)⟩ : Js) = _
  rw [used_neg]; rfl
theorem scan_any (w : World) (S : Hp) (d : Nat) (D : Dev) (P B : Int) (F : Assn) (h : Sat w (devA S d D * (pool S * F))) (hD : D.Ok) :
    Calls Tryz.prog 10 #[ptV d, .int .i64 P, .int .i64 B] w (ScanQ S d (scanR D P B) F w) := by
  by_cases hg : 1 ≤ P ∧ P ≤ (D.sec.length : Int) - 1 ∧ 1 ≤ B ∧ B ≤ 3840
  · obtain ⟨h1, h2, h3, h4⟩ := hg
    obtain ⟨p, rfl⟩ := Int.eq_ofNat_of_zero_le (by omega : 0 ≤ P)
    obtain ⟨b, rfl⟩ := Int.eq_ofNat_of_zero_le (by omega : 0 ≤ B)
    refine scan_good w S d D p b F h hD (by omega) (by omega) (by omega) (by omega) _ rfl _ ?_ ?_ ?_
    · intro hc
      unfold scanR
      rw [if_pos ⟨h1, h2, h3, h4⟩, Int.toNat_natCast, if_neg hc]
    · intro hc hn
      unfold scanR
      rw [if_pos ⟨h1, h2, h3, h4⟩, Int.toNat_natCast, Int.toNat_natCast, if_pos hc, hn]
    · intro s hc hn
      unfold scanR
      rw [if_pos ⟨h1, h2, h3, h4⟩, Int.toNat_natCast, Int.toNat_natCast, if_pos hc, hn]
  · have e : scanR D P B = ((1 : Int), none, D) := by unfold scanR; rw [if_neg hg]
    rw [e]
    exact scan_bad w S d D P B F h hD hg
/-- A scan of a device that is up. -/
theorem scanR_calm {D : Dev} (h : D.Calm) {P B : Nat} (hP0 : 1 ≤ P) (hP : P + 1 ≤ D.sec.length) (hB0 : 1 ≤ B) (hB : B ≤ 3840) (o : Option Js) (ho : scanSt (fndsN B D P) P B = o) :
    scanR D P B = (if o.isSome then (0 : Int) else 12, o, { D with cr := addN D.cr P }) := by
  unfold scanR
  rw [if_pos (by omega), Int.toNat_natCast, Int.toNat_natCast, scanN_calm B h hP P (Nat.le_refl _), if_pos rfl, ho]
  cases o <;> rfl
end Go.Proofs.YtlfooilcngjeiaaGreat
namespace Go.Proofs.YtlfooilcngjeiaaGreat
set_option linter.unusedVariables false
set_option linter.unusedSimpArgs false
open Go.RowKit Go.SL
def tS : Tg := ⟨3, 2, 5, 4, 0, 1, 2⟩
theorem tS_fit : tS.Fit := ⟨by decide, by decide, by decide, by decide, by decide, by decide, by decide, by decide⟩
theorem tS_ok : tS.ok = true := by decide
def jsS : Js := ⟨4, 6, 5, 7, 1, [-1, -1, 6, -1]⟩
theorem starts1 : startsL [(tS, 6)] = [(3, 2)] := by decide
theorem keys1 : keysL [(tS, 6)] = [3] := by unfold keysL; rw [starts1]; simp [sortedU]
theorem fresh1 : freshL [(tS, 6)] = [(tS, 6)] := by
  unfold freshL; rw [keys1, starts1, List.filter_cons_of_pos (by decide)]; rfl
theorem whole1 : wholeB [(tS, 6)] 5 = true := by decide +kernel
theorem scanS1 : scanSt [(tS, 6)] 10 4 = some jsS := by
  have hs : sqI [(tS, 6)] = 5 := by unfold sqI; rw [fresh1, show flrI [(tS, 6)] = 4 by decide]; rw [show (4 : Int) + 1 = 5 by decide, whole1]; rfl
  unfold scanSt
  rw [hs, fresh1, show epoI [(tS, 6)] = 3 by decide, if_neg (by decide)]
  rfl
theorem fnds_one {D : Dev} {t : Tg} {b : List UInt8} {B : Int} {q : Nat} (hw : ∀ k : Nat, k ≠ q → D.tells ((k : Int) + 1) = (0, zs 512)) (h1 : (D.tells ((q : Int) + 1)).1 = 0) (hq : decodeF (D.tells ((q : Int) + 1)).2 = some (t, b)) (hB : t.id < B) : ∀ k, fndsN B D k = if k ≤ q then [] else [(t, q)] := by
  intro k
  induction k with
  | zero => rw [if_pos (Nat.zero_le _)]; rfl
  | succ k ih =>
    rw [fndsN_succ, ih]
    by_cases h : k = q
    · subst h
      rw [if_pos h1, hq, fndAdd_yes hB, if_pos (Nat.le_refl _), if_neg (by omega)]; rfl
    · rw [hw k h, if_pos rfl, decodeF_zs, fndAdd_none]
      by_cases hk : k ≤ q
      · rw [if_pos hk, if_pos (by omega)]
      · rw [if_neg hk, if_neg (by omega)]
def lS : List UInt8 := enc tS ++ zs 480
theorem lS_len : lS.length = 512 := by unfold lS; rw [List.length_append, enc_length, length_zs]
def dS1 : Dev := { Dev.fresh 11 with cr := addN 0 10 }
def dS2 : Dev := { dS1 with cw := i64w (dS1.cw + 1), wait := [((7 : Int), lS)] }
def dS3 : Dev := { dS2 with cr := addN dS2.cr 10 }
theorem dS1_calm : dS1.Calm := ⟨rfl, rfl⟩
theorem dS2_calm : dS2.Calm := ⟨rfl, rfl⟩
theorem dS3_calm : dS3.Calm := ⟨rfl, rfl⟩
theorem dS1_ok : dS1.Ok := ⟨by simp [dS1, Dev.fresh], by simp [dS1, Dev.fresh], by simp [dS1, Dev.fresh], by simp [dS1, Dev.fresh]⟩
theorem dS2_ok : dS2.Ok := ⟨by simp [dS2, dS1, Dev.fresh], by simp [dS2, dS1, Dev.fresh, Dev.has], by simp [dS2, dS1, Dev.fresh], by simp [dS2, dS1, Dev.fresh]⟩
theorem dS3_ok : dS3.Ok := ⟨dS2_ok.n, dS2_ok.wait, dS2_ok.many, dS2_ok.keep⟩
theorem dS_len : dS1.sec.length = 11 ∧ dS2.sec.length = 11 ∧ dS3.sec.length = 11 := by simp [dS1, dS2, dS3, Dev.fresh]
theorem dS2_tells (a : Int) : dS2.tells a = if 7 = a then (0, padTo 512 lS) else (0, zs 512) := by
  have := write_tells dS1 7 lS (i64w (dS1.cw + 1)) a
  have e : dS1.tells a = (0, zs 512) := tells_fresh 11 a
  rw [e] at this
  exact this
theorem scanA : scanR (Dev.fresh 11) 10 4 = ((0 : Int), some (emptyJs 4), dS1) :=
  scanR_calm (P := 10) (B := 4) (fresh_calm 11) (by decide) (by simp [Dev.fresh]) (by decide) (by decide) (some (emptyJs 4)) (by rw [fndsN_fresh]; exact scanSt_nil 10 4)
theorem scanB : scanR dS2 10 4 = ((0 : Int), some jsS, dS3) :=
  scanR_calm (P := 10) (B := 4) dS2_calm (by decide) (by rw [dS_len.2.1]; decide) (by decide) (by decide) (some jsS) (by
    rw [fnds_one (t := tS) (b := zs 480) (q := 6) (fun k hk => by rw [dS2_tells, if_neg (by omega)]) (by rw [dS2_tells, if_pos (by decide)]) (by rw [dS2_tells, if_pos (by decide), padTo_self lS_len]; exact decodeF_enc tS_fit tS_ok _) (by decide)]
    exact scanS1)
theorem scanC : scanR dS3 11 4 = ((1 : Int), none, dS3) := by
  unfold scanR; rw [if_neg (by rw [dS_len.2.2]; decide)]
theorem writeS : dS1.write 7 lS = (0, dS2) := by
  rw [dS1_calm.write (by unfold Dev.has; rw [dS_len.1]; decide) lS_len]; rfl
theorem stSome {w : World} {v : Value} {s : Js} {F : Assn} (h : Sat w (stA v (some s) * F)) : ∃ g, v = s.v (.slice (some ⟨g, 0, none⟩) s.at_.length s.at_.length) ∧ Sat w (pt g (.cells (ints s.at_) 3 (0, 0)) * F) := by
  obtain ⟨g, h⟩ := Sat.ex_star_iff.1 h
  exact ⟨g, Sat.fact_iff.1 (h.to (star_assoc _ _ _))⟩
theorem stNone {w : World} {v : Value} {F : Assn} (h : Sat w (stA v none * F)) : v = noSt ∧ Sat w F := Sat.fact_iff.1 h
set_option maxRecDepth 100000 in
set_option maxHeartbeats 4000000 in
theorem shown9_any (w : World) : Calls Tryz.prog 5 #[] w (ShownQ w) := by
  have hmk : ∀ w, (Instr.makeSlice 39 (.int .i64 480) (.int .i64 480)).run Tryz.prog w =
    .ok (.slice (some ⟨w.heap.size, 0, none⟩) 480 480) (w.alloc (.cells (u8s (zs 480)) 5 (0, 0))) := make_bytes 480 (by omega)
  have Hmk := SL.hid hmk
  clear hmk
  go_enter Tryz.func5, Tryz.ntmps5
  go_wp2_with fail
  refine (new_any 11 (by decide) (by decide) w).mono ?_
  rintro e w1 ⟨d, rfl, h1, d1⟩
  have H1 : Sat w1 (devA NoB d (Dev.fresh 11) * (pool NoB * whole w)) := (h1 NoB).poolEmp.front2
  clear h1
  have hsc := scan_any w1 NoB d (Dev.fresh 11) 10 4 _ H1 (fresh_ok 11 (by decide))
  rw [scanA] at hsc
  go_wp2_with fail
  (with_reducible refine hsc.mono ?_)
  rintro e w2 ⟨v, rfl, h2, d2⟩
  obtain ⟨g, hv, h2'⟩ := stSome h2
  have hv2 : v = .agg #[.int .u32 1, .int .u64 1, .int .u64 0, .int .i64 0, .int .i64 0, .slice (some ⟨g, 0, none⟩) 4 4] := hv
  subst hv2
  have h3 := (h2'.alloc (.cells #[.int .u32 1, .int .u64 1, .int .u64 0, .int .i64 0, .int .i64 0, .slice (some ⟨g, 0, none⟩) 4 4] 35 (0, 0))).alloc (.cells (u8s (zs 480)) 5 (0, 0))
  have d3 := ((d1.trans d2).alloc (.cells #[.int .u32 1, .int .u64 1, .int .u64 0, .int .i64 0, .int .i64 0, .slice (some ⟨g, 0, none⟩) 4 4] 35 (0, 0))).alloc (.cells (u8s (zs 480)) 5 (0, 0))
  simp only [World.size_alloc] at h3
  clear hsc H1 h2 h2' hv d1 d2
  have hmk := Hmk.out
  go_wp2_with fail
  clear hmk
  generalize (w2.alloc (.cells #[.int .u32 1, .int .u64 1, .int .u64 0, .int .i64 0, .int .i64 0, .slice (some ⟨g, 0, none⟩) 4 4] 35 (0, 0))).alloc (.cells (u8s (zs 480)) 5 (0, 0)) = w3 at *
  generalize w2.heap.size + 1 = gz at *
  generalize w2.heap.size = t3 at *
  have hrz : Rd w3 (.slice (some ⟨gz, 0, none⟩) 480 480) (zs 480) := by
    have := rd_row (c := 480) h3.heap
    rwa [length_zs] at this
  have henc : Calls Tryz.prog 17 #[.agg #[.int .u32 3, .int .u64 2, .int .u64 5, .int .u64 4, .int .i64 0, .int .i64 1, .int .i64 2], .slice (some ⟨gz, 0, none⟩) 480 480] w3 (EncodeQ lS w3) := encode_yes tS tS_fit tS_ok _ _ (length_zs 480) w3 hrz
  (with_reducible refine henc.mono ?_)
  rintro e w4 ⟨bv, rfl, h4, d4⟩
  have H4 := h4.under h3
  have D4 := d3.trans d4
  obtain ⟨ba, bc, hbv⟩ : ∃ a c, bv = .slice a lS.length c := sl_shape H4
  rw [lS_len] at hbv
  subst hbv
  clear henc h4 d4 h3 d3 hrz
  have hwr := write_any w4 NoB d dS1 7 _ lS _ (H4.to (by ac_rfl : _ = devA NoB d dS1 * (pool NoB * (bs 5 (.slice ba 512 bc) lS * (pt gz (.cells (u8s (zs 480)) 5 (0, 0)) * (pt t3 (.cells #[.int .u32 1, .int .u64 1, .int .u64 0, .int .i64 0, .int .i64 0, .slice (some ⟨g, 0, none⟩) 4 4] 35 (0, 0)) * (pt g (.cells (ints (emptyJs 4).at_) 3 (0, 0)) * whole w))))))) dS1_ok H4.bsRd (fun w' D' h' => h'.front3.bsRd) (by rw [lS_len]; decide)
  rw [writeS] at hwr
  go_wp2_with fail
  (with_reducible refine hwr.mono ?_)
  rintro e w5 ⟨S5, E5, rfl, h5, d5⟩
  have H5 : Sat w5 (devA S5 d dS2 * (pool S5 * (pt t3 (.cells #[.int .u32 1, .int .u64 1, .int .u64 0, .int .i64 0, .int .i64 0, .slice (some ⟨g, 0, none⟩) 4 4] 35 (0, 0)) * (pt g (.cells (ints (emptyJs 4).at_) 3 (0, 0)) * whole w)))) := h5.drop3.drop3
  have D5 := D4.trans d5
  have hsc := scan_any w5 S5 d dS2 10 4 _ H5 dS2_ok
  rw [scanB] at hsc
  clear hwr h5 d5 H4 D4
  go_wp2_with fail
  (with_reducible refine hsc.mono ?_)
  rintro e w6 ⟨v, rfl, h6, d6⟩
  obtain ⟨g2, hv, h6'⟩ := stSome h6
  have hv2 : v = .agg #[.int .u32 4, .int .u64 6, .int .u64 5, .int .i64 7, .int .i64 1, .slice (some ⟨g2, 0, none⟩) 4 4] := hv
  subst hv2
  have H7 := h6'.alloc (.cells #[.int .u32 4, .int .u64 6, .int .u64 5, .int .i64 7, .int .i64 1, .slice (some ⟨g2, 0, none⟩) 4 4] 35 (0, 0))
  have D7 := (D5.trans d6).alloc (.cells #[.int .u32 4, .int .u64 6, .int .u64 5, .int .i64 7, .int .i64 1, .slice (some ⟨g2, 0, none⟩) 4 4] 35 (0, 0))
  clear hsc h6 h6' hv d6 H5 D5
  go_wp2_with fail
  generalize w6.alloc (.cells #[.int .u32 4, .int .u64 6, .int .u64 5, .int .i64 7, .int .i64 1, .slice (some ⟨g2, 0, none⟩) 4 4] 35 (0, 0)) = w7 at *
  generalize w6.heap.size = t8 at *
  have hsc := scan_any w7 S5 d dS3 11 4 _ (H7.to (by ac_rfl : _ = devA S5 d dS3 * (pool S5 * (pt t8 (.cells #[.int .u32 4, .int .u64 6, .int .u64 5, .int .i64 7, .int .i64 1, .slice (some ⟨g2, 0, none⟩) 4 4] 35 (0, 0)) * (pt g2 (.cells (ints jsS.at_) 3 (0, 0)) * (pt t3 (.cells #[.int .u32 1, .int .u64 1, .int .u64 0, .int .i64 0, .int .i64 0, .slice (some ⟨g, 0, none⟩) 4 4] 35 (0, 0)) * (pt g (.cells (ints (emptyJs 4).at_) 3 (0, 0)) * whole w))))))) dS3_ok
  rw [scanC] at hsc
  (with_reducible refine hsc.mono ?_)
  rintro e w8 ⟨v, rfl, h8, d8⟩
  obtain ⟨rfl, h8'⟩ := stNone h8
  have H9 := h8'.alloc (.cells #[.int .u32 0, .int .u64 0, .int .u64 0, .int .i64 0, .int .i64 0, .slice none 0 0] 35 (0, 0))
  have D9 := (D7.trans d8).alloc (.cells #[.int .u32 0, .int .u64 0, .int .u64 0, .int .i64 0, .int .i64 0, .slice none 0 0] 35 (0, 0))
  have hat : (emptyJs 4).at_ = [-1, -1, -1, -1] := rfl
  have hat2 : jsS.at_ = [-1, -1, 6, -1] := rfl
  rw [hat, hat2] at H9
  have K := H9.right
  clear hsc h8 h8' d8 H7 D7 hat hat2
  unfold noSt
  have x0 := H9.front6.cell 0; have x1 := H9.front6.cell 1; have x2 := H9.front6.cell 2; have x3 := H9.front6.cell 3; have x4 := H9.front6.cell 4; have x5 := H9.front6.cell 5
  have y0 := H9.front4.cell 0; have y1 := H9.front4.cell 1; have y2 := H9.front4.cell 2; have y3 := H9.front4.cell 3; have y4 := H9.front4.cell 4; have y5 := H9.front4.cell 5
  have z1 := H9.front7.cell 2; have z2 := H9.front5.cell 2
  simp only [ints, List.map_cons, List.map_nil, List.getElem?_toArray, List.getElem?_cons_zero, List.getElem?_cons_succ] at x0 x1 x2 x3 x4 x5 y0 y1 y2 y3 y4 y5 z1 z2
  have HW := SL.hid (H9.to (by ac_rfl : _ = (pt w8.heap.size (.cells #[.int .u32 0, .int .u64 0, .int .u64 0, .int .i64 0, .int .i64 0, .slice none 0 0] 35 (0, 0)) * (devA S5 d dS3 * (pool S5 * (pt t8 (.cells #[.int .u32 4, .int .u64 6, .int .u64 5, .int .i64 7, .int .i64 1, .slice (some ⟨g2, 0, none⟩) 4 4] 35 (0, 0)) * (pt g2 (.cells (ints [-1, -1, 6, -1]) 3 (0, 0)) * (pt t3 (.cells #[.int .u32 1, .int .u64 1, .int .u64 0, .int .i64 0, .int .i64 0, .slice (some ⟨g, 0, none⟩) 4 4] 35 (0, 0)) * pt g (.cells (ints [-1, -1, -1, -1]) 3 (0, 0)))))))) * whole w)).right
  clear H9 K
  go_wp2_with fail
  go_ret
  exact ⟨rfl, HW.out, D9⟩
end Go.Proofs.YtlfooilcngjeiaaGreat

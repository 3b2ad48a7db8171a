/- FileCuts: the walk. -/
import Derived.Test.YtaoohjeaaccnfaaVj
import Derived.Test.YtaoohjeaaccnfaaAz
import Derived.Deep.DeepCutAuto
import Derived.Deep.CutBlock
import Derived.Deep.CutRange
namespace Go.SL
set_option linter.unusedVariables false
set_option linter.unusedSimpArgs false
def fc1 (d : List UInt8) : AF := (newF 1).wr 0 d
def fc2 (d : List UInt8) (s : Nat) : AF := (fc1 d).cut s
def fc3 (d : List UInt8) (s : Nat) : AF := (fc2 d s).cut d.length
theorem fc1_pr (d : List UInt8) (i : Nat) : (fc1 d).pr i = decide (480 * i < d.length) := by
  show (false || touched 0 d.length i) = _
  rw [Bool.false_or, Bool.eq_iff_iff, touched_iff, decide_eq_true_iff]
  omega
theorem fc1_need {d : List UInt8} (h : d.length ≤ 4000) : needP (fc1 d).pr = 1 + (d.length + 479) / 480 := needP_below (fun i _ => fc1_pr d i) (by omega)
theorem fc2_pr {d : List UInt8} {s : Nat} (hs : s ≤ d.length) (i : Nat) : (fc2 d s).pr i = decide (480 * i < s) := by
  show ((fc1 d).pr i && decide (480 * i < s)) = _
  rw [fc1_pr, Bool.eq_iff_iff]
  simp only [Bool.and_eq_true, decide_eq_true_iff]
  omega
theorem fc2_need {d : List UInt8} {s : Nat} (h : d.length ≤ 4000) (hs : s ≤ d.length) : needP (fc2 d s).pr = 1 + (s + 479) / 480 := needP_below (fun i _ => fc2_pr hs i) (by omega)
theorem fc3_sub {d : List UInt8} {s : Nat} (h : d.length ≤ 4000) (hs : s ≤ d.length) : (fc3 d s).sub 0 5000 = d.take s ++ zs (d.length - s) := by
  unfold AF.sub
  have e : min 5000 ((fc3 d s).sz - 0) = d.length := by show min 5000 (d.length - 0) = _; omega
  rw [e]
  apply List.ext_getElem?
  intro j
  by_cases hj : j < d.length
  · rw [List.getElem?_map, List.getElem?_range hj]
    show some ((fc3 d s).dat (0 + j)) = _
    rw [Nat.zero_add]
    show some (if j < d.length then (if j < s then (fc1 d).dat j else 0) else 0) = _
    rw [if_pos hj]
    by_cases h1 : j < s
    · rw [if_pos h1, List.getElem?_append_left (by rw [List.length_take]; omega), List.getElem?_take, if_pos h1]
      show some (if 0 ≤ j ∧ j < 0 + d.length then d.getD (j - 0) 0 else 0) = _
      rw [if_pos (by omega), Nat.sub_zero, List.getD, List.getElem?_eq_getElem hj]; rfl
    · rw [if_neg h1, List.getElem?_append_right (by rw [List.length_take]; omega)]
      unfold zs
      rw [List.getElem?_replicate, if_pos (by rw [List.length_take]; omega)]
  · rw [List.getElem?_eq_none (by simp; omega), List.getElem?_eq_none]
    rw [List.length_append, List.length_take, length_zs]; omega
end Go.SL
namespace Go.Proofs.Ytaoohjeaaccnfaa.Fs
set_option linter.unusedVariables false
set_option linter.unusedSimpArgs false
open Go.RowKit Go.SL Go.Proofs.Ytaoohjeaaccnfaa.Ba
set_option maxRecDepth 100000 in
set_option maxHeartbeats 4000000 in
theorem cuts_any (a : Option Addr) (len cap : Nat) (l : List UInt8) (z : Int) (w : World) (hb : IsBytes w a len cap l) : Calls Try.prog 4 #[.slice a len cap, .int .i64 z] w (LawQ w) := by
  refine callsQ fun Q HQ => ?_
  have hand := and16 z
  obtain ⟨hl, hlc, hcap⟩ := hb.len
  have hcap' : (cap : Int) ≤ 9223372036854775807 := by omega
  have hlc' : (len : Int) ≤ (cap : Int) := by omega
  obtain ⟨m, hm⟩ : ∃ m, min len 4000 = m := ⟨_, rfl⟩
  have hmc : (m : Int) ≤ (cap : Int) := by omega
  have hb2 := hb.take (show m ≤ len by omega)
  obtain ⟨d, hd⟩ : ∃ d, l.take m = d := ⟨_, rfl⟩
  rw [hd] at hb2
  have hm4 : m ≤ 4000 := by omega
  have hm4' : (m : Int) ≤ 4000 := by omega
  have Hm := SL.hid hm
  have Hb := SL.hid hb2
  clear hb hl hcap hlc hb2 hm hd l
  go_enter Try.func4, Try.ntmps4
  go_wp2_with fail
  refine (shown_any w).mono ?_
  rintro e w1 ⟨rfl, h1, d1⟩
  go_upto_region 2 with (fail)
  go_cut [0] from 16 to 20 (fun u0 wx => u0 = .slice a m cap ∧ wx = w1)
  case first =>
    by_cases hn : 4000 < len
    · have e : m = 4000 := by have := Hm.out; omega
      subst e
      have hn' : (4000 : Int) < (len : Int) := by omega
      go_wp2_with fail
      go_meet
      exact ⟨rfl, rfl⟩
    · have e : m = len := by have := Hm.out; omega
      subst e
      have hn' : ¬ (4000 : Int) < (m : Int) := by omega
      go_wp2_with fail
      go_meet
      exact ⟨rfl, rfl⟩
  case rest =>
    obtain ⟨rfl, rfl⟩ := hcut
    obtain ⟨s, hs⟩ : ∃ s : Nat, z % 65536 % ((m : Int) + 1) = (s : Int) := ⟨(z % 65536 % ((m : Int) + 1)).toNat, by rw [Int.toNat_of_nonneg (Int.emod_nonneg _ (by omega))]⟩
    have hsm : s ≤ m := by have := Int.emod_lt_of_pos (z % 65536) (show (0 : Int) < (m : Int) + 1 by omega); omega
    have hsm' : (s : Int) ≤ (m : Int) := by omega
    have hm := made_x 20 (by decide) (by decide) _ _ h1
    clear Hm len hlc'
    go_wp2_with fail
    refine hm.mono ?_
    rintro e w2 ⟨x, b, rfl, d2, h2⟩
    have hA := h2.alloc (.cells #[.pointer (some ⟨b, 0, none⟩), .int .i64 20] 26 (0, 0))
    have D := SL.hid ((d1.trans d2).alloc (.cells #[.pointer (some ⟨b, 0, none⟩), .int .i64 20] 26 (0, 0)))
    have H : Hid (Sat (w2.alloc (.cells #[.pointer (some ⟨b, 0, none⟩), .int .i64 20] 26 (0, 0))) (fsA x b rootA 18 * (whole w * (pt w2.heap.size (spO b 20) * emp)))) := (Sat.addEmp hA).to (by ac_rfl)
    clear h1 h2 hA d1 d2 hm
    unfold spV
    go_wp2_with fail
    generalize w2.alloc (.cells #[.pointer (some ⟨b, 0, none⟩), .int .i64 20] 26 (0, 0)) = w3 at *
    generalize w2.heap.size = sc at *
    have hc := y_new H.out (.inl rfl : (1 : Int) = 1 ∨ (1 : Int) = 2) (by decide)
    refine hc.mono ?_
    rintro e w4 ⟨id, rfl, -, -, -, d', h⟩
    replace D := SL.hid (D.out.trans d')
    replace H := SL.hid h
    clear hc h d'
    have cA : w4.cell? ⟨sc, 0, none⟩ = some (.pointer (some ⟨b, 0, none⟩)) := H.out.front3.cell 0
    have cB : w4.cell? ⟨sc, 1, none⟩ = some (.int .i64 20) := H.out.front3.cell 1
    have hml : d.length = m := (Hb.out.len).1
    have hwa := y_write (f := newF 1) (id := id) (l := d) (va := a) (cap := cap) (upO_same _ _ _) 0 (hD_old (by have := Hb.out.rd; rw [hml]; exact this)) (by omega) (by omega) (by omega) (by
      have h1 := fc1_need (d := d) (by omega); have h0 : needP (newF 1).pr = 1 := needP_none
      show needP (fc1 d).pr ≤ _
      omega) H.out
    rw [hml] at hwa
    have Hml := SL.hid hml
    have hwa2 : Calls Try.prog 11 #[spV b 20, .int .i64 (id : Int), .int .i64 0, .slice a m cap] w4 (YE x b (upO (upO rootA id (some (newF 1))) id (some (fc1 d))) _ 0 (whole w * (pt sc (spO b 20) * emp)) w4) := hwa
    rw [upO_up] at hwa2
    have HK := SL.hid (fc1_need (d := d) (by omega))
    obtain ⟨k1, hk1⟩ : ∃ k, 18 - 1 + needP (newF 1).pr - needP ((newF 1).wr 0 d).pr = k := ⟨_, rfl⟩
    have hwa3 : Calls Try.prog 11 #[spV b 20, .int .i64 (id : Int), .int .i64 0, .slice a m cap] w4 (YE x b (upO rootA id (some (fc1 d))) k1 0 (whole w * (pt sc (spO b 20) * emp)) w4) := by rw [← hk1]; exact hwa2
    have Hwa := SL.hid hwa3
    clear hwa hwa2 hwa3 hk1 hml
    go_wp2_with fail
    refine Hwa.out.mono ?_
    rintro e w6 ⟨rfl, d', h⟩
    replace D := SL.hid (D.out.trans d')
    replace H := SL.hid h
    clear h d' Hwa cA cB
    have cA : w6.cell? ⟨sc, 0, none⟩ = some (.pointer (some ⟨b, 0, none⟩)) := H.out.front3.cell 0
    have cB : w6.cell? ⟨sc, 1, none⟩ = some (.int .i64 20) := H.out.front3.cell 1
    have ht := y_trunc H.out (f := fc1 d) (upO_same _ _ _) s (by omega)
    rw [upO_up] at ht
    have Ht := SL.hid ht
    clear ht
    go_wp2_with fail
    refine Ht.out.mono ?_
    rintro e w7 ⟨rfl, d', h⟩
    obtain ⟨k2, hk2⟩ : ∃ k, k1 + needP (fc1 d).pr - needP ((fc1 d).cut s).pr = k := ⟨_, rfl⟩
    rw [hk2] at h
    have h' : Sat w7 (fsA x b (upO rootA id (some (fc2 d s))) k2 * (whole w * (pt sc (spO b 20) * emp))) := h
    replace D := SL.hid (D.out.trans d')
    replace H := SL.hid h'
    clear h h' d' Ht cA cB hk2
    have cA : w7.cell? ⟨sc, 0, none⟩ = some (.pointer (some ⟨b, 0, none⟩)) := H.out.front3.cell 0
    have cB : w7.cell? ⟨sc, 1, none⟩ = some (.int .i64 20) := H.out.front3.cell 1
    have hc := y_need H.out (f := fc2 d s) (upO_same _ _ _)
    rw [fc2_need (by rw [Hml.out]; omega) (by rw [Hml.out]; exact hsm)] at hc
    have hcast : ((1 + (s + 479) / 480 : Nat) : Int) = 1 + ((s : Int) + 479) / 480 := by omega
    rw [hcast] at hc
    have Hc := SL.hid hc
    clear hc hcast
    go_wp2_with fail
    refine Hc.out.mono ?_
    rintro e w8 ⟨rfl, d', h⟩
    replace D := SL.hid (D.out.trans d')
    replace H := SL.hid h
    clear h d' Hc cA cB
    have cA : w8.cell? ⟨sc, 0, none⟩ = some (.pointer (some ⟨b, 0, none⟩)) := H.out.front3.cell 0
    have cB : w8.cell? ⟨sc, 1, none⟩ = some (.int .i64 20) := H.out.front3.cell 1
    have ht := y_trunc H.out (f := fc2 d s) (upO_same _ _ _) m (by omega)
    rw [upO_up] at ht
    have Ht := SL.hid ht
    clear ht
    go_wp2_with fail
    refine Ht.out.mono ?_
    rintro e w9 ⟨rfl, d', h⟩
    obtain ⟨k3, hk3⟩ : ∃ k, k2 + needP (fc2 d s).pr - needP ((fc2 d s).cut m).pr = k := ⟨_, rfl⟩
    rw [hk3] at h
    have h' : Sat w9 (fsA x b (upO rootA id (some (fc3 d s))) k3 * (whole w * (pt sc (spO b 20) * emp))) := by unfold fc3; rw [Hml.out]; exact h
    replace D := SL.hid (D.out.trans d')
    replace H := SL.hid h'
    clear h h' d' Ht cA cB hk3
    have cA : w9.cell? ⟨sc, 0, none⟩ = some (.pointer (some ⟨b, 0, none⟩)) := H.out.front3.cell 0
    have cB : w9.cell? ⟨sc, 1, none⟩ = some (.int .i64 20) := H.out.front3.cell 1
    have hr := y_read H.out (f := fc3 d s) (upO_same _ _ _) 0 5000
    rw [fc3_sub (by rw [Hml.out]; omega) (by rw [Hml.out]; exact hsm), Hml.out] at hr
    have Hr : Hid (Calls Try.prog 12 #[spV b 20, .int .i64 (id : Int), .int .i64 0, .int .i64 5000] w9 (YB x b (upO rootA id (some (fc3 d s))) k3 (d.take s ++ zs (m - s)) (whole w * (pt sc (spO b 20) * emp)) w9)) := hr
    clear hr
    go_wp2_with fail
    refine Hr.out.mono ?_
    rintro e w10 ⟨v, rfl, d', h⟩
    replace D := SL.hid (D.out.trans d')
    replace H := SL.hid h
    clear h d' Hr cA cB
    obtain ⟨i0, hi, hz, hs0, hb0⟩ := info_parts info_u8
    have hE := Sat.slOf (sz := 1) (n := 0) (cap := 0) (H.out.alloc (.cells #[] 5 (0, 0))) (Nat.le_refl 0) (by decide) rfl
    have hds : (d.take s).length = s := by rw [List.length_take, Hml.out]; omega
    have hsrc0 := (Hb.out.take hsm).rd
    obtain ⟨v2, w12, hrun1, h12, d12⟩ := Sat.append (P := Try.prog) (ty := 22) Try.underlying22 hi hz hs0 hb0 rfl hE
      ((hsrc0.carry fun q u hu => ((H.out.alloc (.cells #[] 5 (0, 0))).to (by ac_rfl : _ = (pt w10.heap.size (.cells #[] 5 (0, 0)) * (bs 5 v (d.take s ++ zs (m - s)) * (fsA x b (upO rootA id (some (fc3 d s))) k3 * (pt sc (spO b 20) * emp)))) * whole w)).cellOld hu)) (by intro u hu; obtain ⟨c, _, rfl⟩ := List.mem_map.1 hu; rfl) (by rw [hds]; unfold maxLen; omega) (by rw [hds]; omega)
    have h12' : Sat w12 (bs 5 v2 (d.take s) * (bs 5 v (d.take s ++ zs (m - s)) * (fsA x b (upO rootA id (some (fc3 d s))) k3 * (whole w * (pt sc (spO b 20) * emp))))) := by
      unfold bs at h12 ⊢
      simpa using h12
    obtain ⟨v3, w13, hrun2, h13, d13⟩ := Sat.appendZ (P := Try.prog) (t := 22) (tn := 3) (ty := 22) Try.underlying22 Try.underlying3 hi hz hs0 hb0 h12' (m - s) (by omega)
    have hcs : ((m - s : Nat) : Int) = (m : Int) - (s : Int) := by omega
    rw [hcs] at hrun2
    have R1 := SL.hid hrun1; have R2 := SL.hid hrun2; have H13 := SL.hid h13; have HDS := SL.hid hds
    have D13 := SL.hid (((D.out.alloc (.cells #[] 5 (0, 0))).trans d12).trans d13)
    have t1 : (convert 22 9 v).run Try.prog w13 = .ok (.string (str (d.take s ++ zs (m - s)))) w13 := run_text _ _ _ (hD_bs _ _ _ _ h13.front2)
    have t2 : (convert 22 9 v3).run Try.prog w13 = .ok (.string (str (d.take s ++ zs (m - s)))) w13 := run_text _ _ _ (hD_bs _ _ _ _ h13)
    generalize str (d.take s ++ zs (m - s)) = SL1 at t1 t2
    clear hE hsrc0 hrun1 hrun2 h12 h12' h13 d12 d13 hcs hi hz hs0 hb0 hds H
    go_wp2_with (first | (at_builtin; refine wpList_append_run R1.out _ _ rfl rfl rfl rfl rfl ?_) | (at_builtin; refine wpList_appendZ_run R2.out _ _ rfl rfl rfl rfl rfl ?_))
    exact HQ.out _ _ ⟨rfl, H13.out.right.right.right.left, D13.out⟩
end Go.Proofs.Ytaoohjeaaccnfaa.Fs

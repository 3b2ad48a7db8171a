/- TreeApart: the walk. -/
import Derived.Test.YtaoohjeaaccnfaaGreatNv
namespace Go.Proofs.YtaoohjeaaccnfaaGreat.Fs
set_option linter.unusedVariables false
set_option linter.unusedSimpArgs false
open Go.RowKit Go.SL Go.Proofs.YtaoohjeaaccnfaaGreat.Ba
def sumN (LL : Nat → List Ent) : Nat := needD (LL 0).length + needD (LL 1).length + needD (LL 2).length
/-- Three directories. -/
structure ThreeD (g : Nat → Nat) (A : Nat → Option AF) (T : Nat → Bool) (LL : Nat → List Ent) : Prop where
  at' : ∀ j, j < 3 → A (g j) = some (dirF 1 (LL j))
  da : ∀ j, j < 3 → Da T j (LL j)
  ne : ∀ i j, i < 3 → j < 3 → i ≠ j → g i ≠ g j
theorem needD_20 {l : Nat} (h : l ≤ 20) : needD l ≤ 3 := by unfold needD; split <;> omega
theorem needD_mono {l : Nat} : needD l ≤ needD (l + 1) := by unfold needD; split <;> split <;> omega
section
variable {g : Nat → Nat} {A : Nat → Option AF} {T : Nat → Bool} {LL : Nat → List Ent} {q j : Nat}
def upL (LL : Nat → List Ent) (j : Nat) (M : List Ent) : Nat → List Ent := fun i => if i = j then M else LL i
theorem ThreeD.sum (D : ThreeD g A T LL) : sumN LL ≤ 9 := by
  have h0 := needD_20 (D.da 0 (by decide)).le
  have h1 := needD_20 (D.da 1 (by decide)).le
  have h2 := needD_20 (D.da 2 (by decide)).le
  unfold sumN; omega
theorem sumN_up {M : List Ent} (hj : j < 3) : sumN (upL LL j M) + needD (LL j).length = sumN LL + needD M.length := by
  unfold sumN upL
  have h : j = 0 ∨ j = 1 ∨ j = 2 := by omega
  rcases h with rfl | rfl | rfl
  · rw [if_pos rfl, if_neg (by decide), if_neg (by decide)]; omega
  · rw [if_neg (by decide), if_pos rfl, if_neg (by decide)]; omega
  · rw [if_neg (by decide), if_neg (by decide), if_pos rfl]; omega
theorem ThreeD.add (D : ThreeD g A T LL) (hq : q < 60) (hj : q % 3 = j) (h : T q = false) : ThreeD g (upO A (g j) (some (dirF 1 (LL j ++ [entA q])))) (upB T q true) (upL LL j (LL j ++ [entA q])) := by
  have hj3 : j < 3 := by omega
  refine ⟨fun i hi => ?_, fun i hi => ?_, D.ne⟩
  · unfold upL
    by_cases e : i = j
    · subst e; rw [if_pos rfl]; exact upO_same _ _ _
    · rw [if_neg e]
      unfold upO
      rw [if_neg (D.ne i j hi hj3 e)]
      exact D.at' i hi
  · unfold upL
    by_cases e : i = j
    · subst e; rw [if_pos rfl]; exact (D.da i hi).add hi hq hj h
    · rw [if_neg e]; exact (D.da i hi).other (by omega) hi
theorem ThreeD.same (D : ThreeD g A T LL) (h : T q = true) : ThreeD g A (upB T q true) LL := ⟨D.at', fun i hi => (D.da i hi).same h, D.ne⟩
end
theorem info_int3 : (Tryz.prog.info? 3).map (fun i => (i.zero, i.size, i.bytes)) = some (some (.int .i64 0), 1, 8) := by kernel_rfl
set_option maxRecDepth 100000 in
theorem make_ints3 (n : Nat) (hn : n ≤ 1000) (w : World) : (Instr.makeSlice 22 (.int .i64 n) (.int .i64 n)).run Tryz.prog w =
    .ok (.slice (some ⟨w.heap.size, 0, none⟩) n n) (w.alloc (.cells (ints (List.replicate n 0)) 3 (0, 0))) := by
  obtain ⟨i, hi, hz, hs, hb⟩ := info_parts info_int3
  have := run_make (P := Tryz.prog) w 22 3 i _ Tryz.underlying22 hi hz .i64 .i64 n n (by omega) (by omega) (by rw [hb]; omega) (by omega)
  rw [this, hs]
  simp only [Int.toNat_natCast]
  rw [made_ints]
def natI (l : List Nat) : List Int := l.map fun n : Nat => (n : Int)
theorem natI_length (l : List Nat) : (natI l).length = l.length := by simp [natI]
theorem natI_snoc (l : List Nat) (n : Nat) : natI (l ++ [n]) = natI l ++ [(n : Int)] := by simp [natI]
def ApR1 (x : Fx 60) (b sc nb : Nat) (w : World) (u6 : Value) (wr : World) : Prop :=
  ∃ (ids : List Nat) (A : Nat → Option AF), u6 = .int .i64 (ids.length : Int) ∧ ids.length ≤ 3 ∧ ids.Nodup ∧ (∀ id ∈ ids, A id = some (newF 2)) ∧ Side w wr ∧
    Sat wr (fsA x b A (58 - ids.length) * (pt sc (spO b 60) * (pt nb (.cells (ints (natI ids ++ List.replicate (3 - ids.length) 0)) 3 (0, 0)) * whole w)))
def ApW (x : Fx 60) (b sc nb tb : Nat) (w : World) (is : List Int) (A : Nat → Option AF) (T : Nat → Bool) (LL : Nat → List Ent) : Assn :=
  fsA x b A (58 - sumN LL) * (pt sc (spO b 60) * (pt nb (.cells (ints is) 3 (0, 0)) * (pt tb (.cells (trV 60 T) 4 (0, 0)) * whole w)))
def ApR2 (x : Fx 60) (b sc nb tb : Nat) (w : World) (is : List Int) (g : Nat → Nat) (u10 : Value) (wr : World) : Prop :=
  ∃ (k : Nat) (A : Nat → Option AF) (T : Nat → Bool) (LL : Nat → List Ent), u10 = .int .i64 (k : Int) ∧ ThreeD g A T LL ∧ Side w wr ∧ Sat wr (ApW x b sc nb tb w is A T LL)
def ApR3 (x : Fx 60) (b sc nb tb : Nat) (w : World) (is : List Int) (A : Nat → Option AF) (T : Nat → Bool) (LL : Nat → List Ent) (u14 : Value) (wr : World) : Prop :=
  ∃ d : Nat, d ≤ 3 ∧ u14 = .int .i64 (d : Int) ∧ Side w wr ∧ Sat wr (ApW x b sc nb tb w is A T LL)
def ApR4 (d : Nat) (v : Value) (E : List Ent) (T : Nat → Bool) (w0 : World) (F : Assn) (u17 u18 : Value) (wr : World) : Prop :=
  ∃ m : Nat, m ≤ 20 ∧ u17 = .int .i64 ((eA T d m).length : Int) ∧ u18 = .int .i64 ((3 * m + d : Nat) : Int) ∧ Side w0 wr ∧ Sat wr (RowE v E * F)
set_option maxRecDepth 100000 in
set_option maxHeartbeats 4000000 in
theorem apart18_any (a : Option Addr) (len cap : Nat) (zs : List Int) (w : World) (hz : IsInts w a len cap zs) :
    Calls Tryz.prog 4 #[.slice a len cap] w (LawQ w) := by
  refine callsQ fun Q HQ => ?_
  have Hz := SL.hid hz
  have hm := shown18_any w
  clear hz
  go_enter Tryz.func4, Tryz.ntmps4
  go_wp2_with fail
  refine hm.mono ?_
  rintro e w1 ⟨rfl, h1, d1⟩
  clear hm
  have hsp := SL.hid (space_any 60 (by decide) (by decide) _ w1 h1)
  go_wp2_with fail
  refine hsp.out.mono ?_
  rintro e w2 ⟨x, b, rfl, d2, h2⟩
  clear hsp h1
  obtain ⟨Z3, hZ3⟩ : ∃ Z, ints (List.replicate 3 0) = Z := ⟨_, rfl⟩
  have HZ3 := SL.hid hZ3
  clear hZ3
  have h3 := (h2.alloc (.cells #[.pointer (some ⟨b, 0, none⟩), .int .i64 60] 26 (0, 0))).alloc (.cells Z3 3 (0, 0))
  have D := SL.hid (((d1.trans d2).alloc (.cells #[.pointer (some ⟨b, 0, none⟩), .int .i64 60] 26 (0, 0))).alloc (.cells Z3 3 (0, 0)))
  have hmk : (Instr.makeSlice 22 (.int .i64 3) (.int .i64 3)).run Tryz.prog (w2.alloc (.cells #[.pointer (some ⟨b, 0, none⟩), .int .i64 60] 26 (0, 0))) = .ok (.slice (some ⟨(w2.alloc (.cells #[.pointer (some ⟨b, 0, none⟩), .int .i64 60] 26 (0, 0))).heap.size, 0, none⟩) 3 3) ((w2.alloc (.cells #[.pointer (some ⟨b, 0, none⟩), .int .i64 60] 26 (0, 0))).alloc (.cells Z3 3 (0, 0))) := by rw [← HZ3.out]; exact make_ints3 3 (by decide) _
  have hk0 : (w2.alloc (.cells #[.pointer (some ⟨b, 0, none⟩), .int .i64 60] 26 (0, 0))).cell? ⟨w2.heap.size, 0, none⟩ = some (.pointer (some ⟨b, 0, none⟩)) := (h2.alloc (.cells #[.pointer (some ⟨b, 0, none⟩), .int .i64 60] 26 (0, 0))).cell 0
  rw [World.size_alloc] at h3 hmk
  have H := SL.hid (h3.to (by show pt _ _ * (pt _ (spO b 60) * _) = _; ac_rfl : _ = fsA x b rootA (60 - 2) * (pt w2.heap.size (spO b 60) * (pt (w2.heap.size + 1) (.cells Z3 3 (0, 0)) * whole w))))
  clear h3 h2 d1 d2
  unfold spV
  go_wp2_with fail
  generalize (w2.alloc (.cells #[.pointer (some ⟨b, 0, none⟩), .int .i64 60] 26 (0, 0))).alloc (.cells Z3 3 (0, 0)) = w3 at *
  generalize w2.heap.size + 1 = nb at *
  generalize w2.heap.size = sc at *
  go_loopw [6] (fun u6 wr => ApR1 x b sc nb w u6 wr) (fun u6 _ => 3 - (intOf u6).toNat)
  case atStart => exact ⟨[], rootA, rfl, by decide, List.nodup_nil, fun _ h => (by cases h), D.out, by have h9 := H.out; rw [← HZ3.out] at h9; exact h9⟩
  case round =>
    obtain ⟨ids, A, rfl, hle, hnd, hA, ds, hs⟩ := hrel
    clear H D hmk hk0
    obtain ⟨i, hi⟩ : ∃ i, ids.length = i := ⟨_, rfl⟩
    have cA : wr.cell? ⟨sc, 0, none⟩ = some (.pointer (some ⟨b, 0, none⟩)) := hs.front2.cell 0
    have cB : wr.cell? ⟨sc, 1, none⟩ = some (.int .i64 60) := hs.front2.cell 1
    rw [hi] at hle hs ⊢
    by_cases hlt : i < 3
    · have hlt' : (i : Int) < 3 := by omega
      have hn := y_new (kd := 2) hs (.inr rfl) (by omega)
      have Hn := SL.hid hn; have Hi := SL.hid hi; have Hnd := SL.hid hnd; have HA := SL.hid hA
      clear hn hi hnd hA hs
      go_wp2_with fail
      refine Hn.out.mono ?_
      rintro e w4 ⟨id, rfl, r1, i0, i1, d4, h4⟩
      have c4 : w4.cell? ⟨nb, i, none⟩ = some (.int .i64 0) := by
        rw [h4.front3.cell i, get_ints, List.getElem?_append_right (by rw [natI_length]; exact Nat.le_of_eq Hi.out), natI_length, Hi.out, Nat.sub_self, List.getElem?_replicate, if_pos (by omega)]; rfl
      have f4 := h4.front3.frozen i
      have h5 := h4.front3.setCell i (.int .i64 (id : Int))
      rw [set_ints] at h5
      have hset : (natI ids ++ List.replicate (3 - i) 0).set i (id : Int) = natI (ids ++ [id]) ++ List.replicate (3 - (i + 1)) 0 := by
        rw [List.set_append_right _ _ (by rw [natI_length]; exact Nat.le_of_eq Hi.out), natI_length, Hi.out, Nat.sub_self, show 3 - i = (3 - (i + 1)) + 1 by omega, List.replicate_succ, List.set_cons_zero, natI_snoc]; simp
      rw [hset] at h5
      have H5 := SL.hid (h5.to (by ac_rfl : _ = fsA x b (upO A id (some (newF 2))) (58 - i - 1) * (pt sc (spO b 60) * (pt nb (.cells (ints (natI (ids ++ [id]) ++ List.replicate (3 - (i + 1)) 0)) 3 (0, 0)) * whole w))))
      have D5 := SL.hid ((ds.trans d4).setCell ⟨nb, i, none⟩ (.int .i64 (id : Int)))
      have HR1 := SL.hid r1
      clear h4 h5 hset d4 Hn cA cB r1
      go_wp2_with fail
      all_goals refine ⟨⟨ids ++ [id], upO A id (some (newF 2)), by rw [List.length_append, List.length_singleton, Hi.out]; simp, by rw [List.length_append, List.length_singleton, Hi.out]; omega, ?_, ?_, D5.out, ?_⟩, ?_⟩
      · rw [List.nodup_append]
        refine ⟨Hnd.out, by simp, fun y hy z hz => ?_⟩
        rw [List.mem_singleton.1 hz]
        intro e
        subst e
        exact absurd (HA.out y hy) (by rw [HR1.out]; simp)
      · intro y hy
        unfold upO
        split
        · rfl
        · rename_i hne
          rcases List.mem_append.1 hy with h | h
          · exact HA.out y h
          · exact absurd (List.mem_singleton.1 h) hne
      · have h9 := H5.out
        rw [show 58 - i - 1 = 58 - (i + 1) by omega] at h9
        rw [List.length_append, List.length_singleton, Hi.out]; exact h9
      · simp [intOf]; omega
    · have hi3 : i = 3 := by omega
      subst hi3
      obtain ⟨g, hg⟩ : ∃ g : Nat → Nat, g = fun j => ids.getD j 0 := ⟨_, rfl⟩
      have hgm : ∀ j, j < 3 → ∃ hj : j < ids.length, g j = ids[j]'hj := fun j hj => ⟨by omega, by rw [hg]; simp [List.getD, List.getElem?_eq_getElem (show j < ids.length by omega)]⟩
      have hD3 : ThreeD g A (fun _ => false) (fun _ => []) := ⟨fun j hj => by
          obtain ⟨h9, e⟩ := hgm j hj
          rw [e, hA _ (List.getElem_mem h9), dirF_new], fun j _ => Da.nil, fun i j h1 h2 h3 => by
          obtain ⟨h9, e1⟩ := hgm i h1
          obtain ⟨h8, e2⟩ := hgm j h2
          rw [e1, e2]
          have h7 := List.nodup_iff_pairwise_ne.1 hnd
          rw [List.pairwise_iff_getElem] at h7
          rcases Nat.lt_or_gt_of_ne h3 with h | h
          · exact h7 i j h9 h8 h
          · exact fun e => h7 j i h8 h9 h e.symm⟩
      obtain ⟨is, his⟩ : ∃ is, natI ids = is := ⟨_, rfl⟩
      have hisj : ∀ j, j < 3 → (ints is)[j]? = some (.int .i64 (g j : Int)) := fun j hj => by
        obtain ⟨h9, e⟩ := hgm j hj
        rw [get_ints, ← his, e]
        simp [natI, List.getElem?_eq_getElem h9]
      rw [Nat.sub_self, List.replicate_zero, List.append_nil, his] at hs
      have h3 := hs.alloc (.cells (trV 60 fun _ => false) 4 (0, 0))
      have D := SL.hid (ds.alloc (.cells (trV 60 fun _ => false) 4 (0, 0)))
      have H : Hid (Sat (wr.alloc (.cells (trV 60 fun _ => false) 4 (0, 0))) (ApW x b sc nb wr.heap.size w is A (fun _ => false) (fun _ => []))) := h3.to (by unfold ApW; show _ = fsA x b A 55 * _; ac_rfl)
      have hmk : (Instr.makeSlice 28 (.int .i64 60) (.int .i64 60)).run Tryz.prog wr = .ok (.slice (some ⟨wr.heap.size, 0, none⟩) 60 60) (wr.alloc (.cells (trV 60 fun _ => false) 4 (0, 0))) := make_bools 60 (by decide) wr
      have HD3 := SL.hid hD3; have HIs := SL.hid hisj
      clear hs h3 ds hgm hg hnd hA hD3 hisj his cA cB hi
      go_wp2_with fail
      generalize (wr.alloc (.cells (trV 60 fun _ => false) 4 (0, 0))) = w4 at *
      generalize wr.heap.size = tb at *
      go_loopw [10] (fun u10 wr => ApR2 x b sc nb tb w is g u10 wr) (fun u10 _ => len - (intOf u10).toNat)
      case atStart => exact ⟨0, A, _, _, rfl, HD3.out, D.out, H.out⟩
      case round =>
        obtain ⟨k, A2, T, LL, rfl, hD, ds, hs⟩ := hrel
        clear H D hmk HD3
        have HS : Hid (Sat wr (fsA x b A2 (58 - sumN LL) * (pt sc (spO b 60) * (pt nb (.cells (ints is) 3 (0, 0)) * (pt tb (.cells (trV 60 T) 4 (0, 0)) * whole w))))) := hs
        have HD := SL.hid hD; have DS := SL.hid ds
        have cA : wr.cell? ⟨sc, 0, none⟩ = some (.pointer (some ⟨b, 0, none⟩)) := HS.out.front2.cell 0
        have cB : wr.cell? ⟨sc, 1, none⟩ = some (.int .i64 60) := HS.out.front2.cell 1
        by_cases hlt : k < len ∧ k < 80
        · obtain ⟨hl, h30⟩ := hlt
          have hl' : (k : Int) < (len : Int) := by omega
          have h30' : (k : Int) < 80 := by omega
          obtain ⟨ab, ao, rfl, hcell, hlc, hcap, x0, x1⟩ := Hz.out.cell hl
          have cx : wr.cell? ⟨ab, ao + k, none⟩ = some (.int .i64 (zs.getD k 0)) := (HS.out.to (by ac_rfl : _ = (fsA x b A2 (58 - sumN LL) * (pt sc (spO b 60) * (pt nb (.cells (ints is) 3 (0, 0)) * pt tb (.cells (trV 60 T) 4 (0, 0))))) * whole w)).cellOld hcell
          have hcap' : (cap : Int) ≤ 9223372036854775807 := by omega
          have hlc' : (len : Int) ≤ (cap : Int) := by omega
          obtain ⟨z, hz⟩ : ∃ z, zs.getD k 0 = z := ⟨_, rfl⟩
          rw [hz] at cx x0 x1
          have hand := and16 z
          have htm : (z % 65536).tmod 60 = z % 65536 % 60 := Int.tmod_eq_emod_of_nonneg (by omega)
          obtain ⟨q, hq⟩ : ∃ q : Nat, z % 65536 % 60 = (q : Int) := ⟨(z % 65536 % 60).toNat, by omega⟩
          rw [hq] at htm
          have hq60 : q < 60 := by omega
          have hq60' : (q : Int) < 60 := by omega
          obtain ⟨j, hj⟩ : ∃ j, q % 3 = j := ⟨_, rfl⟩
          obtain ⟨p, hp⟩ : ∃ p, q / 3 = p := ⟨_, rfl⟩
          have hj3 : j < 3 := by omega
          have hp20 : p < 20 := by omega
          have hp20' : (p : Int) < 20 := by omega
          have hjm : (q : Int).tmod 3 = (j : Int) := by rw [Int.tmod_eq_emod_of_nonneg (by omega)]; omega
          have hjm2 : (q : Int) % 3 = (j : Int) := by omega
          have hpm : (q : Int).tdiv 3 = (p : Int) := by rw [Int.tdiv_eq_ediv_of_nonneg (by omega)]; omega
          have hpm2 : (q : Int) / 3 = (p : Int) := by omega
          have hj3' : (j : Int) < 3 := by omega
          have cN : wr.cell? ⟨nb, j, none⟩ = some (.int .i64 (g j : Int)) := by rw [HS.out.front3.cell j]; exact HIs.out j hj3
          have hnum : Hid (∀ w, Calls Tryz.prog 10 #[.int .i64 (IntKind.i64.wrap (p : Int))] w (NmbQ p w)) := SL.hid (fun w => by rw [show IntKind.i64.wrap (p : Int) = (p : Int) by rw [IntKind.wrap_i64]; omega]; exact nmb_any p (by omega) w)
          have Hj := SL.hid hj; have Hp := SL.hid hp
          clear hcell hz hs hD ds hq hlc hj hp
          obtain ⟨c0, hc⟩ : ∃ c, T q = c := ⟨_, rfl⟩
          have HC := SL.hid hc
          clear hc
          cases c0
          case true =>
            obtain ⟨i, hi⟩ := (HD.out.da j hj3).there hj3 hq60 Hj.out HC.out
            have hadd : ∀ w', Sat w' (fsA x b A2 (58 - sumN LL) * (pt sc (spO b 60) * (pt nb (.cells (ints is) 3 (0, 0)) * (pt tb (.cells (trV 60 T) 4 (0, 0)) * whole w)))) → Calls Tryz.prog 11 #[spV b 60, .int .i64 (g j : Int), .string (str (nmb p)), .int .i64 (IntKind.i64.wrap ((q : Int) + 1))] w' (YE x b A2 (58 - sumN LL) 6 (pt sc (spO b 60) * (pt nb (.cells (ints is) 3 (0, 0)) * (pt tb (.cells (trV 60 T) 4 (0, 0)) * whole w))) w') := fun w' h => by
              rw [show IntKind.i64.wrap ((q : Int) + 1) = ((q + 1 : Nat) : Int) by rw [IntKind.wrap_i64]; omega]
              exact add_exist (id := g j) (by omega) (by omega) h (HD.out.at' j hj3) ((HD.out.da j hj3).ok hj3) (by have := (HD.out.da j hj3).le; omega) (nmb_ok (by omega)) (by rw [← Hp.out]; exact hi)
            clear hi
            have Hadd := SL.hid hadd
            clear hadd
            go_wp2_with fail
            go_region_held3 (fun w' => w'.cell? ⟨sc, 0, none⟩ = some (.pointer (some ⟨b, 0, none⟩)) ∧ w'.cell? ⟨sc, 1, none⟩ = some (.int .i64 60) ∧ w'.cell? ⟨nb, j, none⟩ = some (.int .i64 (g j : Int))) (first | exact ⟨cA, cB, cN⟩ | exact kA | exact kB | go_keep)
              (first | (go_at_call 10; refine (hnum.out wr.drew).mono ?_; rintro e w5 ⟨rfl, h5, d5⟩; have HS5 := h5.keepW (Sat.drew HS.out); have kA : w5.cell? ⟨sc, 0, none⟩ = some (.pointer (some ⟨b, 0, none⟩)) ∧ w5.cell? ⟨sc, 1, none⟩ = some (.int .i64 60) ∧ w5.cell? ⟨nb, j, none⟩ = some (.int .i64 (g j : Int)) := ⟨HS5.front2.cell 0, HS5.front2.cell 1, by rw [HS5.front3.cell j]; exact HIs.out j hj3⟩)
                     | (go_at_call 11; refine (Hadd.out _ HS5).mono ?_; rintro e w6 ⟨rfl, d6, h6⟩; have kB : w6.cell? ⟨sc, 0, none⟩ = some (.pointer (some ⟨b, 0, none⟩)) ∧ w6.cell? ⟨sc, 1, none⟩ = some (.int .i64 60) ∧ w6.cell? ⟨nb, j, none⟩ = some (.int .i64 (g j : Int)) := ⟨h6.front2.cell 0, h6.front2.cell 1, by rw [h6.front3.cell j]; exact HIs.out j hj3⟩))
            rename_i hHeld
            have ct6 : w6.cell? ⟨tb, q, none⟩ = some (.bool true) := by rw [h6.front4.cell q, trV_get hq60, HC.out]
            have f6 := h6.front4.frozen q
            have h7 := h6.front4.setCell q (.bool true)
            rw [trV_set] at h7
            have D7 := SL.hid ((((DS.out.drew).trans d5).trans d6).setCell ⟨tb, q, none⟩ (.bool true))
            have H7 := SL.hid h7
            clear hHeld kA kB HS5 h5 h6 h7 d5 d6 Hadd hnum HS cA cB cN
            go_wp2_with fail
            all_goals refine ⟨⟨k + 1, A2, upB T q true, LL, by simp, HD.out.same HC.out, D7.out, by unfold ApW; exact H7.out.to (by ac_rfl)⟩, ?_⟩
            all_goals (simp [intOf]; omega)
          case false =>
            have hi := (HD.out.da j hj3).gone hj3 hq60 Hj.out HC.out
            have hle := (HD.out.da j hj3).le
            have hsum := HD.out.sum
            have hup := sumN_up (LL := LL) (j := j) (M := LL j ++ [entA q]) hj3
            have hneed := needD_20 (l := (LL j).length) hle
            have hneed2 : needD ((LL j).length + 1) ≤ 4 := by unfold needD; split <;> omega
            have hmono := needD_mono (l := (LL j).length)
            rw [List.length_append, List.length_singleton] at hup
            have hadd : ∀ w', Sat w' (fsA x b A2 (58 - sumN LL) * (pt sc (spO b 60) * (pt nb (.cells (ints is) 3 (0, 0)) * (pt tb (.cells (trV 60 T) 4 (0, 0)) * whole w)))) → Calls Tryz.prog 11 #[spV b 60, .int .i64 (g j : Int), .string (str (nmb p)), .int .i64 (IntKind.i64.wrap ((q : Int) + 1))] w' (YE x b (upO A2 (g j) (some (dirF 1 (LL j ++ [entA q])))) (58 - sumN (upL LL j (LL j ++ [entA q]))) 0 (pt sc (spO b 60) * (pt nb (.cells (ints is) 3 (0, 0)) * (pt tb (.cells (trV 60 T) 4 (0, 0)) * whole w))) w') := fun w' h => by
              rw [show IntKind.i64.wrap ((q : Int) + 1) = ((q + 1 : Nat) : Int) by rw [IntKind.wrap_i64]; omega]
              have h9 := add_yes (id := g j) (child := q + 1) (nm := nmb p) (by omega) (by omega) h (HD.out.at' j hj3) ((HD.out.da j hj3).ok hj3) (by omega) (nmb_ok (by omega)) (by rw [← Hp.out]; exact hi) (by omega)
              rw [show (58 - sumN LL) + needD (LL j).length - needD ((LL j).length + 1) = 58 - sumN (upL LL j (LL j ++ [entA q])) by omega] at h9
              rw [show (⟨q + 1, nmb p⟩ : Ent) = entA q by unfold entA; rw [Hp.out]] at h9
              exact h9
            clear hi hle hsum hup hneed hneed2 hmono
            have Hadd := SL.hid hadd
            clear hadd
            go_wp2_with fail
            go_region_held3 (fun w' => w'.cell? ⟨sc, 0, none⟩ = some (.pointer (some ⟨b, 0, none⟩)) ∧ w'.cell? ⟨sc, 1, none⟩ = some (.int .i64 60) ∧ w'.cell? ⟨nb, j, none⟩ = some (.int .i64 (g j : Int))) (first | exact ⟨cA, cB, cN⟩ | exact kA | exact kB | go_keep)
              (first | (go_at_call 10; refine (hnum.out wr.drew).mono ?_; rintro e w5 ⟨rfl, h5, d5⟩; have HS5 := h5.keepW (Sat.drew HS.out); have kA : w5.cell? ⟨sc, 0, none⟩ = some (.pointer (some ⟨b, 0, none⟩)) ∧ w5.cell? ⟨sc, 1, none⟩ = some (.int .i64 60) ∧ w5.cell? ⟨nb, j, none⟩ = some (.int .i64 (g j : Int)) := ⟨HS5.front2.cell 0, HS5.front2.cell 1, by rw [HS5.front3.cell j]; exact HIs.out j hj3⟩)
                     | (go_at_call 11; refine (Hadd.out _ HS5).mono ?_; rintro e w6 ⟨rfl, d6, h6⟩; have kB : w6.cell? ⟨sc, 0, none⟩ = some (.pointer (some ⟨b, 0, none⟩)) ∧ w6.cell? ⟨sc, 1, none⟩ = some (.int .i64 60) ∧ w6.cell? ⟨nb, j, none⟩ = some (.int .i64 (g j : Int)) := ⟨h6.front2.cell 0, h6.front2.cell 1, by rw [h6.front3.cell j]; exact HIs.out j hj3⟩))
            rename_i hHeld
            have ct6 : w6.cell? ⟨tb, q, none⟩ = some (.bool false) := by rw [h6.front4.cell q, trV_get hq60, HC.out]
            have f6 := h6.front4.frozen q
            have h7 := h6.front4.setCell q (.bool true)
            rw [trV_set] at h7
            have D7 := SL.hid ((((DS.out.drew).trans d5).trans d6).setCell ⟨tb, q, none⟩ (.bool true))
            have H7 := SL.hid h7
            clear hHeld kA kB HS5 h5 h6 h7 d5 d6 Hadd hnum HS cA cB cN
            go_wp2_with fail
            all_goals refine ⟨⟨k + 1, _, upB T q true, _, by simp, HD.out.add hq60 Hj.out HC.out, D7.out, by unfold ApW; exact H7.out.to (by ac_rfl)⟩, ?_⟩
            all_goals (simp [intOf]; omega)
        · have hout : (¬ (k : Int) < (len : Int)) ∨ ((k : Int) < (len : Int) ∧ ¬ (k : Int) < 80) := by omega
          clear hlt hs cA cB hD ds
          rcases hout with ho | ⟨ho1, ho2⟩
          all_goals
            go_wp2_with fail
            go_loopw [14] (fun u14 wr => ApR3 x b sc nb tb w is A2 T LL u14 wr) (fun u14 _ => 3 - (intOf u14).toNat)
            case atStart => exact ⟨0, by decide, rfl, DS.out, HS.out⟩
            case round =>
              clear HS DS
              obtain ⟨d, hd, rfl, ds, hs⟩ := hrel
              have HS : Hid (Sat wr (fsA x b A2 (58 - sumN LL) * (pt sc (spO b 60) * (pt nb (.cells (ints is) 3 (0, 0)) * (pt tb (.cells (trV 60 T) 4 (0, 0)) * whole w))))) := hs
              have cA : wr.cell? ⟨sc, 0, none⟩ = some (.pointer (some ⟨b, 0, none⟩)) := HS.out.front2.cell 0
              have cB : wr.cell? ⟨sc, 1, none⟩ = some (.int .i64 60) := HS.out.front2.cell 1
              clear hs
              by_cases hd3 : d < 3
              · have hd3' : (d : Int) < 3 := by omega
                have cN : wr.cell? ⟨nb, d, none⟩ = some (.int .i64 (g d : Int)) := by rw [HS.out.front3.cell d]; exact HIs.out d hd3
                have hl := fun w' h => listT_any (x := x) (b := b) (k := 58 - sumN LL) (id := g d) (w := w') (F := (pt sc (spO b 60) * (pt nb (.cells (ints is) 3 (0, 0)) * (pt tb (.cells (trV 60 T) 4 (0, 0)) * whole w)))) h (HD.out.at' d hd3) ((HD.out.da d hd3).ok hd3) (by have := (HD.out.da d hd3).le; omega) ((HD.out.da d hd3).nd hd3)
                have Hl := SL.hid hl
                clear hl
                go_wp2_with fail
                go_region_held3 (fun w' => w'.cell? ⟨sc, 0, none⟩ = some (.pointer (some ⟨b, 0, none⟩)) ∧ w'.cell? ⟨sc, 1, none⟩ = some (.int .i64 60) ∧ w'.cell? ⟨nb, d, none⟩ = some (.int .i64 (g d : Int))) (first | exact ⟨cA, cB, cN⟩ | exact kB | go_keep)
                  (first | (go_at_call 16; refine (Hl.out _ HS.out.drew).mono ?_; rintro e w6 ⟨u, W, rfl, p6, s6, d6, h6⟩; have kB : w6.cell? ⟨sc, 0, none⟩ = some (.pointer (some ⟨b, 0, none⟩)) ∧ w6.cell? ⟨sc, 1, none⟩ = some (.int .i64 60) ∧ w6.cell? ⟨nb, d, none⟩ = some (.int .i64 (g d : Int)) := ⟨h6.front3.cell 0, h6.front3.cell 1, by rw [h6.front4.cell d]; exact HIs.out d hd3⟩))
                rename_i hHeld
                obtain rfl : W = eA T d 20 := (HD.out.da d hd3).sorted hd3 p6 s6
                obtain ⟨E, hE⟩ : ∃ E, eA T d 20 = E := ⟨_, rfl⟩
                rw [hE] at h6
                have hE20 : E.length ≤ 20 := by rw [← hE]; exact eA_le 20
                obtain ⟨ua, uc, rfl⟩ := sl_shape h6
                obtain ⟨EN, hEN⟩ : ∃ n, E.length = n := ⟨_, rfl⟩
                have H6 := SL.hid h6; have D6 := SL.hid (ds.drew.trans d6); have HE := SL.hid hE; have HEN := SL.hid hEN
                rw [hEN] at H6 hE20 ⊢
                have hE20' : (EN : Int) ≤ 20 := by omega
                clear hHeld kB h6 d6 p6 s6 hE hEN Hl cA cB cN HS
                go_wp2_with fail
                go_loopw [17, 18] (fun u17 u18 wr => ApR4 d (.slice ua EN uc) E T w (fsA x b A2 (58 - sumN LL) * (pt sc (spO b 60) * (pt nb (.cells (ints is) 3 (0, 0)) * (pt tb (.cells (trV 60 T) 4 (0, 0)) * whole w)))) u17 u18 wr) (fun _ u18 _ => 70 - (intOf u18).toNat)
                case atStart => exact ⟨0, by decide, rfl, by simp, D6.out, H6.out⟩
                case round =>
                  clear H6 D6
                  obtain ⟨m, hm20, rfl, rfl, ds2, hs2⟩ := hrel
                  obtain ⟨kk, hkk⟩ : ∃ kk, 3 * m + d = kk := ⟨_, rfl⟩
                  obtain ⟨ei, hei⟩ : ∃ i, (eA T d m).length = i := ⟨_, rfl⟩
                  rw [hkk, hei]
                  by_cases hm : m < 20
                  · have hk60 : kk < 60 := by omega
                    have hk60' : (kk : Int) < 60 := by omega
                    have ct : wr.cell? ⟨tb, kk, none⟩ = some (.bool (T kk)) := by rw [hs2.front5.cell kk]; exact trV_get hk60
                    obtain ⟨c0, hc⟩ : ∃ c, T kk = c := ⟨_, rfl⟩
                    rw [hc] at ct
                    have HS2 := SL.hid hs2; have Hei := SL.hid hei; have Hkk := SL.hid hkk
                    cases c0
                    case false =>
                      have hsk : Hid (eA T d (m + 1) = eA T d m) := eA_skip (by rw [hkk]; exact hc)
                      clear hs2 hei hkk hc
                      go_wp2_with fail
                      all_goals refine ⟨⟨m + 1, by omega, by rw [hsk.out, Hei.out], by rw [show 3 * (m + 1) + d = kk + 3 by have := Hkk.out; omega]; simp, ds2, HS2.out⟩, ?_⟩
                      all_goals (simp [intOf]; omega)
                    case true =>
                      obtain ⟨h1, h2⟩ := eA_at (T := T) (j := d) hm (by rw [hkk]; exact hc)
                      rw [HE.out, hei] at h1
                      rw [hei] at h2
                      have heiN : ei < EN := by rw [← HEN.out]; exact (List.getElem?_eq_some_iff.1 h1).1
                      have heiN' : (ei : Int) < (EN : Int) := by omega
                      obtain ⟨eb, ec, e, e1, e2, k1, k2⟩ := rowE_get hs2 (by rw [HEN.out]; exact heiN) h1
                      rw [HEN.out] at e k1
                      simp only [Value.slice.injEq] at e
                      obtain ⟨rfl, -, rfl⟩ := e
                      rw [entA_nm hd3] at e2
                      rw [show ((entA (3 * m + d)).nd : Int) = (kk : Int) + 1 by unfold entA; rw [hkk]; simp] at e1
                      have k1' : (EN : Int) ≤ (uc : Int) := by omega
                      have hdv : (kk : Int).tdiv 3 = (m : Int) := by rw [Int.tdiv_eq_ediv_of_nonneg (by omega)]; omega
                      have hdv2 : (kk : Int) / 3 = (m : Int) := by omega
                      have hm20' : (m : Int) < 20 := by omega
                      have hwk : IntKind.i64.wrap ((kk : Int) + 1) = (kk : Int) + 1 := by rw [IntKind.wrap_i64]; omega
                      have hnl : ¬ ((EN : Int) ≤ (ei : Int)) := by omega
                      have hnl2 : decide ((EN : Int) ≤ (ei : Int)) = false := decide_eq_false hnl
                      have hnl3 : decide (EN ≤ ei) = false := decide_eq_false (by omega)
                      have hnum : Hid (∀ w, Calls Tryz.prog 10 #[.int .i64 (IntKind.i64.wrap (m : Int))] w (NmbQ m w)) := SL.hid (fun w => by rw [show IntKind.i64.wrap (m : Int) = (m : Int) by rw [IntKind.wrap_i64]; omega]; exact nmb_any m (by omega) w)
                      have H1 := SL.hid h1; have H2 := SL.hid h2
                      have hkA : ∀ w7, Sat w7 (RowE (.slice (some ⟨eb, 0, none⟩) EN uc) E * (fsA x b A2 (58 - sumN LL) * (pt sc (spO b 60) * (pt nb (.cells (ints is) 3 (0, 0)) * (pt tb (.cells (trV 60 T) 4 (0, 0)) * whole w))))) → w7.cell? ⟨eb, ei * 2, none⟩ = some (.int .i64 ((kk : Int) + 1)) ∧ w7.cell? ⟨eb, ei * 2 + 1, none⟩ = some (.string (str (nmb m))) := fun w7 HS7 => by
                        obtain ⟨g', c', e', x1, x2, -, -⟩ := rowE_get HS7 (by rw [HEN.out]; exact heiN) h1
                        simp only [Value.slice.injEq, Option.some.injEq, Addr.mk.injEq] at e'
                        obtain ⟨⟨rfl, -⟩, -⟩ := e'
                        rw [entA_nm hd3] at x2
                        rw [show ((entA (3 * m + d)).nd : Int) = (kk : Int) + 1 by unfold entA; rw [hkk]; simp] at x1
                        exact ⟨x1, x2⟩
                      have HkA := SL.hid hkA
                      clear hs2 hei hkk hc h1 h2 k1 hkA
                      go_wp2_with fail
                      go_region_held3 (fun w' => w'.cell? ⟨eb, ei * 2, none⟩ = some (.int .i64 ((kk : Int) + 1)) ∧ w'.cell? ⟨eb, ei * 2 + 1, none⟩ = some (.string (str (nmb m)))) (first | exact ⟨e1, e2⟩ | exact kA | go_keep)
                        (first | (go_at_call 10; refine (hnum.out wr.drew).mono ?_; rintro e w7 ⟨rfl, h7, d7⟩; have HS7 := h7.keepW (Sat.drew HS2.out); have kA : w7.cell? ⟨eb, ei * 2, none⟩ = some (.int .i64 ((kk : Int) + 1)) ∧ w7.cell? ⟨eb, ei * 2 + 1, none⟩ = some (.string (str (nmb m))) := HkA.out w7 HS7))
                      rename_i hHeld
                      have HS8 := SL.hid HS7; have D8 := SL.hid (ds2.drew.trans d7)
                      clear hHeld kA HS7 h7 d7 hnum HS2 e1 e2 ct
                      go_wp2_with fail
                      all_goals refine ⟨⟨m + 1, by omega, by rw [H2.out]; simp, by rw [show 3 * (m + 1) + d = kk + 3 by have := Hkk.out; omega]; simp, D8.out, HS8.out⟩, ?_⟩
                      all_goals (simp [intOf]; omega)
                  · obtain rfl : m = 20 := by omega
                    have hk60 : ¬ (kk : Int) < 60 := by omega
                    obtain rfl : ei = EN := by rw [← hei, ← HEN.out, HE.out]
                    have HS2 := SL.hid hs2.right
                    clear hs2 hei hkk
                    go_wp2_with fail
                    all_goals refine ⟨⟨d + 1, by omega, by simp, ds2, HS2.out⟩, ?_⟩
                    all_goals (simp [intOf]; omega)
              · obtain rfl : d = 3 := by omega
                clear hd hd3
                go_wp2_with fail
                exact HQ.out _ _ ⟨by simp, HS.out.right.right.right.right, ds⟩
end Go.Proofs.YtaoohjeaaccnfaaGreat.Fs

/- batch: All, as an iterator. -/
import Derived.Test.YtcgpegdnicnciaaKs
import Derived.Test.YtcgpegdnicnciaaW9
namespace Go.Proofs.Ytcgpegdnicnciaa
set_option linter.unusedVariables false
set_option linter.unusedSimpArgs false
open Go.RowKit Go.SL
attribute [local go_sem] Oper.semAt_some
theorem callW {P : Program} {f : FuncId} {args : Array Value} {w : World} {R R' : Ending → World → Prop} {n m : Nat} (h : Calls P f args w R) (hr : ∀ e w, R e w → R' e w) :
    Fence.wide.fn f ∧ (Fence.wide.depth.isSome = true → 1 ≤ m) ∧ CallsIn Fence.wide n P f args w R' := ⟨trivial, fun h => (by cases h), (callsIn_wide.2 h).mono hr⟩
theorem callR {P : Program} {f : FuncId} {args : Array Value} {w : World} {R R' : Ending → World → Prop} {n m l : Nat} (h : Calls P f args w R) (hr : ∀ e w, R e w → R' e w) :
    (Fence.wide.inRound l).fn f ∧ ((Fence.wide.inRound l).depth.isSome = true → 1 ≤ m) ∧ CallsIn (Fence.wide.inRound l) n P f args w R' := ⟨trivial, fun h => (by cases h), CallsIn.inRound l ((callsIn_wide.2 h).mono hr)⟩
theorem sorted_pairwise (l : List Int) : (sorted l).Pairwise (· ≤ ·) := by
  have := List.pairwise_mergeSort (le := fun x y : Int => decide (x ≤ y)) (by intro a b c h1 h2; simp at *; omega) (by intro a b; simp; omega) l
  exact this.imp (by simp)
theorem sorted_congr {l m : List Int} (h : l.Perm m) : sorted l = sorted m :=
  List.Perm.eq_of_pairwise (le := (· ≤ ·)) (fun a b _ _ h1 h2 => by omega) (sorted_pairwise l) (sorted_pairwise m) ((sorted_perm l).trans (h.trans (sorted_perm m).symm))
/-- A book, rising. -/
def asc (C : CB) : CB := (sorted (C.map Prod.fst)).map fun k => (k, (kget C k).getD [])
def allT (x : Int × List UInt8) (vs : Array Value) : Assn := ex fun dv => fact (vs = #[.int .i64 x.1, dv]) * bs 5 dv x.2
theorem Sat.allT {w : World} {Fr : Assn} {dv : Value} (x : Int × List UInt8) (h : Sat w (bs 5 dv x.2 * Fr)) : Sat w (allT x #[.int .i64 x.1, dv] * Fr) :=
  Sat.ex_star_iff.2 ⟨dv, (Sat.fact_iff.2 ⟨rfl, h⟩ : Sat w (fact _ * _)).to (star_assoc _ _ _).symm⟩
def KeysFQ (c : Nat) (w : World) (e : Ending) (w' : World) : Prop := e = .returned (.func (.func 33) #[] #[.pointer (some ⟨w.heap.size, 0, none⟩)]) ∧ w' = w.alloc (.cells #[.map (some c)] 49 (0, 0))
theorem keysF_any (w : World) (c : Nat) : Calls Try.prog 30 #[.map (some c)] w (KeysFQ c w) := by
  go_enter Try.func30, Try.ntmps30
  go_wp2
  go_ret
  exact ⟨rfl, rfl⟩
def AllFQ (p : Option Addr) (w : World) (e : Ending) (w' : World) : Prop := e = .returned (.func (.func 28) #[] #[.pointer (some ⟨w.heap.size, 0, none⟩)]) ∧ w' = w.alloc (.cells #[.pointer p] 24 (0, 0))
theorem allF_any (w : World) (p : Option Addr) : Calls Try.prog 25 #[.pointer p] w (AllFQ p w) := by
  go_enter Try.func25, Try.ntmps25
  go_wp2
  go_ret
  exact ⟨rfl, rfl⟩
/-- What the iterator reads. -/
def AllIt (S : Hp) (bx b : Nat) (rd : Value) (err : Int) (W D : CB) : Assn :=
  pt bx (.cells #[.pointer (some ⟨b, 0, none⟩)] 24 (0, 0)) * (batchA 54 5 S b rd err W D * pool S)
def AllRel (A : List (Int × List UInt8) → Assn) (W : CB) (v : Value) (ks : List Int) (X : Assn) (w0 : World) (i : Value) (wr : World) : Prop :=
  ∃ k : Nat, k ≤ ks.length ∧ i = .int .i64 k ∧ Side w0 wr ∧ Sat wr (A ((asc W).take k) * (sl 3 1 v ks.length (i64v ks) * X))
theorem asc_snoc (W : CB) (k : Nat) (h : k < (sorted (W.map Prod.fst)).length) :
    (asc W).take k ++ [((sorted (W.map Prod.fst))[k], (kget W (sorted (W.map Prod.fst))[k]).getD [])] = (asc W).take (k + 1) := by
  have hk : k < (asc W).length := by simpa [asc] using h
  rw [List.take_succ_eq_append_getElem hk]
  simp [asc]
set_option maxRecDepth 100000 in
set_option maxHeartbeats 2000000 in
theorem all_iter (n : Nat) (S : Hp) (bx b : Nat) (rd : Value) (err : Int) (W D : CB) (hW : W.length ≤ 1000000) :
    Iterates Fence.wide n Try.prog 28 #[.pointer (some ⟨bx, 0, none⟩)] (AllIt S bx b rd err W D) allT (fun ys => ys = asc W) (fun ys => ys <+: asc W) := by
  intro l A Ax G w0 w hY hs h0
  have hB : Sat w (batchA 54 5 S b rd err W D * (pool S * (pt bx (.cells #[.pointer (some ⟨b, 0, none⟩)] 24 (0, 0)) * (A [] * G)))) := h0.to (by unfold AllIt; ac_rfl)
  have hbx := hB.front3.cell 0
  obtain ⟨x, hx⟩ := hB.batchOpen
  have hc2 : w.cell? ⟨b, 2, none⟩ = some x.wv := hx.cell 2
  obtain ⟨Z, z1, z2, z3, hrd, _⟩ := (hx.to (by ac_rfl : _ = bookA 5 S x.wv x.ws W * (pool S * (pt b (.cells (x.cells rd err) 54 (0, 0)) * (bookA 5 S x.tv x.ts D * (askA x.av * (pt bx (.cells #[.pointer (some ⟨b, 0, none⟩)] 24 (0, 0)) * (A [] * G)))))))).bookCases
  clear hB hx
  have Hrd := hid hrd; clear hrd
  refine callsIn_of_wp Try.func28 rfl trivial ?_ rfl
  simp only [Try.ntmps28, List.size_toArray, List.length_cons, List.length_nil, Nat.reduceAdd, Nat.reduceSub, Array.replicate_succ, Array.replicate_zero, List.push_toArray, List.append_toArray, List.nil_append, List.cons_append]
  gi_wp2_with fail
  refine callW (copied_any w x.wv _ Hrd.out) ?_
  rintro e w1 ⟨c, Dm, rfl, hperm, hs1, hd1⟩
  have H1 := hs1.under h0
  clear hbx hc2 h0 hs1
  gi_wp2_with fail
  refine callW (keysF_any w1 c) ?_
  rintro e w2 ⟨rfl, rfl⟩
  have H2 := H1.alloc (.cells #[.map (some c)] 49 (0, 0))
  have hlen : Dm.length ≤ 1000000 := by
    have e1 := hperm.length_eq; have e2 := z1.length_eq
    simp only [List.length_map] at e1 e2; omega
  have Hkl : Hid (∀ ys : List Int, ys.Perm (keysOf Dm) → ys.length ≤ 1000000) := fun ys h => by rw [h.length_eq]; simpa [keysOf] using hlen
  have Hpl : Hid (∀ ys : List Int, partOf Dm ys → ys.length ≤ 1000000) := fun ys h => Nat.le_trans (nodup_le h.1 h.2) (by simpa [keysOf] using hlen)
  have hz : (W.map Prod.fst).Perm (Z.map Prod.fst) := by have := (z1.map Prod.fst).symm; rwa [List.map_map] at this
  have hkz : (keysOf Dm).Perm (Z.map Prod.fst) := by have := hperm.map Prod.fst; rwa [List.map_map] at this
  clear H1 hlen
  gi_wp2_with fail
  refine callW (sorted_any (enters_of Try.func33 (by kernel_rfl) rfl) (fun n => keys_iter n w1.heap.size c Dm) 1000000 (by decide) Hpl.out Hkl.out _ _ (A [] * (AllIt S bx b rd err W D * G)) (Side.refl _) (H2.to (by ac_rfl))) ?_
  rintro e w3 ⟨v, ys, hys, rfl, H3, d3⟩
  have d4 : Side w0 w3 := ((hs.trans hd1).alloc _).trans d3
  have hks : sorted ys = sorted (W.map Prod.fst) := sorted_congr (hys.trans (hkz.trans hz.symm))
  rw [hks, show ys.length = (sorted (W.map Prod.fst)).length by rw [← hks, sorted_length]] at H3
  have hsl := sl_shape H3
  obtain ⟨va, vc, rfl⟩ := hsl
  have hasc := asc_snoc W
  have hmem : ∀ k ∈ sorted (W.map Prod.fst), k ∈ Z.map Prod.fst := fun k hk => hz.mem_iff.1 ((sorted_perm _).mem_iff.1 hk)
  have hal : (asc W).length = (sorted (W.map Prod.fst)).length := by simp [asc]
  generalize sorted (W.map Prod.fst) = ks at H3 hasc hmem hal ⊢
  have Hkl : Hid (ks.length ≤ 1000000) := by show ks.length ≤ _; rw [← hal]; simp only [asc, List.length_map, sorted_length]; exact hW
  have Hasc := hid hasc; have Hmem := hid hmem; have Hal := hid hal; have Hz3 := hid z3; have Hz2 := hid z2; have Hz1 := hid z1; have Hpm := hid hperm
  clear hasc hmem hal z3 z2 z1 hz hkz hks hys hperm H2 hs hd1 d3
  generalize hX : pt w1.heap.size (.cells #[.map (some c)] 49 (0, 0)) * mp c Dm = X1 at H3
  have H4 : Sat w3 (A ((asc W).take 0) * (sl 3 1 (.slice va ks.length vc) ks.length (i64v ks) * (X1 * (AllIt S bx b rd err W D * G)))) := H3.to (by simp only [List.take_zero]; ac_rfl)
  gi_wp2
  gi_loopw [16] (fun i wr => AllRel A W (.slice va ks.length vc) ks (X1 * (AllIt S bx b rd err W D * G)) w0 i wr) (fun i _ => ks.length - (intOf i).toNat)
  case atStart => exact ⟨0, Nat.zero_le _, rfl, d4, H4⟩
  case round =>
    obtain ⟨k, hk, rfl, hside, hsat⟩ := hrel
    have hsl := hsat.front2.rds
    by_cases hlt : k < ks.length
    · obtain ⟨_, hh⟩ := hsl
      obtain ⟨g, hva, hcell⟩ : ∃ g, va = some ⟨g, 0, none⟩ ∧ wr.cell? ⟨g, k, none⟩ = some (.int .i64 ks[k]) := by
        rcases hsat.front2.slCases with ⟨_, h0, _, _⟩ | ⟨g, cap, cur, he, h3, h4, h5, h6, hF⟩
        · omega
        · cases he
          refine ⟨g, rfl, ?_⟩
          rw [hF.cell]
          have e := congrArg (·[k]?) h6
          simp only [i64v, List.getElem?_take, Nat.mul_one, hlt, if_true, List.getElem?_map, Array.getElem?_toList] at e
          rw [e, List.getElem?_eq_getElem hlt]; rfl
      subst hva
      obtain ⟨z, hz⟩ : ∃ z, kget Z ks[k] = some z := by
        match hq : kget Z ks[k] with
        | some z => exact ⟨z, rfl⟩
        | none => exact absurd (Hmem.out _ (List.getElem_mem hlt)) (look_none.1 hq)
      have hV := Hz3.out _ (look_mem hz)
      have hW2 : kget W ks[k] = some z.2 := by
        rw [← look_perm Hz1.out (by rw [List.map_map]; exact Hz2.out), look_map (fun z : Value × List UInt8 => z.2), hz]; rfl
      have hM : kget Dm ks[k] = some z.1 := by
        rw [look_perm Hpm.out ((Hpm.out.map _).nodup_iff.2 (by rw [List.map_map]; exact Hz2.out)), look_map (fun z : Value × List UInt8 => z.1), hz]; rfl
      have hS : Sat wr (mp c Dm * (pool S * (A ((asc W).take k) * (sl 3 1 (.slice (some ⟨g, 0, none⟩) ks.length vc) ks.length (i64v ks) * (pt w1.heap.size (.cells #[.map (some c)] 49 (0, 0)) * (pt bx (.cells #[.pointer (some ⟨b, 0, none⟩)] 24 (0, 0)) * (batchA 54 5 S b rd err W D * G))))))) :=
        hsat.to (by rw [← hX]; unfold AllIt; ac_rfl)
      have hlook := (hS.lookup (P := Try.prog) Try.underlying49 Try.underlying3 (zero_bytes wr) ks[k] false)
      rw [hM] at hlook
      have hrd := hV.rd hS.front2
      have Hr := hid hrd
      have hbg : Hid (z.2.length ≤ 1000000000) := Nat.le_trans hV.1 (by decide)
      have hen : (asc W).take k ++ [(ks[k], z.2)] = (asc W).take (k + 1) := by rw [← Hasc.out k hlt, hW2]; rfl
      have Hen := hid hen
      have hpre : (asc W).take k ++ [(ks[k], z.2)] <+: asc W := by rw [hen]; exact List.take_prefix _ _
      have Hpre := hid hpre
      have hkl := Hkl.out
      clear hrd hen hpre hS hz hh hW2 hM hV
      generalize ks[k] = id at hcell hlook Hen Hpre
      gi_wp2_with fail
      refine callW (clone_any wr z.1 z.2 Hr.out hbg) ?_
      rintro e w4 ⟨v1, rfl, hs4, hd4⟩
      have H5 : Sat w4 (bs 5 v1 z.2 * (A ((asc W).take k) * (sl 3 1 (.slice (some ⟨g, 0, none⟩) ks.length vc) ks.length (i64v ks) * (X1 * (AllIt S bx b rd err W D * G))))) := hs4.under hsat
      obtain ⟨fn, tmps, assign, body, hy, hR⟩ := hY _ (id, z.2) #[.int .i64 id, v1] _ w4 Hpre.out (hside.trans hd4) (Sat.allT (id, z.2) H5).front2
      clear hlook hcell hs4 H5 Hr hbg hsat
      gi_wp2
      refine ⟨fun h => (by cases h), hR.mono ?_⟩
      rintro e W' (⟨rfl, hs5, hsat5⟩ | ⟨rfl, hs5, hsat5⟩)
      · gi_wp2
        go_roundw
        case rel => exact ⟨k + 1, by omega, by go_num, hs5, by rw [← Hen.out]; exact hsat5⟩
        case measure => simp [intOf]; omega
      · gi_wp2
        refine bodyPost_ret (results_none rfl _ _ _) rfl ?_
        exact ⟨⟨_, rfl⟩, hs5, .inr ⟨_, Hpre.out, hsat5.drop2.drop2⟩⟩
    · have hkn : k = ks.length := by omega
      subst hkn
      have hfin : (asc W).take ks.length = asc W := by rw [← Hal.out]; exact List.take_length
      rw [hfin] at hsat
      have hsat' : Sat wr (A (asc W) * (AllIt S bx b rd err W D * G)) := hsat.drop2.drop2
      clear hsl hsat hfin
      gi_wp2
      go_end0
      exact ⟨⟨_, rfl⟩, hside, .inl ⟨_, rfl, hsat'⟩⟩
end Go.Proofs.Ytcgpegdnicnciaa

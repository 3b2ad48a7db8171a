/- slices.CompactFunc of entries of different names; tree.List. -/
import Derived.Test.YtaoohjeaaccnfaaGreatEh
import Derived.Test.YtaoohjeaaccnfaaGreatNm
namespace Go.Proofs.YtaoohjeaaccnfaaGreat.Fs
set_option linter.unusedVariables false
set_option linter.unusedSimpArgs false
open Go.RowKit Go.SL Go.Proofs.YtaoohjeaaccnfaaGreat.Ba
abbrev eqF : Value := .func (.func 48) #[] #[]
def EqQ (c : Bool) (w : World) (e : Ending) (w' : World) : Prop := e = .returned (.bool c) ∧ Sat w' (whole w) ∧ Side w w'
theorem eqE_any (x y : Ent) (c : Bool) (hc : decide (x.nm = y.nm) = c) (w : World) : Calls Tryz.prog 48 #[.agg #[.int .i64 (x.nd : Int), .string (str x.nm)], .agg #[.int .i64 (y.nd : Int), .string (str y.nm)]] w (EqQ c w) := by
  refine callsQ fun Q HQ => ?_
  have hA := SL.hid (((Sat.whole w).alloc (.cells #[.int .i64 (x.nd : Int), .string (str x.nm)] 47 (0, 0))).alloc (.cells #[.int .i64 (y.nd : Int), .string (str y.nm)] 47 (0, 0))).right.right
  have dA := SL.hid (((Side.refl w).alloc (.cells #[.int .i64 (x.nd : Int), .string (str x.nm)] 47 (0, 0))).alloc (.cells #[.int .i64 (y.nd : Int), .string (str y.nm)] 47 (0, 0)))
  have hb := str_beq x.nm y.nm
  rw [hc] at hb
  have Hc := SL.hid hc
  clear hc
  go_enter Tryz.func48, Tryz.ntmps48
  go_wp2_with fail
  exact HQ.out _ _ ⟨by first | rfl | simp, hA.out, dA.out⟩
def CpRel (v : Value) (W : List Ent) (w0 : World) (F : Assn) (u5 : Value) (wr : World) : Prop :=
  ∃ k : Nat, 1 ≤ k ∧ k ≤ W.length ∧ u5 = .int .i64 (k : Int) ∧ Side w0 wr ∧ Sat wr (RowE v W * F)
def SameRowQ (v : Value) (W : List Ent) (F : Assn) (w : World) (e : Ending) (w' : World) : Prop := e = .returned v ∧ Side w w' ∧ Sat w' (RowE v W * F)
set_option maxRecDepth 100000 in
set_option maxHeartbeats 4000000 in
theorem compact_any (v : Value) (W : List Ent) (hn : (W.map Ent.nm).Nodup) (w : World) (F : Assn) (hl : W.length ≤ 3990) (h : Sat w (RowE v W * F)) :
    Calls Tryz.prog 47 #[v, eqF] w (SameRowQ v W F w) := by
  refine callsQ fun Q' HQ => ?_
  obtain ⟨va, vc, rfl⟩ := sl_shape h
  obtain ⟨N, hN⟩ : ∃ N, W.length = N := ⟨_, rfl⟩
  have H := SL.hid h; have HN := SL.hid hN; have Hnd := SL.hid hn
  rw [hN] at hl H HQ ⊢
  have hN' : (N : Int) ≤ 3990 := by omega
  clear h hN hn
  by_cases h2 : N < 2
  · have h2' : (N : Int) < 2 := by omega
    go_enter Tryz.func47, Tryz.ntmps47
    go_wp2_with fail
    exact HQ.out _ _ ⟨by first | rfl | simp, Side.refl w, H.out⟩
  · have h2' : ¬ (N : Int) < 2 := by omega
    go_enter Tryz.func47, Tryz.ntmps47
    go_wp2_with fail
    go_loopw [5] (fun u5 wr => CpRel (.slice va N vc) W w F u5 wr) (fun u5 _ => N - (intOf u5).toNat)
    case atStart => exact ⟨1, Nat.le_refl _, by have := HN.out; omega, rfl, Side.refl w, H.out⟩
    case round =>
      obtain ⟨k, hk1, hk2, rfl, hside, hsat⟩ := hrel
      rw [HN.out] at hk2
      clear H
      by_cases hlt : k < N
      · have hlt' : (k : Int) < (N : Int) := by omega
        obtain ⟨j, hj⟩ : ∃ j, k = j + 1 := ⟨k - 1, by omega⟩
        have ej : IntKind.i64.wrap ((k : Int) - 1) = (j : Int) := by rw [IntKind.wrap_i64]; omega
        have hjN : (j : Int) < (N : Int) := by omega
        obtain ⟨x, hx⟩ : ∃ x, W[k]? = some x := ⟨_, List.getElem?_eq_getElem (by have := HN.out; omega)⟩
        obtain ⟨y, hy⟩ : ∃ y, W[j]? = some y := ⟨_, List.getElem?_eq_getElem (by have := HN.out; omega)⟩
        have hne : decide (x.nm = y.nm) = false := by
          refine decide_eq_false fun h => ?_
          have h1 := List.nodup_iff_pairwise_ne.1 Hnd.out
          rw [List.pairwise_iff_getElem] at h1
          have hkl : k < W.length := by have := HN.out; omega
          have hjl : j < W.length := by omega
          have := h1 j k (by simpa using hjl) (by simpa using hkl) (by omega)
          rw [List.getElem_map, List.getElem_map] at this
          rw [List.getElem?_eq_getElem hkl] at hx
          rw [List.getElem?_eq_getElem hjl] at hy
          rw [Option.some.inj hx, Option.some.inj hy] at this
          exact this h.symm
        obtain ⟨g, c, e, k1, k2, c1, c2, c3, c4⟩ := rowE_two hsat HN.out hlt (by omega : j < N) hx hy
        simp only [Value.slice.injEq] at e
        obtain ⟨rfl, -, rfl⟩ := e
        have HC := SL.hid (fun w => eqE_any x y false hne w)
        have k1' : (N : Int) ≤ (vc : Int) := by omega
        have HS := SL.hid hsat; have Hx := SL.hid hx; have Hy := SL.hid hy; have Hj := SL.hid hj
        clear hsat hx hy hne k1 hj
        go_wp2_with fail
        go_region_held3 (fun w' => w'.cell? ⟨g, k * 2, none⟩ = some (.int .i64 (x.nd : Int)) ∧ w'.cell? ⟨g, k * 2 + 1, none⟩ = some (.string (str x.nm)) ∧ w'.cell? ⟨g, j * 2, none⟩ = some (.int .i64 (y.nd : Int)) ∧ w'.cell? ⟨g, j * 2 + 1, none⟩ = some (.string (str y.nm))) (first | exact ⟨c1, c2, c3, c4⟩ | exact kA | go_keep)
          (first | (go_at_call 48; refine (HC.out wr.drew).mono ?_; rintro e w5 ⟨rfl, h5, d5⟩; have H5 := h5.keepW (Sat.drew HS.out); obtain ⟨g', c', e', -, -, kA'⟩ := rowE_two H5 HN.out hlt (by have := Hj.out; omega : j < N) Hx.out Hy.out; have kA : w5.cell? ⟨g, k * 2, none⟩ = some (.int .i64 (x.nd : Int)) ∧ w5.cell? ⟨g, k * 2 + 1, none⟩ = some (.string (str x.nm)) ∧ w5.cell? ⟨g, j * 2, none⟩ = some (.int .i64 (y.nd : Int)) ∧ w5.cell? ⟨g, j * 2 + 1, none⟩ = some (.string (str y.nm)) := by simp only [Value.slice.injEq, Option.some.injEq, Addr.mk.injEq] at e'; obtain ⟨⟨rfl, -⟩, -⟩ := e'; exact kA'))
        rename_i hHeld
        have D5 := SL.hid (hside.drew.trans d5)
        have HH5 := SL.hid H5
        clear H5 h5 d5 kA hHeld HC HS c1 c2 c3 c4
        go_wp2_with fail
        go_roundw
        case rel => exact ⟨k + 1, by omega, by have := HN.out; omega, by simp, D5.out, HH5.out⟩
        case measure => simp [intOf]; omega
      · obtain rfl : k = N := by omega
        have HS := SL.hid hsat
        clear hsat
        go_wp2_with fail
        exact HQ.out _ _ ⟨by first | rfl | simp, hside, HS.out⟩
section
variable {n : Nat} {x : Fx n} {b k id : Nat} {A : Nat → Option AF} {lk : Int} {L : List Ent} {w : World} {F : Assn}
/-- What List comes to. -/
def ListTQ (x : Fx n) (b : Nat) (A : Nat → Option AF) (k : Nat) (L : List Ent) (F : Assn) (w : World) (e : Ending) (w' : World) : Prop :=
  ∃ (u : Value) (W : List Ent), e = .returned (.tuple #[u, .int .i64 0]) ∧ W.Perm L ∧ Srt ltE W ∧ Side w w' ∧ Sat w' (RowE u W * (fsA x b A k * F))
set_option maxRecDepth 100000 in
set_option maxHeartbeats 2000000 in
theorem listT_any (h : Sat w (fsA x b A k * F)) (hf : A id = some (dirF lk L)) (hok : okL L) (hl : L.length ≤ 3840) (hn : (L.map Ent.nm).Nodup) :
    Calls Tryz.prog 16 #[spV b n, .int .i64 (id : Int)] w (ListTQ x b A k L F w) := by
  refine callsQ fun Q HQ => ?_
  have hA := h.alloc (spO b n)
  have dA := SL.hid ((Side.refl w).alloc (spO b n))
  have hr := SL.hid (loadT_any hA.front2 hf (dirF_DirF hok hl))
  have c0 : (w.alloc (spO b n)).cell? ⟨w.heap.size, 0, none⟩ = some (.pointer (some ⟨b, 0, none⟩)) := hA.cell 0
  have HL := SL.hid hl; have HNd := SL.hid hn
  clear h hA hf hok hl hn
  unfold spV
  go_enter Tryz.func16, Tryz.ntmps16
  go_wp2_with fail
  refine hr.out.mono ?_
  generalize w.alloc (spO b n) = w1 at *
  generalize w.heap.size = ga at *
  rintro r w2 ⟨u, rfl, d2, h2⟩
  have hs := SL.hid (sortStable_any u L w2 _ (by have := HL.out; omega) h2)
  obtain ⟨ua, uc, rfl⟩ := sl_shape h2
  have D2 := SL.hid (dA.out.trans d2)
  clear hr h2 d2
  go_wp2_with fail
  refine hs.out.mono ?_
  rintro r w3 ⟨W, rfl, p3, s3, d3, h3⟩
  have hc := SL.hid (compact_any _ W ((p3.map Ent.nm).nodup_iff.2 HNd.out) w3 _ (by rw [p3.length_eq]; have := HL.out; omega) h3)
  have P3 := SL.hid p3; have S3 := SL.hid s3; have D3 := SL.hid (D2.out.trans d3)
  clear hs h3 p3 s3 d3
  go_wp2_with fail
  refine hc.out.mono ?_
  rintro r w4 ⟨rfl, d4, h4⟩
  have H4 := SL.hid h4
  clear hc h4
  go_wp2_with fail
  exact HQ.out _ _ ⟨_, W, by first | rfl | simp, P3.out, S3.out, D3.out.trans d4, (H4.out.to (by ac_rfl : _ = pt ga (spO b n) * (RowE (.slice ua L.length uc) W * (fsA x b A k * F)))).right⟩
end
end Go.Proofs.YtaoohjeaaccnfaaGreat.Fs

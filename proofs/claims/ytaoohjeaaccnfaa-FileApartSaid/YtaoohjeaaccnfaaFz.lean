/- file: bytes that are written over in place; arrays that are alike; work.cut. -/
import Derived.Test.YtaoohjeaaccnfaaFy
import Derived.Laws.CopyRow
import Derived.Laws.StructEq
import Derived.Lib.SliceRun
namespace Go.SL
set_option linter.unusedVariables false
set_option linter.unusedSimpArgs false
open Go.RowKit
/-- Bytes l, with d at o. -/
def putAt (l : List UInt8) (o : Nat) (d : List UInt8) : List UInt8 := l.take o ++ d ++ l.drop (o + d.length)
theorem putAt_length {l : List UInt8} {o : Nat} {d : List UInt8} (h : o + d.length ≤ l.length) : (putAt l o d).length = l.length := by
  simp only [putAt, List.length_append, List.length_take, List.length_drop]; omega
theorem row_splice {n o : Nat} {cur vs xs : List Value} (hcur : cur.take n = xs) (h : o + vs.length ≤ n) (hn : n ≤ cur.length) :
    (cur.take o ++ vs ++ cur.drop (o + vs.length)).take n = xs.take o ++ vs ++ xs.drop (o + vs.length) := by
  subst hcur
  have h1 : (cur.take o ++ vs).length = o + vs.length := by rw [List.length_append, List.length_take]; omega
  rw [List.take_append, List.take_of_length_le (by omega), h1, List.take_take, Nat.min_eq_left (by omega), List.drop_take]
theorem setLs_splice (cur : Array Value) (o : Nat) (vs : List Value) (h : o + vs.length ≤ cur.size) : setLs cur o vs = (cur.toList.take o ++ vs ++ cur.toList.drop (o + vs.length)).toArray := by
  apply Array.ext_getElem?
  intro k
  rw [setLs_get _ _ _ _ h]
  have e : (cur.toList.take o ++ vs ++ cur.toList.drop (o + vs.length)).toArray[k]? = (cur.toList.take o ++ vs ++ cur.toList.drop (o + vs.length))[k]? := by simp
  rw [e]
  have h1 : (cur.toList.take o).length = o := by rw [List.length_take, Array.length_toList]; omega
  rcases Nat.lt_or_ge k o with h2 | h2
  · rw [if_neg (by omega), List.append_assoc, List.getElem?_append_left (by omega), List.getElem?_take, if_pos h2, Array.getElem?_toList]
  · rcases Nat.lt_or_ge k (o + vs.length) with h3 | h3
    · rw [if_pos ⟨h2, h3⟩, List.append_assoc, List.getElem?_append_right (by omega), h1, List.getElem?_append_left (by omega)]
    · rw [if_neg (by omega), List.getElem?_append_right (by rw [List.length_append, h1]; omega), List.length_append, h1, List.getElem?_drop, Array.getElem?_toList]
      congr 1; omega
theorem bs_splice {w : World} {T : TypeId} {v : Value} {l : List UInt8} {F : Assn} (h : Sat w (bs T v l * F)) (h0 : 0 < l.length) :
    ∃ g c cur, v = .slice (some ⟨g, 0, none⟩) l.length c ∧ l.length ≤ c ∧ c ≤ maxLen ∧ cur.size = c ∧ w.heap[g]? = some (.cells cur T (0, 0)) ∧ (∀ j, j < l.length → w.cell? ⟨g, j, none⟩ = some (u8 (l.getD j 0)) ∧ w.frozen? ⟨g, j, none⟩ = false) ∧
      ∀ o d, o + d.length ≤ l.length → Sat (w.setRow g (cur.toList.take o ++ d.map u8 ++ cur.toList.drop (o + (d.map u8).length)).toArray) (bs T v (putAt l o d) * F) ∧ Sat (w.setCells g o (d.map u8)) (bs T v (putAt l o d) * F) := by
  rcases h.slCases with ⟨_, h1, _⟩ | ⟨g, cap, cur, rfl, h3, h4, h5, h6, h7⟩
  · omega
  · rw [Nat.mul_one] at h5 h6
    refine ⟨g, cap, cur, rfl, h3, h4, h5, h7.heap, fun j hj => ⟨?_, h7.frozen j⟩, fun o d hd => ?_⟩
    · rw [h7.cell]
      have e := congrArg (·[j]?) h6
      simp only [List.getElem?_take, hj, if_true, List.getElem?_map, Array.getElem?_toList] at e
      rw [e, List.getElem?_eq_getElem hj, List.getD, List.getElem?_eq_getElem hj]; rfl
    · have hrow : (cur.toList.take o ++ d.map u8 ++ cur.toList.drop (o + (d.map u8).length)).take l.length = (putAt l o d).map u8 := by
        rw [row_splice h6 (by rw [List.length_map]; exact hd) (by have := Array.length_toList (xs := cur); omega)]
        simp only [putAt, List.map_append, List.map_take, List.map_drop, List.length_map]
      have hsz : (cur.toList.take o ++ d.map u8 ++ cur.toList.drop (o + (d.map u8).length)).length = cap := by
        have := Array.length_toList (xs := cur); simp only [List.length_append, List.length_take, List.length_drop, List.length_map]; omega
      have key : ∀ W, Sat W (pt g (.cells (cur.toList.take o ++ d.map u8 ++ cur.toList.drop (o + (d.map u8).length)).toArray T (0, 0)) * F) → Sat W (bs T (.slice (some ⟨g, 0, none⟩) l.length cap) (putAt l o d) * F) := by
        intro W hW
        have := Sat.slOf (sz := 1) (n := l.length) (cap := cap) hW h3 h4 (by rw [Nat.mul_one]; simpa using hsz)
        refine this.to ?_
        rw [bs, putAt_length hd]
        congr 2
        rw [Nat.mul_one]; exact hrow
      refine ⟨key _ (h7.setRow (cs' := _)), key _ ?_⟩
      have h8 := Sat.setCells (d.map u8) o h7
      rw [setLs_splice cur o (d.map u8) (by rw [List.length_map, h5]; omega)] at h8
      exact h8
theorem all_range_eqI : ∀ (xs ys : List Int), xs.length = ys.length → ((List.range xs.length).all fun i => xs.getD i 0 == ys.getD i 0) = (xs == ys)
  | [], [], _ => rfl
  | x :: xs, y :: ys, h => by
    have ih := all_range_eqI xs ys (by simpa using h)
    rw [List.length_cons, List.range_succ_eq_map, List.all_cons, List.all_map]
    simp only [List.getD_cons_zero, Function.comp_def, List.getD_cons_succ, ih]
    simp [List.cons_beq_cons]
  | [], _ :: _, h => by simp at h
  | _ :: _, [], h => by simp at h
section
variable {P : Program} (w : World)
theorem run_equalIn_ints (d : Nat) (t e : TypeId) (n : Nat) (ht : P.underlying t = some (.array n e)) (he : P.underlying e = some (.int .i64)) (hsz : ∀ w, (sizeOf e).run P w = .ok 1 w)
    (xs ys : List Int) (hx : xs.length = n) (hy : ys.length = n) :
    (Op.equalIn (d + 2) t (.agg (ints xs)) (.agg (ints ys))).run P w = .ok (xs == ys) w := by
  rw [← all_range_eqI xs ys (hx.trans hy.symm), hx, List.range_eq_range', Op.equalIn]
  simp only [Sem.run_bind, run_underlying ht, Result.andThen_ok, hsz, Std.Legacy.Range.forIn_eq_forIn_range', Std.Legacy.Range.size, Nat.sub_zero, Nat.add_sub_cancel, Nat.div_one]
  have hl : ∀ i ∈ List.range' 0 n 1, i < n := fun i hi => by simpa using (List.mem_range'_1.1 hi).2
  generalize List.range' 0 n 1 = l at hl ⊢
  induction l with
  | nil => simp
  | cons i l ih =>
    have hi : i < n := hl i (by simp)
    have px : (part e (ints xs) (i * 1)).run P w = .ok (.int .i64 (xs.getD i 0)) w := by
      simp [part, isAgg, run_underlying he, get_ints_lt (show i < xs.length by omega)]
    have py : (part e (ints ys) (i * 1)).run P w = .ok (.int .i64 (ys.getD i 0)) w := by
      simp [part, isAgg, run_underlying he, get_ints_lt (show i < ys.length by omega)]
    have pe : (Op.equalIn (d + 1) e (.int .i64 (xs.getD i 0)) (.int .i64 (ys.getD i 0))).run P w = .ok (xs.getD i 0 == ys.getD i 0) w := run_equalIn_int w d e .i64 .i64 _ _ he
    simp only [List.forIn_cons, Sem.run_bind, px, py, pe, Result.andThen_ok, List.all_cons]
    cases hb : (xs.getD i 0 == ys.getD i 0)
    · simp
    · simp only [Bool.not_true, Bool.false_eq_true, if_false, Sem.run_pure, Result.andThen_ok, Bool.true_and]
      exact ih fun j hj => hl j (by simp [hj])
theorem run_eql_ints (t e : TypeId) (n : Nat) (ht : P.underlying t = some (.array n e)) (he : P.underlying e = some (.int .i64)) (hsz : ∀ w, (sizeOf e).run P w = .ok 1 w)
    (xs ys : List Int) (hx : xs.length = n) (hy : ys.length = n) :
    (binOp .eql t (.agg (ints xs)) (.agg (ints ys))).run P w = .ok (.bool (xs == ys)) w := by
  rw [run_eql_struct, run_equalIn_ints w 9998 t e n ht he hsz xs ys hx hy]
  rfl
end
section
variable {σ : Type}
def wcutB (ask : Asks σ) (b : Int) (rest : Nat) : WM σ Unit := wread ask b ⇝ fun L => wwrite b (putAt L rest (zs (480 - rest)))
def wcut (ask : Asks σ) (h : Hd) : WM σ Unit := fun st =>
  if h.n.sz % 480 = 0 then (.ok (), st) else if h.page (h.n.sz / 480).toNat = 0 then (.ok (), st) else wcutB ask (h.page (h.n.sz / 480).toNat) (h.n.sz % 480).toNat st
end
end Go.SL
namespace Go.Proofs.Ytaoohjeaaccnfaa.Fs
set_option linter.unusedVariables false
set_option linter.unusedSimpArgs false
open Go.RowKit Go.SL Go.Proofs.Ytaoohjeaaccnfaa.Ba
section
variable {σ α : Type}
theorem map_zs (n : Nat) : (zs n).map u8 = List.replicate n (.int .u8 0) := by simp [zs, u8]
theorem zero_u8 (w : World) : (zeroValue 5).run Try.prog w = .ok (.int .u8 0) w := by kernel_rfl
set_option maxRecDepth 100000 in
set_option maxHeartbeats 2000000 in
theorem cut_any (x : Wk σ) (hc : x.c.Ok) (w : World) (S : Hp) (st : Wst σ) (hb : Nat) (h : Hd) (F : Assn) (hz0 : 0 ≤ h.n.sz) (hz1 : h.n.sz ≤ 122880) (hs : Sat w (heldA hb h * (workA x S st * (pool S * F)))) :
    Calls Try.prog 42 #[.pointer (some ⟨x.k, 0, none⟩), .pointer (some ⟨hb, 0, none⟩)] w (WQ x unitR S (heldA hb h * F) w (wcut x.c.ask h st)) := by
  refine callsQ fun Q HQ => ?_
  have hcz := (held_cell hs (j := 3) (by decide)).1
  have hl3 : h.l.getD 3 0 = h.n.sz := rfl
  rw [hl3] at hcz
  have hrem : h.n.sz.tmod 480 = ((h.n.sz % 480).toNat : Int) := by rw [Int.tmod_eq_emod_of_nonneg hz0]; omega
  have hquo : h.n.sz.tdiv 480 = ((h.n.sz / 480).toNat : Int) := by rw [Int.tdiv_eq_ediv_of_nonneg hz0]; omega
  have Hs := SL.hid (hs.to (by ac_rfl : _ = workA x S st * (pool S * (heldA hb h * F))))
  have hW : ∀ T, wcut x.c.ask h st = T → ∀ e w', WQ x unitR S (heldA hb h * F) w T e w' → Q e w' := fun T hT e w' hq => HQ.out e w' (by rw [hT]; exact hq)
  have HW := SL.hid hW
  clear hl3 hW HQ
  by_cases hr : h.n.sz % 480 = 0
  · have HE := SL.hid (HW.out (.ok (), st) (if_pos hr))
    have hr2 : h.n.sz.tmod 480 = 0 := by rw [hrem, hr]; rfl
    clear hrem hquo hr
    generalize h.n.sz = z at *
    go_enter Try.func42, Try.ntmps42
    go_wp2_with fail
    go_end0
    exact HE.out _ _ ⟨S, _, Ext.refl S, Side.refl w, rfl, Sat.fact_iff.2 ⟨rfl, Hs.out⟩⟩
  · have hq256 : (h.n.sz / 480).toNat < 256 := by omega
    have hpg := page_any w hb h _ hs (h.n.sz / 480).toNat hq256
    unfold IntQ at hpg
    have hr0 : ((h.n.sz % 480).toNat : Int) ≠ 0 := by omega
    have hrb : (((h.n.sz % 480).toNat : Int) == 0) = false := by simpa using hr0
    have hrlt : (h.n.sz % 480).toNat < 480 := by omega
    have hwc : wcut x.c.ask h st = if h.page (h.n.sz / 480).toNat = 0 then (.ok (), st) else wcutB x.c.ask (h.page (h.n.sz / 480).toNat) (h.n.sz % 480).toNat st := if_neg hr
    obtain ⟨r, hrr⟩ : ∃ r, (h.n.sz % 480).toNat = r := ⟨_, rfl⟩
    obtain ⟨q, hqq⟩ : ∃ q, (h.n.sz / 480).toNat = q := ⟨_, rfl⟩
    rw [hrr] at hrem hrb hrlt hwc hr0
    rw [hqq] at hquo hq256 hpg hwc
    have hq0 : 0 ≤ (q : Int) := by omega
    have hq1 : (q : Int) < 256 := by omega
    have hr1 : 0 ≤ (r : Int) := by omega
    have hr480 : (r : Int) < 480 := by omega
    clear hr hrr hqq hq256 hr0
    have hB : ∀ T, wcutB x.c.ask (h.page q) r st = T → h.page q ≠ 0 → wcut x.c.ask h st = T := fun T hT hp => by rw [hwc, if_neg hp, hT]
    have HB := SL.hid hB
    by_cases hp : h.page q = 0
    · have HE := SL.hid (HW.out (.ok (), st) (by rw [hwc, if_pos hp]))
      rw [hp] at hpg
      clear hp hwc hB
      generalize h.n.sz = z at *
      go_enter Try.func42, Try.ntmps42
      go_wp2_with fail
      (with_reducible refine hpg.mono ?_)
      rintro e w2 ⟨rfl, rfl⟩
      go_wp2_with fail
      go_end0
      exact HE.out _ _ ⟨S, _, Ext.refl S, Side.refl w, rfl, Sat.fact_iff.2 ⟨rfl, Hs.out⟩⟩
    · have hp1 : (h.page q == 0) = false := by simpa using hp
      have hrd := read_anyW x hc w S st (h.page q) _ Hs.out
      obtain ⟨⟨r1, st1⟩, hp2⟩ : ∃ p, wread x.c.ask (h.page q) st = p := ⟨_, rfl⟩
      rw [hp2] at hrd
      cases r1 with
      | bad cN =>
        have HE := SL.hid (HW.out (.bad cN, st1) (hB _ (WM.bind_bad hp2) hp))
        clear hp hwc hB hp2
        generalize h.page q = y at *
        generalize h.n.sz = z at *
        go_enter Try.func42, Try.ntmps42
        go_wp2_with fail
        (with_reducible refine hpg.mono ?_)
        rintro e w2 ⟨rfl, rfl⟩
        go_wp2_with fail
        (with_reducible refine hrd.mono ?_)
        rintro e w2 ⟨S', hS, d2, rfl, h2⟩
        go_wp2_with fail
        exact ⟨rfl, HE.out _ _ ⟨S', hS, d2, rfl, h2⟩⟩
      | ok L =>
        have hL := wread_len hp2
        obtain ⟨T, hT⟩ : ∃ T, wwrite (h.page q) (putAt L r (zs (480 - r))) st1 = T := ⟨_, rfl⟩
        have HE := SL.hid (HW.out T (hB _ ((WM.bind_ok hp2).trans hT) hp))
        have HL := SL.hid hL
        clear hp hwc hB hp2 hL
        generalize h.page q = y at *
        generalize h.n.sz = z at *
        go_enter Try.func42, Try.ntmps42
        go_wp2_with fail
        (with_reducible refine hpg.mono ?_)
        rintro e w2 ⟨rfl, rfl⟩
        go_wp2_with fail
        (with_reducible refine hrd.mono ?_)
        rintro e w2 ⟨S', v, hS, d2, rfl, h2⟩
        unfold bytesR at h2
        obtain ⟨g, cap, cur, rfl, k1, k2, k3, k4, k5, k6⟩ := bs_splice h2 (by rw [HL.out]; decide)
        have hzl : (zs (480 - r)).length = 480 - r := length_zs _
        have h3 := (k6 r (zs (480 - r)) (by rw [hzl, HL.out]; omega)).2
        rw [map_zs] at h3
        rw [HL.out] at k1 ⊢
        have hcl := fun ty => Lib.run_clear_slice (P := Try.prog) w2 22 5 ty (.int .u8 0) Try.underlying22 zero_u8 rfl rfl g r (480 - r) (cap - r) (by omega)
          (fun j hj => by rw [(k5 (r + j) (by rw [HL.out]; omega)).1]; rfl) (fun j hj => (k5 (r + j) (by rw [HL.out]; omega)).2)
        have hsub : (480 : Int) - (r : Int) = ((480 - r : Nat) : Int) := by omega
        clear hrd h2 k5 k6 k4 k3
        rw [HL.out] at h3
        have hw := write_anyW x _ S' st1 y _ (putAt L r (zs (480 - r))) _ (h3.right) h3.rds
        rw [hT] at hw
        have D3 := SL.hid (Side.setCells (List.replicate (480 - r) (.int .u8 0)) r g d2)
        clear h3 hT
        go_wp2_with fail
        generalize w2.setCells g r (List.replicate (480 - r) (.int .u8 0)) = w3 at *
        obtain ⟨r3, st3⟩ := T
        cases r3 with
        | bad cN =>
          (with_reducible refine hw.mono ?_)
          rintro e w4 ⟨S2, hS2, d4, rfl, h6⟩
          go_wp2_with fail
          exact ⟨rfl, HE.out _ _ ⟨S2, hS.trans hS2, D3.out.trans d4, rfl, h6⟩⟩
        | ok u =>
          (with_reducible refine hw.mono ?_)
          rintro e w4 ⟨S2, v4, hS2, d4, rfl, h6⟩
          obtain ⟨rfl, h7⟩ := Sat.fact_iff.1 h6
          go_wp2_with fail
          go_end0
          exact HE.out _ _ ⟨S2, _, hS.trans hS2, D3.out.trans d4, rfl, Sat.fact_iff.2 ⟨rfl, h7⟩⟩
end
end Go.Proofs.Ytaoohjeaaccnfaa.Fs

/- file: bytes that are written over in place; arrays that are alike; work.cut. file: Truncate's job. file: ReadAt's job. -/
import Derived.Test.YtaoohjeaaccnfaaGreatFy
import Derived.Laws.CopyRow
import Derived.Laws.StructEq
import Derived.Lib.SliceRun
namespace Go.SL
set_option linter.unusedVariables false
set_option linter.unusedSimpArgs false
open Go.RowKit
/-- Bytes l, with d at o. -/
def putAt (l : List UInt8) (o : Nat) (d : List UInt8) : List UInt8 := l.take o ++ d ++ l.drop (o + d.length)
theorem putAt_length {l : List UInt8} {o : Nat} {d : List UInt8} (h : o + d.length ≤ l.length) : (putAt l o d).length = l.length := by
  simp only [putAt, List.length_append, List.length_take, List.length_drop]; omega
theorem row_splice {n o : Nat} {cur vs xs : List Value} (hcur : cur.take n = xs) (h : o + vs.length ≤ n) (hn : n ≤ cur.length) :
    (cur.take o ++ vs ++ cur.drop (o + vs.length)).take n = xs.take o ++ vs ++ xs.drop (o + vs.length) := by
  subst hcur
  have h1 : (cur.take o ++ vs).length = o + vs.length := by rw [List.length_append, List.length_take]; omega
  rw [List.take_append, List.take_of_length_le (by omega), h1, List.take_take, Nat.min_eq_left (by omega), List.drop_take]
theorem setLs_splice (cur : Array Value) (o : Nat) (vs : List Value) (h : o + vs.length ≤ cur.size) : setLs cur o vs = (cur.toList.take o ++ vs ++ cur.toList.drop (o + vs.length)).toArray := by
  apply Array.ext_getElem?
  intro k
  rw [setLs_get _ _ _ _ h]
  have e : (cur.toList.take o ++ vs ++ cur.toList.drop (o + vs.length)).toArray[k]? = (cur.toList.take o ++ vs ++ cur.toList.drop (o + vs.length))[k]? := by simp
  rw [e]
  have h1 : (cur.toList.take o).length = o := by rw [List.length_take, Array.length_toList]; omega
  rcases Nat.lt_or_ge k o with h2 | h2
  · rw [if_neg (by omega), List.append_assoc, List.getElem?_append_left (by omega), List.getElem?_take, if_pos h2, Array.getElem?_toList]
  · rcases Nat.lt_or_ge k (o + vs.length) with h3 | h3
    · rw [if_pos ⟨h2, h3⟩, List.append_assoc, List.getElem?_append_right (by omega), h1, List.getElem?_append_left (by omega)]
    · rw [if_neg (by omega), List.getElem?_append_right (by rw [List.length_append, h1]; omega), List.length_append, h1, List.getElem?_drop, Array.getElem?_toList]
      congr 1; omega
theorem bs_splice {w : World} {T : TypeId} {v : Value} {l : List UInt8} {F : Assn} (h : Sat w (bs T v l * F)) (h0 : 0 < l.length) :
    ∃ g c cur, v = .slice (some ⟨g, 0, none⟩) l.length c ∧ l.length ≤ c ∧ c ≤ maxLen ∧ cur.size = c ∧ w.heap[g]? = some (.cells cur T (0, 0)) ∧ (∀ j, j < l.length → w.cell? ⟨g, j, none⟩ = some (u8 (l.getD j 0)) ∧ w.frozen? ⟨g, j, none⟩ = false) ∧
      ∀ o d, o + d.length ≤ l.length → Sat (w.setRow g (cur.toList.take o ++ d.map u8 ++ cur.toList.drop (o + (d.map u8).length)).toArray) (bs T v (putAt l o d) * F) ∧ Sat (w.setCells g o (d.map u8)) (bs T v (putAt l o d) * F) := by
  rcases h.slCases with ⟨_, h1, _⟩ | ⟨g, cap, cur, rfl, h3, h4, h5, h6, h7⟩
  · omega
  · rw [Nat.mul_one] at h5 h6
    refine ⟨g, cap, cur, rfl, h3, h4, h5, h7.heap, fun j hj => ⟨?_, h7.frozen j⟩, fun o d hd => ?_⟩
    · rw [h7.cell]
      have e := congrArg (·[j]?) h6
      simp only [List.getElem?_take, hj, if_true, List.getElem?_map, Array.getElem?_toList] at e
      rw [e, List.getElem?_eq_getElem hj, List.getD, List.getElem?_eq_getElem hj]; rfl
    · have hrow : (cur.toList.take o ++ d.map u8 ++ cur.toList.drop (o + (d.map u8).length)).take l.length = (putAt l o d).map u8 := by
        rw [row_splice h6 (by rw [List.length_map]; exact hd) (by have := Array.length_toList (xs := cur); omega)]
        simp only [putAt, List.map_append, List.map_take, List.map_drop, List.length_map]
      have hsz : (cur.toList.take o ++ d.map u8 ++ cur.toList.drop (o + (d.map u8).length)).length = cap := by
        have := Array.length_toList (xs := cur); simp only [List.length_append, List.length_take, List.length_drop, List.length_map]; omega
      have key : ∀ W, Sat W (pt g (.cells (cur.toList.take o ++ d.map u8 ++ cur.toList.drop (o + (d.map u8).length)).toArray T (0, 0)) * F) → Sat W (bs T (.slice (some ⟨g, 0, none⟩) l.length cap) (putAt l o d) * F) := by
        intro W hW
        have := Sat.slOf (sz := 1) (n := l.length) (cap := cap) hW h3 h4 (by rw [Nat.mul_one]; simpa using hsz)
        refine this.to ?_
        rw [bs, putAt_length hd]
        congr 2
        rw [Nat.mul_one]; exact hrow
      refine ⟨key _ (h7.setRow (cs' := _)), key _ ?_⟩
      have h8 := Sat.setCells (d.map u8) o h7
      rw [setLs_splice cur o (d.map u8) (by rw [List.length_map, h5]; omega)] at h8
      exact h8
theorem all_range_eqI : ∀ (xs ys : List Int), xs.length = ys.length → ((List.range xs.length).all fun i => xs.getD i 0 == ys.getD i 0) = (xs == ys)
  | [], [], _ => rfl
  | x :: xs, y :: ys, h => by
    have ih := all_range_eqI xs ys (by simpa using h)
    rw [List.length_cons, List.range_succ_eq_map, List.all_cons, List.all_map]
    simp only [List.getD_cons_zero, Function.comp_def, List.getD_cons_succ, ih]
    simp [List.cons_beq_cons]
  | [], _ :: _, h => by simp at h
  | _ :: _, [], h => by simp at h
section
variable {P : Program} (w : World)
theorem run_equalIn_ints (d : Nat) (t e : TypeId) (n : Nat) (ht : P.underlying t = some (.array n e)) (he : P.underlying e = some (.int .i64)) (hsz : ∀ w, (sizeOf e).run P w = .ok 1 w)
    (xs ys : List Int) (hx : xs.length = n) (hy : ys.length = n) :
    (Op.equalIn (d + 2) t (.agg (ints xs)) (.agg (ints ys))).run P w = .ok (xs == ys) w := by
  rw [← all_range_eqI xs ys (hx.trans hy.symm), hx, List.range_eq_range', Op.equalIn]
  simp only [Sem.run_bind, run_underlying ht, Result.andThen_ok, hsz, Std.Legacy.Range.forIn_eq_forIn_range', Std.Legacy.Range.size, Nat.sub_zero, Nat.add_sub_cancel, Nat.div_one]
  have hl : ∀ i ∈ List.range' 0 n 1, i < n := fun i hi => by simpa using (List.mem_range'_1.1 hi).2
  generalize List.range' 0 n 1 = l at hl ⊢
  induction l with
  | nil => simp
  | cons i l ih =>
    have hi : i < n := hl i (by simp)
    have px : (part e (ints xs) (i * 1)).run P w = .ok (.int .i64 (xs.getD i 0)) w := by
      simp [part, isAgg, run_underlying he, get_ints_lt (show i < xs.length by omega)]
    have py : (part e (ints ys) (i * 1)).run P w = .ok (.int .i64 (ys.getD i 0)) w := by
      simp [part, isAgg, run_underlying he, get_ints_lt (show i < ys.length by omega)]
    have pe : (Op.equalIn (d + 1) e (.int .i64 (xs.getD i 0)) (.int .i64 (ys.getD i 0))).run P w = .ok (xs.getD i 0 == ys.getD i 0) w := run_equalIn_int w d e .i64 .i64 _ _ he
    simp only [List.forIn_cons, Sem.run_bind, px, py, pe, Result.andThen_ok, List.all_cons]
    cases hb : (xs.getD i 0 == ys.getD i 0)
    · simp
    · simp only [Bool.not_true, Bool.false_eq_true, if_false, Sem.run_pure, Result.andThen_ok, Bool.true_and]
      exact ih fun j hj => hl j (by simp [hj])
theorem run_eql_ints (t e : TypeId) (n : Nat) (ht : P.underlying t = some (.array n e)) (he : P.underlying e = some (.int .i64)) (hsz : ∀ w, (sizeOf e).run P w = .ok 1 w)
    (xs ys : List Int) (hx : xs.length = n) (hy : ys.length = n) :
    (binOp .eql t (.agg (ints xs)) (.agg (ints ys))).run P w = .ok (.bool (xs == ys)) w := by
  rw [run_eql_struct, run_equalIn_ints w 9998 t e n ht he hsz xs ys hx hy]
  rfl
end
section
variable {σ : Type}
def wcutB (ask : Asks σ) (b : Int) (rest : Nat) : WM σ Unit := WM.bind (wread ask b) fun L => wwrite b (putAt L rest (zs (480 - rest)))
def wcut (ask : Asks σ) (h : Hd) : WM σ Unit := fun st =>
  if h.n.sz % 480 = 0 then (.ok (), st) else if h.page (h.n.sz / 480).toNat = 0 then (.ok (), st) else wcutB ask (h.page (h.n.sz / 480).toNat) (h.n.sz % 480).toNat st
end
end Go.SL
namespace Go.Proofs.YtaoohjeaaccnfaaGreat.Fs
set_option linter.unusedVariables false
set_option linter.unusedSimpArgs false
open Go.RowKit Go.SL Go.Proofs.YtaoohjeaaccnfaaGreat.Ba
section
variable {σ α : Type}
theorem map_zs (n : Nat) : (zs n).map u8 = List.replicate n (.int .u8 0) := by simp [zs, u8]
theorem zero_u8 (w : World) : (zeroValue 5).run Tryz.prog w = .ok (.int .u8 0) w := by kernel_rfl
set_option maxRecDepth 100000 in
set_option maxHeartbeats 2000000 in
theorem cut_any (x : Wk σ) (hc : x.c.Ok) (w : World) (S : Hp) (st : Wst σ) (hb : Nat) (h : Hd) (F : Assn) (hz0 : 0 ≤ h.n.sz) (hz1 : h.n.sz ≤ 122880) (hs : Sat w (heldA hb h * (workA x S st * (pool S * F)))) :
    Calls Tryz.prog 70 #[.pointer (some ⟨x.k, 0, none⟩), .pointer (some ⟨hb, 0, none⟩)] w (WQ x unitR S (heldA hb h * F) w (wcut x.c.ask h st)) := by
  refine callsQ fun Q HQ => ?_
  have hcz := (held_cell hs (j := 3) (by decide)).1
  have hl3 : h.l.getD 3 0 = h.n.sz := rfl
  rw [hl3] at hcz
  have hrem : h.n.sz.tmod 480 = ((h.n.sz % 480).toNat : Int) := by rw [Int.tmod_eq_emod_of_nonneg hz0]; omega
  have hquo : h.n.sz.tdiv 480 = ((h.n.sz / 480).toNat : Int) := by rw [Int.tdiv_eq_ediv_of_nonneg hz0]; omega
  have Hs := SL.hid (hs.to (by ac_rfl : _ = workA x S st * (pool S * (heldA hb h * F))))
  have hW : ∀ T, wcut x.c.ask h st = T → ∀ e w', WQ x unitR S (heldA hb h * F) w T e w' → Q e w' := fun T hT e w' hq => HQ.out e w' (by rw [hT]; exact hq)
  have HW := SL.hid hW
  clear hl3 hW HQ
  by_cases hr : h.n.sz % 480 = 0
  · have HE := SL.hid (HW.out (.ok (), st) (if_pos hr))
    have hr2 : h.n.sz.tmod 480 = 0 := by rw [hrem, hr]; rfl
    clear hrem hquo hr
    generalize h.n.sz = z at *
    go_enter Tryz.func70, Tryz.ntmps70
    go_wp2_with fail
    go_end0
    exact HE.out _ _ ⟨S, _, Ext.refl S, Side.refl w, rfl, Sat.fact_iff.2 ⟨rfl, Hs.out⟩⟩
  · have hq256 : (h.n.sz / 480).toNat < 256 := by omega
    have hpg := page_any w hb h _ hs (h.n.sz / 480).toNat hq256
    unfold IntQ at hpg
    have hr0 : ((h.n.sz % 480).toNat : Int) ≠ 0 := by omega
    have hrb : (((h.n.sz % 480).toNat : Int) == 0) = false := by simpa using hr0
    have hrlt : (h.n.sz % 480).toNat < 480 := by omega
    have hwc : wcut x.c.ask h st = if h.page (h.n.sz / 480).toNat = 0 then (.ok (), st) else wcutB x.c.ask (h.page (h.n.sz / 480).toNat) (h.n.sz % 480).toNat st := if_neg hr
    obtain ⟨r, hrr⟩ : ∃ r, (h.n.sz % 480).toNat = r := ⟨_, rfl⟩
    obtain ⟨q, hqq⟩ : ∃ q, (h.n.sz / 480).toNat = q := ⟨_, rfl⟩
    rw [hrr] at hrem hrb hrlt hwc hr0
    rw [hqq] at hquo hq256 hpg hwc
    have hq0 : 0 ≤ (q : Int) := by omega
    have hq1 : (q : Int) < 256 := by omega
    have hr1 : 0 ≤ (r : Int) := by omega
    have hr480 : (r : Int) < 480 := by omega
    clear hr hrr hqq hq256 hr0
    have hB : ∀ T, wcutB x.c.ask (h.page q) r st = T → h.page q ≠ 0 → wcut x.c.ask h st = T := fun T hT hp => by rw [hwc, if_neg hp, hT]
    have HB := SL.hid hB
    by_cases hp : h.page q = 0
    · have HE := SL.hid (HW.out (.ok (), st) (by rw [hwc, if_pos hp]))
      rw [hp] at hpg
      clear hp hwc hB
      generalize h.n.sz = z at *
      go_enter Tryz.func70, Tryz.ntmps70
      go_wp2_with fail
      (with_reducible refine hpg.mono ?_)
      rintro e w2 ⟨rfl, rfl⟩
      go_wp2_with fail
      go_end0
      exact HE.out _ _ ⟨S, _, Ext.refl S, Side.refl w, rfl, Sat.fact_iff.2 ⟨rfl, Hs.out⟩⟩
    · have hp1 : (h.page q == 0) = false := by simpa using hp
      have hrd := read_anyW x hc w S st (h.page q) _ Hs.out
      obtain ⟨⟨r1, st1⟩, hp2⟩ : ∃ p, wread x.c.ask (h.page q) st = p := ⟨_, rfl⟩
      rw [hp2] at hrd
      cases r1 with
      | bad cN =>
        have HE := SL.hid (HW.out (.bad cN, st1) (hB _ (WM.bind_bad hp2) hp))
        clear hp hwc hB hp2
        generalize h.page q = y at *
        generalize h.n.sz = z at *
        go_enter Tryz.func70, Tryz.ntmps70
        go_wp2_with fail
        (with_reducible refine hpg.mono ?_)
        rintro e w2 ⟨rfl, rfl⟩
        go_wp2_with fail
        (with_reducible refine hrd.mono ?_)
        rintro e w2 ⟨S', hS, d2, rfl, h2⟩
        go_wp2_with fail
        exact ⟨rfl, HE.out _ _ ⟨S', hS, d2, rfl, h2⟩⟩
      | ok L =>
        have hL := wread_len hp2
        obtain ⟨T, hT⟩ : ∃ T, wwrite (h.page q) (putAt L r (zs (480 - r))) st1 = T := ⟨_, rfl⟩
        have HE := SL.hid (HW.out T (hB _ ((WM.bind_ok hp2).trans hT) hp))
        have HL := SL.hid hL
        clear hp hwc hB hp2 hL
        generalize h.page q = y at *
        generalize h.n.sz = z at *
        go_enter Tryz.func70, Tryz.ntmps70
        go_wp2_with fail
        (with_reducible refine hpg.mono ?_)
        rintro e w2 ⟨rfl, rfl⟩
        go_wp2_with fail
        (with_reducible refine hrd.mono ?_)
        rintro e w2 ⟨S', v, hS, d2, rfl, h2⟩
        unfold bytesR at h2
        obtain ⟨g, cap, cur, rfl, k1, k2, k3, k4, k5, k6⟩ := bs_splice h2 (by rw [HL.out]; decide)
        have hzl : (zs (480 - r)).length = 480 - r := length_zs _
        have h3 := (k6 r (zs (480 - r)) (by rw [hzl, HL.out]; omega)).2
        rw [map_zs] at h3
        rw [HL.out] at k1 ⊢
        have hcl := fun ty => Lib.run_clear_slice (P := Tryz.prog) w2 48 5 ty (.int .u8 0) Tryz.underlying48 zero_u8 rfl rfl g r (480 - r) (cap - r) (by omega)
          (fun j hj => by rw [(k5 (r + j) (by rw [HL.out]; omega)).1]; rfl) (fun j hj => (k5 (r + j) (by rw [HL.out]; omega)).2)
        have hsub : (480 : Int) - (r : Int) = ((480 - r : Nat) : Int) := by omega
        clear hrd h2 k5 k6 k4 k3
        rw [HL.out] at h3
        have hw := write_anyW x _ S' st1 y _ (putAt L r (zs (480 - r))) _ (h3.right) h3.rds
        rw [hT] at hw
        have D3 := SL.hid (Side.setCells (List.replicate (480 - r) (.int .u8 0)) r g d2)
        clear h3 hT
        go_wp2_with fail
        generalize w2.setCells g r (List.replicate (480 - r) (.int .u8 0)) = w3 at *
        obtain ⟨r3, st3⟩ := T
        cases r3 with
        | bad cN =>
          (with_reducible refine hw.mono ?_)
          rintro e w4 ⟨S2, hS2, d4, rfl, h6⟩
          go_wp2_with fail
          exact ⟨rfl, HE.out _ _ ⟨S2, hS.trans hS2, D3.out.trans d4, rfl, h6⟩⟩
        | ok u =>
          (with_reducible refine hw.mono ?_)
          rintro e w4 ⟨S2, v4, hS2, d4, rfl, h6⟩
          obtain ⟨rfl, h7⟩ := Sat.fact_iff.1 h6
          go_wp2_with fail
          go_end0
          exact HE.out _ _ ⟨S2, _, hS.trans hS2, D3.out.trans d4, rfl, Sat.fact_iff.2 ⟨rfl, h7⟩⟩
end
end Go.Proofs.YtaoohjeaaccnfaaGreat.Fs
namespace Go.SL
set_option linter.unusedVariables false
set_option linter.unusedSimpArgs false
open Go.RowKit
section
variable {σ : Type}
def Hd.setSz (h : Hd) (z : Int) : Hd := { h with n := { h.n with sz := z } }
def Hd.setRw (h : Hd) (z : Int) : Hd := { h with n := { h.n with rw := z } }
theorem Hd.setSz_l (h : Hd) (z : Int) : (h.setSz z).l = h.l.set 3 z := rfl
theorem Hd.setRw_l {h : Hd} (hf : h.fit) (z : Int) : (h.setRw z).l = h.l.set 20 z := by
  have e : h.l = (h.id : Int) :: h.n.kd :: h.n.lk :: h.n.sz :: (h.n.dr ++ (h.n.rw :: h.row)) := by simp [Hd.l, Nd.l]
  have e2 : (h.setRw z).l = (h.id : Int) :: h.n.kd :: h.n.lk :: h.n.sz :: (h.n.dr ++ (z :: h.row)) := by simp [Hd.l, Nd.l, Hd.setRw]
  rw [e, e2]
  simp only [List.set_cons_succ]
  rw [List.set_append, if_neg (by rw [hf.1]; decide), hf.1]
  rfl
/-- Its pages and its row's block are within a space. -/
structure Hd.In2 (n : Nat) (h : Hd) : Prop where
  fit : h.fit
  rw0 : 0 ≤ h.n.rw
  rw1 : h.n.rw < n
  pg : ∀ i, i < 256 → 0 ≤ h.page i ∧ h.page i < n
theorem Hd.Inn.to2 {n : Nat} {h : Hd} (hi : h.Inn n) : h.In2 n := ⟨hi.fit, hi.rw0, hi.rw1, fun _ hk => hi.page hk⟩
theorem Hd.page_put {h : Hd} (hf : h.fit) {i : Nat} (hi : i < 256) (b : Int) (k : Nat) : (h.put i b).page k = if k = i then b else h.page k := by
  unfold Hd.put Hd.page
  by_cases h16 : i < 16
  · rw [if_pos h16]
    by_cases hk : k < 16
    · rw [if_pos hk, if_pos hk]
      by_cases hki : k = i
      · subst hki; simp [List.getD, List.getElem?_set, hf.1, h16]
      · rw [if_neg hki]; simp [List.getD, List.getElem?_set, Ne.symm hki]
    · rw [if_neg hk, if_neg hk, if_neg (by omega)]
  · rw [if_neg h16]
    by_cases hk : k < 16
    · rw [if_pos hk, if_pos hk, if_neg (by omega)]
    · rw [if_neg hk, if_neg hk]
      by_cases hki : k = i
      · subst hki; simp [List.getD, List.getElem?_set, hf.2, show k - 16 < 240 by omega]
      · rw [if_neg hki]; simp [List.getD, List.getElem?_set, show ¬ i - 16 = k - 16 by omega]
theorem Hd.put_rw (h : Hd) (i : Nat) (b : Int) : (h.put i b).n.rw = h.n.rw := by unfold Hd.put; split <;> rfl
theorem Hd.put_sz (h : Hd) (i : Nat) (b : Int) : (h.put i b).n.sz = h.n.sz := by unfold Hd.put; split <;> rfl
theorem Hd.put_id (h : Hd) (i : Nat) (b : Int) : (h.put i b).id = h.id := by unfold Hd.put; split <;> rfl
theorem Hd.In2.put {n : Nat} {h : Hd} (hi : h.In2 n) {i : Nat} (h256 : i < 256) {b : Int} (h0 : 0 ≤ b) (h1 : b < n) : (h.put i b).In2 n :=
  ⟨Hd.put_fit hi.fit i b, by rw [Hd.put_rw]; exact hi.rw0, by rw [Hd.put_rw]; exact hi.rw1, fun k hk => by
    rw [Hd.page_put hi.fit h256]
    split
    · exact ⟨h0, h1⟩
    · exact hi.pg k hk⟩
def wtr2 (ask : Asks σ) (h : Hd) : WM σ Unit := WM.bind (wcut ask h) fun _ => wsave h
def wtr1 (ask : Asks σ) (size : Int) (h : Hd) : WM σ Unit := fun st =>
  if h.n.rw ≠ 0 ∧ h.row = List.replicate 240 0 then (WM.bind (wmark ask h.n.rw.toNat false) fun _ => wtr2 ask ((h.setRw 0).setSz size)) st else wtr2 ask (h.setSz size) st
def wtrL (ask : Asks σ) (size : Int) : Nat → Hd → WM σ Unit
  | 0, h => wtr1 ask size h
  | j + 1, h => fun st => if h.page (256 - (j + 1)) = 0 then wtrL ask size j h st else (WM.bind (wmark ask (h.page (256 - (j + 1))).toNat false) fun _ => wtrL ask size j (h.put (256 - (j + 1)) 0)) st
def wtrunc (ask : Asks σ) (n : Nat) (node size : Int) : WM σ Unit := WM.bind (wload ask n node) fun h st => if 0 ≤ size ∧ size ≤ 122880 then wtrL ask size (256 - (blocksOf size).toNat) h st else (.bad 1, st)
theorem wtrL_z {ask : Asks σ} {size : Int} {h : Hd} {k : Nat} (hk : k < 256) (h0 : h.page k = 0) (st : Wst σ) : wtrL ask size (256 - k) h st = wtrL ask size (256 - (k + 1)) h st := by
  obtain ⟨j, hj⟩ : ∃ j, 256 - k = j + 1 := ⟨255 - k, by omega⟩
  have e : 256 - (j + 1) = k := by omega
  rw [hj, show 256 - (k + 1) = j by omega]
  exact if_pos (by rw [e]; exact h0)
theorem wtrL_b {ask : Asks σ} {size : Int} {h : Hd} {k : Nat} (hk : k < 256) (h0 : h.page k ≠ 0) {st st1 : Wst σ} {c : Int} (hm : wmark ask (h.page k).toNat false st = (.bad c, st1)) : wtrL ask size (256 - k) h st = (.bad c, st1) := by
  obtain ⟨j, hj⟩ : ∃ j, 256 - k = j + 1 := ⟨255 - k, by omega⟩
  have e : 256 - (j + 1) = k := by omega
  rw [hj]
  exact (if_neg (by rw [e]; exact h0)).trans (WM.bind_bad (by rw [e]; exact hm))
theorem wtrL_s {ask : Asks σ} {size : Int} {h : Hd} {k : Nat} (hk : k < 256) (h0 : h.page k ≠ 0) {st st1 : Wst σ} (hm : wmark ask (h.page k).toNat false st = (.ok (), st1)) : wtrL ask size (256 - k) h st = wtrL ask size (256 - (k + 1)) (h.put k 0) st1 := by
  obtain ⟨j, hj⟩ : ∃ j, 256 - k = j + 1 := ⟨255 - k, by omega⟩
  have e : 256 - (j + 1) = k := by omega
  rw [hj, show 256 - (k + 1) = j by omega]
  refine (if_neg (by rw [e]; exact h0)).trans ((WM.bind_ok (by rw [e]; exact hm)).trans ?_)
  rw [e]
end
end Go.SL
namespace Go.Proofs.YtaoohjeaaccnfaaGreat.Fs
set_option linter.unusedVariables false
set_option linter.unusedSimpArgs false
open Go.RowKit Go.SL Go.Proofs.YtaoohjeaaccnfaaGreat.Ba
section
variable {σ α : Type}
theorem wpList_wanted {P : Program} {ops : Array Oper} {rest : List Oper} {o : Oper} {a : Act} {w : World} {Q : Exit → Act → World → Prop} (hw : Region.wanted o (yielded ops a.tmps) = true)
    (h : ∀ K : Act → World → Prop, (∀ a w, wpList P ops Q rest a w → K a w) → o.wp P a w K Q) : wpList P ops Q (o :: rest) a w :=
  wpList_step fun K hK => by rw [if_pos hw]; exact h K hK
theorem built240s : Tryz.prog.built 73 [] = some (ints zeroRow) := by
  obtain ⟨C, hC⟩ := Option.isSome_iff_exists.1 built240
  have := built240z
  rw [hC] at this
  rw [hC]; exact congrArg some this
theorem wp_build_to {P : Program} {o : Oper} {a : Act} {w : World} {K : Act → World → Prop} {Q : Exit → Act → World → Prop} (t : TypeId) (parts : Array (Nat × Operand)) (ho : o.op = .build t parts)
    (l : List (Nat × Value)) (hl : parts.toList.map (fun p => (p.1, a.eval p.2)) = l) (C : Array Value) (hb : P.built t l = some C) (h : K (a.put o.dst (.agg C)) w) : o.wp P a w K Q := by
  have e : P.built t (parts.map fun (i, x) => (i, a.eval x)).toList = some C := by rw [Array.toList_map]; exact hl ▸ hb
  exact wp_build t parts ho (by rw [e]; rfl) (by rw [e]; exact h)
def TruncRel (x : Wk σ) (n : Nat) (size : Int) (hb : Nat) (S : Hp) (F : Assn) (w : World) (T : Rs Unit × Wst σ) (u5 : Value) (wr : World) : Prop :=
  ∃ (k : Nat) (hk : Hd) (stk : Wst σ) (Sk : Hp), k ≤ 256 ∧ u5 = .int .i64 (k : Int) ∧ hk.In2 n ∧ wtrL x.c.ask size (256 - k) hk stk = T ∧ Ext S Sk ∧ Side w wr ∧ Sat wr (workA x Sk stk * (pool Sk * (heldA hb hk * F)))
/-- cut and save: the end of Truncate's job. -/
theorem info_rowc : ∀ w, (sizeOf 3).run Tryz.prog w = .ok 1 w := by intro w; kernel_rfl
set_option maxRecDepth 100000 in
set_option maxHeartbeats 4000000 in
theorem trunc_job {c : Cx σ} (hc : c.Ok) {n : Nat} (hn : n ≤ 3840) (node size : Int) (nb sb : Nat) : Job c n 67 #[.pointer (some ⟨nb, 0, none⟩), .pointer (some ⟨sb, 0, none⟩)] unitR (intA nb node * intA sb size) (wtrunc c.ask n node size) := by
  intro x w S st F hx1 hx2 h
  subst hx1 hx2
  have cn : w.cell? ⟨nb, 0, none⟩ = some (.int .i64 node) := (h.to (by ac_rfl : _ = intA nb node * (intA sb size * (workA x S st * (pool S * F))))).cell 0
  show Calls Tryz.prog 67 #[.pointer (some ⟨x.k, 0, none⟩), .pointer (some ⟨nb, 0, none⟩), .pointer (some ⟨sb, 0, none⟩)] w _
  refine callsQ fun Q HQ => ?_
  have hl := load_anyW x hc w S st node _ h
  obtain ⟨⟨r, st1⟩, hp⟩ : ∃ p, wload x.c.ask x.n node st = p := ⟨_, rfl⟩
  rw [hp] at hl
  clear h
  obtain ⟨G, hG⟩ : ∃ G, G = intA nb node * intA sb size * F := ⟨_, rfl⟩
  rw [← hG] at hl HQ
  have HG := SL.hid hG
  cases r with
  | bad cN =>
    have HE := SL.hid (show wtrunc x.c.ask x.n node size st = (.bad cN, st1) from WM.bind_bad hp)
    clear hp hG
    go_enter Tryz.func67, Tryz.ntmps67
    go_wp2_with fail
    (with_reducible refine hl.mono ?_)
    rintro e w2 ⟨S', hS, d2, rfl, h2⟩
    go_wp2_with fail
    exact ⟨rfl, HQ.out _ _ (by rw [HE.out]; exact ⟨S', hS, d2, rfl, h2⟩)⟩
  | ok hh =>
    have hI := (wload_inn hp).to2
    have HI := SL.hid hI
    obtain ⟨T, hT⟩ : ∃ T, (fun st => if 0 ≤ size ∧ size ≤ 122880 then wtrL x.c.ask size (256 - (blocksOf size).toNat) hh st else (.bad 1, st)) st1 = T := ⟨_, rfl⟩
    have HE := SL.hid (show wtrunc x.c.ask x.n node size st = T from (WM.bind_ok hp).trans hT)
    clear hp hI
    have hT2 : (if 0 ≤ size ∧ size ≤ 122880 then wtrL x.c.ask size (256 - (blocksOf size).toNat) hh st1 else (.bad 1, st1)) = T := hT
    clear hT hG
    have sG : ∀ W P, Sat W (P * G) → W.cell? ⟨sb, 0, none⟩ = some (.int .i64 size) := fun W P hW => by
      rw [HG.out] at hW
      exact (hW.to (by ac_rfl : _ = intA sb size * (intA nb node * (F * P)))).cell 0
    have SG := SL.hid sG
    have HT2 := SL.hid hT2
    have hbl := fun w => blocks_any w size
    go_enter Tryz.func67, Tryz.ntmps67
    go_wp2_with fail
    (with_reducible refine hl.mono ?_)
    rintro e w2 ⟨S', v, hS, d2, rfl, h2⟩
    obtain ⟨hb, rfl, h3⟩ := Sat.heldR h2
    have h4 : Sat w2 (workA x S' st1 * (pool S' * (heldA hb hh * G))) := h3.to (by ac_rfl)
    have cs := SG.out w2 (workA x S' st1 * (pool S' * (heldA hb hh))) (h4.to (by ac_rfl))
    have H4 := SL.hid h4
    clear h2 h3 hl cn hT2 h4 sG
    by_cases hz : 0 ≤ size ∧ size ≤ 122880
    · obtain ⟨z0, z1⟩ := hz
      have hT := HT2.out
      rw [if_pos ⟨z0, z1⟩] at hT
      have hB0 : 0 ≤ blocksOf size ∧ blocksOf size ≤ 256 := by unfold blocksOf; omega
      have HT := SL.hid hT; have HB0 := SL.hid hB0
      clear hT hB0
      have hbl2 := hbl w2
      unfold IntIs at hbl2
      clear hbl
      go_wp2_with fail
      (with_reducible refine (need_yes w2).mono ?_)
      rintro e w3 ⟨rfl, rfl⟩
      go_wp2_with fail
      (with_reducible refine hbl2.mono ?_)
      rintro e w3 ⟨rfl, rfl⟩
      clear hbl2 cs
      go_wp2_with fail
      go_loopw [5] (fun u5 wr => TruncRel x x.n size hb S G w T u5 wr) (fun u5 _ => 256 - (intOf u5).toNat)
      case atStart => exact ⟨(blocksOf size).toNat, hh, st1, S', by have := HB0.out; omega, by rw [Int.toNat_of_nonneg HB0.out.1], HI.out, HT.out, hS, d2, H4.out⟩
      case round =>
        obtain ⟨k, hk, stk, Sk, hk256, rfl, hIk, hTk, hSk, dk, hk4⟩ := hrel
        have HTk := SL.hid hTk; have HSk := SL.hid hSk; have HIk := SL.hid hIk
        clear H4 HT hTk hSk hIk HB0
        have hk5 := hk4.to (by ac_rfl : _ = heldA hb hk * (workA x Sk stk * (pool Sk * G)))
        by_cases hlt : k < 256
        · have hlt' : (k : Int) < 256 := by omega
          have hpg := page_any wr hb hk _ hk5 k hlt
          unfold IntQ at hpg
          by_cases h0 : hk.page k = 0
          · have HN := SL.hid ((wtrL_z hlt h0 stk).symm.trans HTk.out)
            rw [h0] at hpg
            clear h0 hk5
            go_wp2_with fail
            (with_reducible refine hpg.mono ?_)
            rintro e w3 ⟨rfl, rfl⟩
            go_wp2_with fail
            go_roundw
            case rel => exact ⟨k + 1, hk, stk, Sk, by omega, by go_num, HIk.out, HN.out, HSk.out, dk, hk4⟩
            case measure => simp [intOf]; omega
          · have h1 : (hk.page k != 0) = true := by simpa using h0
            obtain ⟨p0, p1⟩ := HIk.out.pg k hlt
            have hm := mark_anyI x hc wr Sk stk (hk.page k) false _ p0 (by omega) hk4
            obtain ⟨⟨r2, st2⟩, hp2⟩ : ∃ p, wmark x.c.ask (hk.page k).toNat false stk = p := ⟨_, rfl⟩
            rw [hp2] at hm
            cases r2 with
            | bad cN =>
              have HN := SL.hid ((wtrL_b hlt h0 hp2).symm.trans HTk.out)
              clear h0 hp2 hk5 p0 p1
              generalize hk.page k = y at *
              go_wp2_with fail
              (with_reducible refine hpg.mono ?_)
              rintro e w3 ⟨rfl, rfl⟩
              go_wp2_with fail
              (with_reducible refine hm.mono ?_)
              rintro e w4 ⟨S2, hS2, d4, rfl, h6⟩
              go_wp2_with fail
              exact ⟨rfl, HQ.out _ _ (by rw [HE.out, ← HN.out]; exact ⟨S2, HSk.out.trans hS2, dk.trans d4, rfl, (h6.to (by ac_rfl : _ = heldA hb hk * (workA x S2 st2 * (pool S2 * G)))).right⟩)⟩
            | ok u =>
              have HN := SL.hid ((wtrL_s hlt h0 hp2).symm.trans HTk.out)
              have HI2 := SL.hid (HIk.out.put hlt (Int.le_refl 0) (by have := HIk.out.rw0; have := HIk.out.rw1; omega : (0 : Int) < x.n))
              clear h0 hp2 hk5 p0 p1
              generalize hk.page k = y at *
              go_wp2_with fail
              (with_reducible refine hpg.mono ?_)
              rintro e w3 ⟨rfl, rfl⟩
              go_wp2_with fail
              (with_reducible refine hm.mono ?_)
              rintro e w4 ⟨S2, v4, hS2, d4, rfl, h6⟩
              obtain ⟨rfl, h7⟩ := Sat.fact_iff.1 h6
              have hpu := puth_any w4 hb hk _ (h7.to (by ac_rfl : _ = heldA hb hk * (workA x S2 st2 * (pool S2 * G)))) k hlt 0
              clear hm hpg h6
              go_wp2_with fail
              (with_reducible refine hpu.mono ?_)
              rintro e w5 ⟨rfl, h8, d5⟩
              go_wp2_with fail
              go_roundw
              case rel => exact ⟨k + 1, hk.put k 0, st2, S2, by omega, by go_num, HI2.out, HN.out, HSk.out.trans hS2, (dk.trans d4).trans d5, h8.to (by ac_rfl)⟩
              case measure => simp [intOf]; omega
        · obtain rfl : k = 256 := by omega
          have HR := SL.hid (show wtr1 x.c.ask size hk stk = T from HTk.out)
          have hf := HIk.out.fit
          have Hf := SL.hid hf
          have c20 : wr.cell? ⟨hb, 20, none⟩ = some (.int .i64 hk.n.rw) := held_rw hf (Sat.held.1 hk5).2
          have Hrow := SL.hid (held_row hf (Sat.held.1 hk5).2)
          have hinf2 : (Tryz.prog.info? 73).map (·.size) = some (hk.row.map (Value.int .i64)).length := by rw [List.length_map, hf.2]; exact info_row
          have Hinf2 := SL.hid hinf2
          clear hinf2 hf hlt
          by_cases hrw : hk.n.rw = 0
          · have HR2 := SL.hid (show wtr2 x.c.ask (hk.setSz size) stk = T from (if_neg (by simp [hrw])).symm.trans HR.out)
            rw [hrw] at c20
            clear hrw
            have hk6 := hk5
            have cs2 : wr.cell? ⟨sb, 0, none⟩ = some (.int .i64 size) := SG.out _ _ (hk6.to (by ac_rfl : _ = (heldA hb (hk) * (workA x Sk stk * pool Sk)) * G))
            have c3 := (held_cell hk6 (j := 3) (by decide)).1
            have f3 := (held_cell hk6 (j := 3) (by decide)).2
            have h20 := held_set (h' := (hk).setSz size) hk6 (j := 3) (z := size) Hf.out rfl
            have D20 := SL.hid ((dk).setCell ⟨hb, 3, none⟩ (.int .i64 size))
            have hct := cut_any x hc _ Sk stk hb ((hk).setSz size) _ z0 z1 h20
            obtain ⟨⟨r5, st5⟩, hp5⟩ : ∃ p, wcut x.c.ask ((hk).setSz size) stk = p := ⟨_, rfl⟩
            rw [hp5] at hct
            have HCT := SL.hid hct
            generalize (hk).l.getD 3 0 = y3 at *
            clear h20 hct hk6
            go_wp2_with fail
            generalize World.setCell _ ⟨hb, 3, none⟩ (.int .i64 size) = w20 at *
            refine HCT.out.mono ?_
            cases r5 with
            | bad cN =>
              have HN := SL.hid (HR2.out.symm.trans (WM.bind_bad hp5))
              rintro e w21 ⟨S5, hS5, d5, rfl, h21⟩
              go_wp2_with fail
              exact ⟨rfl, HQ.out _ _ (by rw [HE.out, HN.out]; exact ⟨S5, HSk.out.trans hS5, D20.out.trans d5, rfl, (h21.to (by ac_rfl : _ = heldA hb ((hk).setSz size) * (workA x S5 st5 * (pool S5 * G)))).right⟩)⟩
            | ok u5 =>
              have HN0 := SL.hid (HR2.out.symm.trans (WM.bind_ok hp5))
              rintro e w21 ⟨S5, v5, hS5, d5, rfl, h21⟩
              obtain ⟨rfl, h22⟩ := Sat.fact_iff.1 h21
              have hsv := save_anyW x w21 S5 st5 hb ((hk).setSz size) _ (h22.to (by ac_rfl : _ = heldA hb ((hk).setSz size) * (workA x S5 st5 * (pool S5 * G))))
              obtain ⟨⟨r6, st6⟩, hp6⟩ : ∃ p, wsave ((hk).setSz size) st5 = p := ⟨_, rfl⟩
              rw [hp6] at hsv
              have HN := SL.hid (HN0.out.trans hp6)
              clear hp5 hp6 h21 h22 HCT
              cases r6 with
              | bad cN =>
                go_wp2_with fail
                (with_reducible refine hsv.mono ?_)
                rintro e w22 ⟨S6, hS6, d6, rfl, h23⟩
                go_wp2_with fail
                exact ⟨rfl, HQ.out _ _ (by rw [HE.out, HN.out]; exact ⟨S6, (HSk.out.trans hS5).trans hS6, (D20.out.trans d5).trans d6, rfl, (h23.to (by ac_rfl : _ = heldA hb ((hk).setSz size) * (workA x S6 st6 * (pool S6 * G)))).right⟩)⟩
              | ok u6 =>
                go_wp2_with fail
                (with_reducible refine hsv.mono ?_)
                rintro e w22 ⟨S6, v6, hS6, d6, rfl, h23⟩
                obtain ⟨rfl, h24⟩ := Sat.fact_iff.1 h23
                go_wp2_with fail
                go_end0
                exact HQ.out _ _ (by rw [HE.out, HN.out]; exact ⟨S6, _, (HSk.out.trans hS5).trans hS6, (D20.out.trans d5).trans d6, rfl, Sat.fact_iff.2 ⟨rfl, (h24.to (by ac_rfl : _ = heldA hb ((hk).setSz size) * (workA x S6 st6 * (pool S6 * G)))).right⟩⟩)
          · have hrw1 : (hk.n.rw != 0) = true := by simpa using hrw
            have heq := fun w => run_eql_ints (P := Tryz.prog) w 73 3 240 Tryz.underlying73 Tryz.underlying3 info_rowc hk.row zeroRow Hf.out.2 rfl
            have hio : Value.agg (ints hk.row) = .agg (hk.row.map (Value.int .i64)).toArray := rfl
            rw [hio] at heq
            have ARMS : True := trivial
            cases hbe : (hk.row == zeroRow) with
            | false =>
              have hne : ¬ (hk.row = List.replicate 240 0) := by intro h9; rw [h9] at hbe; simp [zeroRow] at hbe
              have HR2 := SL.hid (show wtr2 x.c.ask (hk.setSz size) stk = T from (if_neg (fun h9 => hne h9.2)).symm.trans HR.out)
              rw [hbe] at heq
              clear hrw hbe hne
              have hk6 := hk5
              have cs2 : wr.cell? ⟨sb, 0, none⟩ = some (.int .i64 size) := SG.out _ _ (hk6.to (by ac_rfl : _ = (heldA hb (hk) * (workA x Sk stk * pool Sk)) * G))
              have c3 := (held_cell hk6 (j := 3) (by decide)).1
              have f3 := (held_cell hk6 (j := 3) (by decide)).2
              have h20 := held_set (h' := (hk).setSz size) hk6 (j := 3) (z := size) Hf.out rfl
              have D20 := SL.hid ((dk).setCell ⟨hb, 3, none⟩ (.int .i64 size))
              have hct := cut_any x hc _ Sk stk hb ((hk).setSz size) _ z0 z1 h20
              obtain ⟨⟨r5, st5⟩, hp5⟩ : ∃ p, wcut x.c.ask ((hk).setSz size) stk = p := ⟨_, rfl⟩
              rw [hp5] at hct
              have HCT := SL.hid hct
              generalize (hk).l.getD 3 0 = y3 at *
              clear h20 hct hk6
              go_wp2_with (first
                | (refine wpList_wanted (by exact rfl) fun K hK => wp_load_mid 73 (.tmp 43) (by exact rfl) hb 21 (by exact rfl) (hk.row.map (Value.int .i64)) _ (by with_reducible exact Hrow.out) Tryz.underlying73 rfl (by with_reducible exact Hinf2.out) (hK _ _ ?_))
                | (refine wpList_wanted (by exact rfl) fun K hK => wp_build_to 73 #[] (by exact rfl) [] (by exact rfl) (ints zeroRow) (by exact built240s) (hK _ _ ?_)))
              generalize World.setCell _ ⟨hb, 3, none⟩ (.int .i64 size) = w20 at *
              refine HCT.out.mono ?_
              cases r5 with
              | bad cN =>
                have HN := SL.hid (HR2.out.symm.trans (WM.bind_bad hp5))
                rintro e w21 ⟨S5, hS5, d5, rfl, h21⟩
                go_wp2_with fail
                exact ⟨rfl, HQ.out _ _ (by rw [HE.out, HN.out]; exact ⟨S5, HSk.out.trans hS5, D20.out.trans d5, rfl, (h21.to (by ac_rfl : _ = heldA hb ((hk).setSz size) * (workA x S5 st5 * (pool S5 * G)))).right⟩)⟩
              | ok u5 =>
                have HN0 := SL.hid (HR2.out.symm.trans (WM.bind_ok hp5))
                rintro e w21 ⟨S5, v5, hS5, d5, rfl, h21⟩
                obtain ⟨rfl, h22⟩ := Sat.fact_iff.1 h21
                have hsv := save_anyW x w21 S5 st5 hb ((hk).setSz size) _ (h22.to (by ac_rfl : _ = heldA hb ((hk).setSz size) * (workA x S5 st5 * (pool S5 * G))))
                obtain ⟨⟨r6, st6⟩, hp6⟩ : ∃ p, wsave ((hk).setSz size) st5 = p := ⟨_, rfl⟩
                rw [hp6] at hsv
                have HN := SL.hid (HN0.out.trans hp6)
                clear hp5 hp6 h21 h22 HCT
                cases r6 with
                | bad cN =>
                  go_wp2_with fail
                  (with_reducible refine hsv.mono ?_)
                  rintro e w22 ⟨S6, hS6, d6, rfl, h23⟩
                  go_wp2_with fail
                  exact ⟨rfl, HQ.out _ _ (by rw [HE.out, HN.out]; exact ⟨S6, (HSk.out.trans hS5).trans hS6, (D20.out.trans d5).trans d6, rfl, (h23.to (by ac_rfl : _ = heldA hb ((hk).setSz size) * (workA x S6 st6 * (pool S6 * G)))).right⟩)⟩
                | ok u6 =>
                  go_wp2_with fail
                  (with_reducible refine hsv.mono ?_)
                  rintro e w22 ⟨S6, v6, hS6, d6, rfl, h23⟩
                  obtain ⟨rfl, h24⟩ := Sat.fact_iff.1 h23
                  go_wp2_with fail
                  go_end0
                  exact HQ.out _ _ (by rw [HE.out, HN.out]; exact ⟨S6, _, (HSk.out.trans hS5).trans hS6, (D20.out.trans d5).trans d6, rfl, Sat.fact_iff.2 ⟨rfl, (h24.to (by ac_rfl : _ = heldA hb ((hk).setSz size) * (workA x S6 st6 * (pool S6 * G)))).right⟩⟩)
            | true =>
              have heqr : hk.row = List.replicate 240 0 := by simpa [zeroRow] using hbe
              obtain ⟨r0, r1⟩ : 0 ≤ hk.n.rw ∧ hk.n.rw < 3840 := ⟨HIk.out.rw0, by have := HIk.out.rw1; omega⟩
              have hm := mark_anyI x hc wr Sk stk hk.n.rw false _ r0 r1 hk4
              obtain ⟨⟨r2, st2⟩, hp2⟩ : ∃ p, wmark x.c.ask hk.n.rw.toNat false stk = p := ⟨_, rfl⟩
              rw [hp2] at hm
              have hcond : hk.n.rw ≠ 0 ∧ hk.row = List.replicate 240 0 := ⟨hrw, heqr⟩
              rw [hbe] at heq
              cases r2 with
              | bad cN =>
                have HN := SL.hid (HR.out.symm.trans ((if_pos hcond).trans (WM.bind_bad hp2)))
                clear hrw hbe hcond heqr hp2 hk5 r0 r1
                have c20b := c20
                generalize hk.n.rw = y at *
                go_wp2_with (first
                | (refine wpList_wanted (by exact rfl) fun K hK => wp_load_mid 73 (.tmp 43) (by exact rfl) hb 21 (by exact rfl) (hk.row.map (Value.int .i64)) _ (by with_reducible exact Hrow.out) Tryz.underlying73 rfl (by with_reducible exact Hinf2.out) (hK _ _ ?_))
                | (refine wpList_wanted (by exact rfl) fun K hK => wp_build_to 73 #[] (by exact rfl) [] (by exact rfl) (ints zeroRow) (by exact built240s) (hK _ _ ?_)))
                (with_reducible refine hm.mono ?_)
                rintro e w4 ⟨S2, hS2, d4, rfl, h6⟩
                go_wp2_with fail
                exact ⟨rfl, HQ.out _ _ (by rw [HE.out, HN.out]; exact ⟨S2, HSk.out.trans hS2, dk.trans d4, rfl, (h6.to (by ac_rfl : _ = heldA hb hk * (workA x S2 st2 * (pool S2 * G)))).right⟩)⟩
              | ok u =>
                have HN := SL.hid (HR.out.symm.trans ((if_pos hcond).trans (WM.bind_ok hp2)))
                clear hrw hbe hcond heqr hp2 hk5 r0 r1
                generalize hk.n.rw = y at *
                go_wp2_with (first
                | (refine wpList_wanted (by exact rfl) fun K hK => wp_load_mid 73 (.tmp 43) (by exact rfl) hb 21 (by exact rfl) (hk.row.map (Value.int .i64)) _ (by with_reducible exact Hrow.out) Tryz.underlying73 rfl (by with_reducible exact Hinf2.out) (hK _ _ ?_))
                | (refine wpList_wanted (by exact rfl) fun K hK => wp_build_to 73 #[] (by exact rfl) [] (by exact rfl) (ints zeroRow) (by exact built240s) (hK _ _ ?_)))
                (with_reducible refine hm.mono ?_)
                rintro e w4 ⟨S2, v4, hS2, d4, rfl, h6⟩
                obtain ⟨rfl, h7⟩ := Sat.fact_iff.1 h6
                have h8 := h7.to (by ac_rfl : _ = heldA hb hk * (workA x S2 st2 * (pool S2 * G)))
                have c20d := (held_cell h8 (j := 20) (by decide)).1
                have f20d := (held_cell h8 (j := 20) (by decide)).2
                generalize hk.l.getD 20 0 = y20 at *
                have h9 := held_set (h' := hk.setRw 0) h8 (j := 20) (z := 0) Hf.out (Hd.setRw_l Hf.out 0)
                have D9 := (dk.trans d4).setCell ⟨hb, 20, none⟩ (.int .i64 0)
                have HS9 := HSk.out.trans hS2
                clear h6 h7 h8 hm hk4
                have cs2 : (w4.setCell ⟨hb, 20, none⟩ (.int .i64 0)).cell? ⟨sb, 0, none⟩ = some (.int .i64 size) := SG.out _ _ (h9.to (by ac_rfl : _ = (heldA hb (hk.setRw 0) * (workA x S2 st2 * pool S2)) * G))
                have c3 := (held_cell h9 (j := 3) (by decide)).1
                have f3 := (held_cell h9 (j := 3) (by decide)).2
                have h20 := held_set (h' := (hk.setRw 0).setSz size) h9 (j := 3) (z := size) Hf.out rfl
                have D20 := SL.hid ((D9).setCell ⟨hb, 3, none⟩ (.int .i64 size))
                have hct := cut_any x hc _ S2 st2 hb ((hk.setRw 0).setSz size) _ z0 z1 h20
                obtain ⟨⟨r5, st5⟩, hp5⟩ : ∃ p, wcut x.c.ask ((hk.setRw 0).setSz size) st2 = p := ⟨_, rfl⟩
                rw [hp5] at hct
                have HCT := SL.hid hct
                generalize (hk.setRw 0).l.getD 3 0 = y3 at *
                clear h20 hct h9
                go_wp2_with fail
                generalize World.setCell _ ⟨hb, 3, none⟩ (.int .i64 size) = w20 at *
                refine HCT.out.mono ?_
                cases r5 with
                | bad cN =>
                  have HN := SL.hid (HN.out.trans (WM.bind_bad hp5))
                  rintro e w21 ⟨S5, hS5, d5, rfl, h21⟩
                  go_wp2_with fail
                  exact ⟨rfl, HQ.out _ _ (by rw [HE.out, HN.out]; exact ⟨S5, HS9.trans hS5, D20.out.trans d5, rfl, (h21.to (by ac_rfl : _ = heldA hb ((hk.setRw 0).setSz size) * (workA x S5 st5 * (pool S5 * G)))).right⟩)⟩
                | ok u5 =>
                  have HN0 := SL.hid (HN.out.trans (WM.bind_ok hp5))
                  rintro e w21 ⟨S5, v5, hS5, d5, rfl, h21⟩
                  obtain ⟨rfl, h22⟩ := Sat.fact_iff.1 h21
                  have hsv := save_anyW x w21 S5 st5 hb ((hk.setRw 0).setSz size) _ (h22.to (by ac_rfl : _ = heldA hb ((hk.setRw 0).setSz size) * (workA x S5 st5 * (pool S5 * G))))
                  obtain ⟨⟨r6, st6⟩, hp6⟩ : ∃ p, wsave ((hk.setRw 0).setSz size) st5 = p := ⟨_, rfl⟩
                  rw [hp6] at hsv
                  have HN := SL.hid (HN0.out.trans hp6)
                  clear hp5 hp6 h21 h22 HCT
                  cases r6 with
                  | bad cN =>
                    go_wp2_with fail
                    (with_reducible refine hsv.mono ?_)
                    rintro e w22 ⟨S6, hS6, d6, rfl, h23⟩
                    go_wp2_with fail
                    exact ⟨rfl, HQ.out _ _ (by rw [HE.out, HN.out]; exact ⟨S6, (HS9.trans hS5).trans hS6, (D20.out.trans d5).trans d6, rfl, (h23.to (by ac_rfl : _ = heldA hb ((hk.setRw 0).setSz size) * (workA x S6 st6 * (pool S6 * G)))).right⟩)⟩
                  | ok u6 =>
                    go_wp2_with fail
                    (with_reducible refine hsv.mono ?_)
                    rintro e w22 ⟨S6, v6, hS6, d6, rfl, h23⟩
                    obtain ⟨rfl, h24⟩ := Sat.fact_iff.1 h23
                    go_wp2_with fail
                    go_end0
                    exact HQ.out _ _ (by rw [HE.out, HN.out]; exact ⟨S6, _, (HS9.trans hS5).trans hS6, (D20.out.trans d5).trans d6, rfl, Sat.fact_iff.2 ⟨rfl, (h24.to (by ac_rfl : _ = heldA hb ((hk.setRw 0).setSz size) * (workA x S6 st6 * (pool S6 * G)))).right⟩⟩)
    · have hT : T = (.bad 1, st1) := by rw [← HT2.out]; exact if_neg hz
      have HT := SL.hid hT
      clear hT HT2 hbl
      by_cases hz1 : 0 ≤ size
      · have hz2 : decide (size ≤ 122880) = false := decide_eq_false (by omega)
        clear hz
        go_wp2_with fail
        (with_reducible refine (need_no w2).mono ?_)
        rintro e w4 ⟨rfl, rfl⟩
        go_wp2_with fail
        exact ⟨rfl, HQ.out _ _ (by rw [HE.out, HT.out]; exact ⟨S', hS, d2, rfl, (H4.out.to (by ac_rfl : _ = heldA hb hh * (workA x S' st1 * (pool S' * G)))).right⟩)⟩
      · have hz2 : size < 0 := by omega
        clear hz
        go_wp2_with fail
        (with_reducible refine (need_no w2).mono ?_)
        rintro e w4 ⟨rfl, rfl⟩
        go_wp2_with fail
        exact ⟨rfl, HQ.out _ _ (by rw [HE.out, HT.out]; exact ⟨S', hS, d2, rfl, (H4.out.to (by ac_rfl : _ = heldA hb hh * (workA x S' st1 * (pool S' * G)))).right⟩)⟩
end
end Go.Proofs.YtaoohjeaaccnfaaGreat.Fs
namespace Go.SL
set_option linter.unusedVariables false
set_option linter.unusedSimpArgs false
open Go.RowKit
section
variable {σ : Type}
/-- How many bytes are met at once. -/
def lenN (m at' : Nat) : Nat := min m (480 - at' % 480)
def wrd (ask : Asks σ) (h : Hd) (off : Nat) : Nat → Nat → List UInt8 → WM σ (List UInt8)
  | 0, _, A => WM.pure A
  | f + 1, done, A => fun st =>
    if done < A.length then
      (if h.page ((off + done) / 480) = 0 then wrd ask h off f (done + lenN (A.length - done) (off + done)) A st
       else (WM.bind (wread ask (h.page ((off + done) / 480))) fun L => wrd ask h off f (done + lenN (A.length - done) (off + done)) (putAt A done ((L.drop ((off + done) % 480)).take (lenN (A.length - done) (off + done))))) st)
    else (.ok A, st)
def wreadA (ask : Asks σ) (off cnt : Int) (h : Hd) : WM σ (List UInt8) := fun st =>
  if 0 ≤ off ∧ 0 ≤ cnt then (if h.n.sz ≤ off then (.ok [], st) else wrd ask h off.toNat (min cnt (h.n.sz - off)).toNat 0 (zs (min cnt (h.n.sz - off)).toNat) st) else (.bad 1, st)
def wreadAt (ask : Asks σ) (n : Nat) (node off cnt : Int) : WM σ (List UInt8) := WM.bind (wload ask n node) (wreadA ask off cnt)
theorem wrd_end {ask : Asks σ} {h : Hd} {off f done : Nat} {A : List UInt8} (hd : A.length ≤ done) (st : Wst σ) : wrd ask h off f done A st = (.ok A, st) := by
  cases f with
  | zero => rfl
  | succ f => exact if_neg (by omega)
theorem wrd_z {ask : Asks σ} {h : Hd} {off f done : Nat} {A : List UInt8} (hd : done < A.length) (h0 : h.page ((off + done) / 480) = 0) (st : Wst σ) :
    wrd ask h off (f + 1) done A st = wrd ask h off f (done + lenN (A.length - done) (off + done)) A st := (if_pos hd).trans (if_pos h0)
theorem wrd_b {ask : Asks σ} {h : Hd} {off f done : Nat} {A : List UInt8} (hd : done < A.length) (h0 : h.page ((off + done) / 480) ≠ 0) {st st1 : Wst σ} {c : Int} (hr : wread ask (h.page ((off + done) / 480)) st = (.bad c, st1)) :
    wrd ask h off (f + 1) done A st = (.bad c, st1) := (if_pos hd).trans ((if_neg h0).trans (WM.bind_bad hr))
theorem wrd_s {ask : Asks σ} {h : Hd} {off f done : Nat} {A : List UInt8} (hd : done < A.length) (h0 : h.page ((off + done) / 480) ≠ 0) {st st1 : Wst σ} {L : List UInt8} (hr : wread ask (h.page ((off + done) / 480)) st = (.ok L, st1)) :
    wrd ask h off (f + 1) done A st = wrd ask h off f (done + lenN (A.length - done) (off + done)) (putAt A done ((L.drop ((off + done) % 480)).take (lenN (A.length - done) (off + done)))) st1 := (if_pos hd).trans ((if_neg h0).trans (WM.bind_ok hr))
end
end Go.SL
namespace Go.Proofs.YtaoohjeaaccnfaaGreat.Fs
set_option linter.unusedVariables false
set_option linter.unusedSimpArgs false
open Go.RowKit Go.SL Go.Proofs.YtaoohjeaaccnfaaGreat.Ba
section
variable {σ α : Type}
theorem info_u8s : (Tryz.prog.info? 5).map (·.size) = some 1 := by kernel_rfl
def RdRel (x : Wk σ) (hb : Nat) (hh : Hd) (off m g : Nat) (S : Hp) (F : Assn) (w : World) (T : Rs (List UInt8) × Wst σ) (u8' : Value) (wr : World) : Prop :=
  ∃ (done f : Nat) (A : List UInt8) (stk : Wst σ) (Sk : Hp), done ≤ m ∧ A.length = m ∧ m - done ≤ f ∧ u8' = .int .i64 (done : Int) ∧ wrd x.c.ask hh off f done A stk = T ∧ Ext S Sk ∧ Side w wr ∧
    Sat wr (bs 5 (.slice (some ⟨g, 0, none⟩) m m) A * (workA x Sk stk * (pool Sk * (heldA hb hh * F))))
set_option maxRecDepth 100000 in
set_option maxHeartbeats 4000000 in
theorem readat_job {c : Cx σ} (hc : c.Ok) {n : Nat} (hn : n ≤ 3840) (node off cnt : Int) (nb ob cb : Nat) :
    Job c n 86 #[.pointer (some ⟨nb, 0, none⟩), .pointer (some ⟨ob, 0, none⟩), .pointer (some ⟨cb, 0, none⟩)] bytesR (intA nb node * (intA ob off * intA cb cnt)) (wreadAt c.ask n node off cnt) := by
  intro x w S st F hx1 hx2 h
  subst hx1 hx2
  have cn : w.cell? ⟨nb, 0, none⟩ = some (.int .i64 node) := (h.to (by ac_rfl : _ = intA nb node * ((intA ob off * intA cb cnt) * (workA x S st * (pool S * F))))).cell 0
  show Calls Tryz.prog 86 #[.pointer (some ⟨x.k, 0, none⟩), .pointer (some ⟨nb, 0, none⟩), .pointer (some ⟨ob, 0, none⟩), .pointer (some ⟨cb, 0, none⟩)] w _
  refine callsQ fun Q HQ => ?_
  have hl := load_anyW x hc w S st node _ h
  obtain ⟨⟨r, st1⟩, hp⟩ : ∃ p, wload x.c.ask x.n node st = p := ⟨_, rfl⟩
  rw [hp] at hl
  clear h
  obtain ⟨G, hG⟩ : ∃ G, G = intA nb node * (intA ob off * intA cb cnt) * F := ⟨_, rfl⟩
  rw [← hG] at hl HQ
  have HG := SL.hid hG
  cases r with
  | bad cN =>
    have HE := SL.hid (show wreadAt x.c.ask x.n node off cnt st = (.bad cN, st1) from WM.bind_bad hp)
    clear hp hG
    go_enter Tryz.func86, Tryz.ntmps86
    go_wp2_with fail
    (with_reducible refine hl.mono ?_)
    rintro e w2 ⟨S', hS, d2, rfl, h2⟩
    go_wp2_with fail
    exact ⟨rfl, HQ.out _ _ (by rw [HE.out]; exact ⟨S', hS, d2, rfl, h2⟩)⟩
  | ok hh =>
    have hok := Nd.ok_facts (wload_inn hp).ok
    obtain ⟨s0, s1⟩ : 0 ≤ hh.n.sz ∧ hh.n.sz ≤ 122880 := ⟨hok.2.2.2.1, hok.2.2.2.2.1⟩
    obtain ⟨T, hT⟩ : ∃ T, wreadA x.c.ask off cnt hh st1 = T := ⟨_, rfl⟩
    have HE := SL.hid (show wreadAt x.c.ask x.n node off cnt st = T from (WM.bind_ok hp).trans hT)
    have HT := SL.hid hT
    clear hp hG hok hT
    have sO : ∀ W P, Sat W (P * G) → W.cell? ⟨ob, 0, none⟩ = some (.int .i64 off) := fun W P hW => by
      rw [HG.out] at hW
      exact (hW.to (by ac_rfl : _ = intA ob off * (intA nb node * (intA cb cnt * (F * P))))).cell 0
    have sC : ∀ W P, Sat W (P * G) → W.cell? ⟨cb, 0, none⟩ = some (.int .i64 cnt) := fun W P hW => by
      rw [HG.out] at hW
      exact (hW.to (by ac_rfl : _ = intA cb cnt * (intA nb node * (intA ob off * (F * P))))).cell 0
    have SO := SL.hid sO; have SC := SL.hid sC
    clear sO sC
    go_enter Tryz.func86, Tryz.ntmps86
    go_wp2_with fail
    (with_reducible refine hl.mono ?_)
    rintro e w2 ⟨S', v, hS, d2, rfl, h2⟩
    obtain ⟨hb, rfl, h3⟩ := Sat.heldR h2
    have h4 : Sat w2 (workA x S' st1 * (pool S' * (heldA hb hh * G))) := h3.to (by ac_rfl)
    have co := SO.out w2 (workA x S' st1 * (pool S' * (heldA hb hh))) (h4.to (by ac_rfl))
    have cc := SC.out w2 (workA x S' st1 * (pool S' * (heldA hb hh))) (h4.to (by ac_rfl))
    have c3 := (held_cell h3 (j := 3) (by decide)).1
    rw [show hh.l.getD 3 0 = hh.n.sz from rfl] at c3
    have H4 := SL.hid h4
    clear h2 h3 hl cn h4
    by_cases hz : 0 ≤ off ∧ 0 ≤ cnt
    · obtain ⟨z0, z1⟩ := hz
      by_cases hge : hh.n.sz ≤ off
      · have hT2 : T = (.ok [], st1) := by rw [← HT.out]; exact (if_pos ⟨z0, z1⟩).trans (if_pos hge)
        have HT2 := SL.hid hT2
        clear hT2 HT
        go_wp2_with fail
        (with_reducible refine (need_yes w2).mono ?_)
        rintro e w3 ⟨rfl, rfl⟩
        go_wp2_with fail
        go_region_held3 (fun w' => w'.cell? ⟨ob, 0, none⟩ = some (.int .i64 off) ∧ w'.cell? ⟨hb, 3, none⟩ = some (.int .i64 hh.n.sz)) (first | exact ⟨co, c3⟩ | go_keep) (fail)
        all_goals
          clear co cc c3
          go_wp2_with fail
          refine HQ.out _ _ ?_
          rw [HE.out, HT2.out]
          have h9 : Sat w2.drew (bytesR [] (.slice none 0 0) * (workA x S' st1 * (pool S' * (heldA hb hh * G)))) := (H4.out.drew.slNil 5 1)
          exact ⟨S', _, hS, d2.drew, rfl, (h9.to (by ac_rfl : _ = heldA hb hh * (bytesR [] (.slice none 0 0) * (workA x S' st1 * (pool S' * G))))).right⟩
      · have hlt : off < hh.n.sz := by omega
        obtain ⟨m, hm⟩ : ∃ m, (min cnt (hh.n.sz - off)).toNat = m := ⟨_, rfl⟩
        obtain ⟨o, ho⟩ : ∃ o : Nat, off = (o : Int) := ⟨off.toNat, by omega⟩
        have hT2 : wrd x.c.ask hh o m 0 (zs m) st1 = T := by
          rw [← HT.out]
          refine Eq.symm ((if_pos ⟨z0, z1⟩).trans ((if_neg hge).trans ?_))
          rw [hm, ho, Int.toNat_natCast]
        have hm2 : min cnt (hh.n.sz - off) = (m : Int) := by omega
        have hm3 : (o : Int) + m ≤ 122880 := by omega
        have HT2 := SL.hid hT2
        have hmk : ∀ w, (Instr.makeSlice 48 (.int .i64 (m : Int)) (.int .i64 (m : Int))).run Tryz.prog w = .ok (.slice (some ⟨w.heap.size, 0, none⟩) m m) (w.alloc (.cells (u8s (zs m)) 5 (0, 0))) := make_bytes m (by omega)
        have hB := bs_made m (by omega) (H4.out.drew.drew)
        have hgt : ¬ (hh.n.sz ≤ off) := hge
        subst ho
        clear hT2 HT hm hge
        obtain ⟨ZB, hZB⟩ : ∃ Z, Z = u8s (zs m) := ⟨_, rfl⟩
        rw [← hZB] at hmk hB
        clear hZB
        go_wp2_with fail
        (with_reducible refine (need_yes w2).mono ?_)
        rintro e w3 ⟨rfl, rfl⟩
        go_wp2_with fail
        go_region_held3 (fun w' => w'.cell? ⟨ob, 0, none⟩ = some (.int .i64 (o : Int)) ∧ w'.cell? ⟨hb, 3, none⟩ = some (.int .i64 hh.n.sz)) (first | exact ⟨co, c3⟩ | go_keep) (fail)
        rename_i hHeld
        have hgd : decide (hh.n.sz ≤ (o : Int)) = false := decide_eq_false (by omega)
        have H5 := SL.hid H4.out.drew
        have D5 := SL.hid d2.drew
        have co2 := SO.out w2.drew (workA x S' st1 * (pool S' * (heldA hb hh))) (H5.out.to (by ac_rfl))
        have cc2 := SC.out w2.drew (workA x S' st1 * (pool S' * (heldA hb hh))) (H5.out.to (by ac_rfl))
        have c32 : w2.drew.cell? ⟨hb, 3, none⟩ = some (.int .i64 hh.n.sz) := hHeld.2
        clear hHeld co cc c3 H4 d2
        generalize w2.drew = w3 at *
        rw [hgd]
        clear hgd
        go_wp2_with fail
        have hval : (if IntKind.i64.wrap (hh.n.sz - (o : Int)) < cnt then IntKind.i64.wrap (hh.n.sz - (o : Int)) else cnt) = (m : Int) := by
          have e : IntKind.i64.wrap (hh.n.sz - (o : Int)) = hh.n.sz - (o : Int) := by rw [IntKind.wrap_i64]; omega
          rw [e]; split <;> omega
        refine wp_region_held_drew (S := (fun w' => w'.cell? ⟨ob, 0, none⟩ = some (.int .i64 (o : Int)) ∧ w'.cell? ⟨cb, 0, none⟩ = some (.int .i64 cnt) ∧ w'.cell? ⟨hb, 3, none⟩ = some (.int .i64 hh.n.sz))) (by kernel_rfl) ?_ (fun hHeld => ?_)
        · (first | exact ⟨co2, cc2, c32⟩ | go_keep)
        refine wpAnyH_take (i := 0) (v := ?_) rfl (by kernel_rfl) (by kernel_rfl) (by kernel_rfl) (fun _ _ _ h => h) (Or.inl ⟨by kernel_rfl, ?_⟩) (by assumption) ?_
        rotate_left
        · intro w hSw; (try dsimp only at hSw); go_simp; try with_reducible rfl
        try simp only [List.getElem_toArray, List.getElem_cons_succ, List.getElem_cons_zero, Act.put, List.setIfInBounds_toArray, List.set_cons_zero, List.set_cons_succ]
        refine wpAnyH_take (i := 1) (v := ?_) rfl (by kernel_rfl) (by kernel_rfl) (by kernel_rfl) (fun _ _ _ h => h) (Or.inl ⟨by kernel_rfl, ?_⟩) (by assumption) ?_
        rotate_left
        · intro w hSw; (try dsimp only at hSw); go_simp; try with_reducible rfl
        try simp only [List.getElem_toArray, List.getElem_cons_succ, List.getElem_cons_zero, Act.put, List.setIfInBounds_toArray, List.set_cons_zero, List.set_cons_succ]
        refine wpAnyH_take (i := 2) (v := ?_) rfl (by kernel_rfl) (by kernel_rfl) (by kernel_rfl) (fun _ _ _ h => h) (Or.inl ⟨by kernel_rfl, ?_⟩) (by assumption) ?_
        rotate_left
        · intro w hSw; (try dsimp only at hSw); go_simp; try with_reducible rfl
        try simp only [List.getElem_toArray, List.getElem_cons_succ, List.getElem_cons_zero, Act.put, List.setIfInBounds_toArray, List.set_cons_zero, List.set_cons_succ]
        refine wpAnyH_take (i := 3) (v := ?_) rfl (by kernel_rfl) (by kernel_rfl) (by kernel_rfl) (fun _ _ _ h => h) (Or.inl ⟨by kernel_rfl, ?_⟩) (by assumption) ?_
        rotate_left
        · intro w hSw; (try dsimp only at hSw); go_simp; try with_reducible rfl
        try simp only [List.getElem_toArray, List.getElem_cons_succ, List.getElem_cons_zero, Act.put, List.setIfInBounds_toArray, List.set_cons_zero, List.set_cons_succ]
        refine wpAnyH_take (i := 4) (v := ?_) rfl (by kernel_rfl) (by kernel_rfl) (by kernel_rfl) (fun _ _ _ h => h) (Or.inl ⟨by kernel_rfl, ?_⟩) (by assumption) ?_
        rotate_left
        · intro w hSw; (try dsimp only at hSw); go_simp; try with_reducible rfl
        try simp only [List.getElem_toArray, List.getElem_cons_succ, List.getElem_cons_zero, Act.put, List.setIfInBounds_toArray, List.set_cons_zero, List.set_cons_succ]
        refine wpAnyH_take (i := 5) (v := ?_) rfl (by kernel_rfl) (by kernel_rfl) (by kernel_rfl) (fun _ _ _ h => h) (Or.inl ⟨by kernel_rfl, ?_⟩) (by assumption) ?_
        rotate_left
        · intro w hSw; (try dsimp only at hSw); go_simp; try with_reducible rfl
        try simp only [List.getElem_toArray, List.getElem_cons_succ, List.getElem_cons_zero, Act.put, List.setIfInBounds_toArray, List.set_cons_zero, List.set_cons_succ]
        refine wpAnyH_take (i := 6) (v := ?_) rfl (by kernel_rfl) (by kernel_rfl) (by kernel_rfl) (fun _ _ _ h => h) (Or.inl ⟨by kernel_rfl, ?_⟩) (by assumption) ?_
        rotate_left
        · intro w hSw; (try dsimp only at hSw); go_simp; try with_reducible rfl
        try simp only [List.getElem_toArray, List.getElem_cons_succ, List.getElem_cons_zero, Act.put, List.setIfInBounds_toArray, List.set_cons_zero, List.set_cons_succ]
        refine wpAnyH_take (i := 7) (v := ?_) rfl (by kernel_rfl) (by kernel_rfl) (by kernel_rfl) (fun _ _ _ h => h) (Or.inl ⟨by kernel_rfl, ?_⟩) (by assumption) ?_
        rotate_left
        · intro w hSw; (try dsimp only at hSw); go_simp; try with_reducible rfl
        try simp only [List.getElem_toArray, List.getElem_cons_succ, List.getElem_cons_zero, Act.put, List.setIfInBounds_toArray, List.set_cons_zero, List.set_cons_succ]
        refine wpAnyH_take (i := 8) (v := .int .i64 (m : Int)) rfl (by kernel_rfl) (by kernel_rfl) (by kernel_rfl) (fun _ _ _ h => h) (Or.inl ⟨by kernel_rfl, ?_⟩) (by assumption) ?_
        · intro w hSw; (try dsimp only at hSw); go_simp
        try simp only [List.getElem_toArray, List.getElem_cons_succ, List.getElem_cons_zero, Act.put, List.setIfInBounds_toArray, List.set_cons_zero, List.set_cons_succ]
        refine wpAnyH_ready (rs := [9]) (by kernel_rfl) (by simp) ?_
        refine AllReadyH.cons rfl (fun K hK => ?_) AllReadyH.nil
        go_simp
        refine hK.out _ _ ?_ (fun hHeld => ?_)
        · (first | exact ⟨co2, cc2, c32⟩ | go_keep)
        clear hK K
        refine wpAnyH_take (i := 10) (v := ?_) rfl (by kernel_rfl) (by kernel_rfl) (by kernel_rfl) (fun _ _ _ h => h) (Or.inl ⟨by kernel_rfl, ?_⟩) (by assumption) ?_
        rotate_left
        · intro w hSw; (try dsimp only at hSw); go_simp; try with_reducible rfl
        try simp only [List.getElem_toArray, List.getElem_cons_succ, List.getElem_cons_zero, Act.put, List.setIfInBounds_toArray, List.set_cons_zero, List.set_cons_succ]
        refine wpAnyH_done (by kernel_rfl) ?_ _
        rename_i hHeld2
        rw [show IntKind.i64.wrap (hh.n.sz - (o : Int)) = hh.n.sz - (o : Int) from by rw [IntKind.wrap_i64]; omega]
        have D6 : Side w (w3.alloc (.cells ZB 5 (0, 0))).drew := D5.out.drew.alloc (.cells ZB 5 (0, 0))
        have hB2 : Sat (w3.alloc (.cells ZB 5 (0, 0))).drew (bs 5 (.slice (some ⟨w3.heap.size, 0, none⟩) m m) (zs m) * (workA x S' st1 * (pool S' * (heldA hb hh * G)))) := hB
        clear hHeld hHeld2 hB co2 cc2 c32 hmk hval H5 D5
        generalize (w3.alloc (.cells ZB 5 (0, 0))).drew = w5 at *
        generalize w3.heap.size = g at *
        have HB2 := SL.hid hB2
        have hm1 : (m : Int) ≤ 122880 := by omega
        have ho1 : (o : Int) ≤ 122880 := by omega
        have hm0 : 0 ≤ (m : Int) := by omega
        clear hB2 SC hm2 hgt hlt z1
        go_wp2_with fail
        go_loopw [8] (fun u wr => RdRel x hb hh o m g S G w T u wr) (fun u _ => m - (intOf u).toNat)
        case atStart => exact ⟨0, m, zs m, st1, S', Nat.zero_le _, length_zs m, Nat.le_refl _, rfl, HT2.out, hS, D6, HB2.out⟩
        case round =>
          obtain ⟨done, f, A, stk, Sk, hdm, hAl, hf, rfl, hTk, hSk, dk, hk4⟩ := hrel
          have HTk := SL.hid hTk; have HSk := SL.hid hSk; have HAl := SL.hid hAl
          clear HB2 HT2 hTk hSk hAl D6
          by_cases hlt : done < m
          · have hlt' : (done : Int) < (m : Int) := by omega
            obtain ⟨f', rfl⟩ : ∃ f', f = f' + 1 := ⟨f - 1, by omega⟩
            have hA : done < A.length := by rw [HAl.out]; exact hlt
            have co := SO.out wr (bs 5 (.slice (some ⟨g, 0, none⟩) m m) A * (workA x Sk stk * (pool Sk * (heldA hb hh)))) (hk4.to (by ac_rfl))
            obtain ⟨l, hl⟩ : ∃ l, lenN (A.length - done) (o + done) = l := ⟨_, rfl⟩
            have hl2 : l = min (m - done) (480 - (o + done) % 480) := by rw [← hl, HAl.out]; rfl
            obtain ⟨q, hq⟩ : ∃ q, (o + done) / 480 = q := ⟨_, rfl⟩
            obtain ⟨r, hr⟩ : ∃ r, (o + done) % 480 = r := ⟨_, rfl⟩
            have hq256 : q < 256 := by omega
            have hr480 : r < 480 := by omega
            rw [hr] at hl2
            have hl1 : 1 ≤ l := by omega
            have hlm : done + l ≤ m := by omega
            have hlr : r + l ≤ 480 := by omega
            have hquo : ((o : Int) + (done : Int)).tdiv 480 = (q : Int) := by rw [Int.tdiv_eq_ediv_of_nonneg (by omega)]; omega
            have hrem : ((o : Int) + (done : Int)).tmod 480 = (r : Int) := by rw [Int.tmod_eq_emod_of_nonneg (by omega)]; omega
            have hmin : (if (480 : Int) - (r : Int) < ((m - done : Nat) : Int) then (480 : Int) - (r : Int) else ((m - done : Nat) : Int)) = (l : Int) := by split <;> omega
            have hsub : (m : Int) - (done : Int) = ((m - done : Nat) : Int) := by omega
            have hpg := page_any wr hb hh _ (hk4.to (by ac_rfl : _ = heldA hb hh * (bs 5 (.slice (some ⟨g, 0, none⟩) m m) A * (workA x Sk stk * (pool Sk * G))))) q hq256
            unfold IntQ at hpg
            by_cases h0 : hh.page q = 0
            · have HN := SL.hid ((wrd_z hA (by rw [hq]; exact h0) stk).symm.trans HTk.out)
              rw [hl] at HN
              rw [h0] at hpg
              clear h0 hl2 hq hr hl
              go_wp2_with fail
              (with_reducible refine hpg.mono ?_)
              rintro e w6 ⟨rfl, rfl⟩
              go_wp2_with fail
              go_roundw
              case rel => exact ⟨done + l, f', A, stk, Sk, hlm, HAl.out, by omega, by go_num, HN.out, HSk.out, dk, hk4⟩
              case measure => simp [intOf]; omega
            · have h1 : (hh.page q != 0) = true := by simpa using h0
              have hrd := read_anyW x hc wr Sk stk (hh.page q) _ (hk4.to (by ac_rfl : _ = workA x Sk stk * (pool Sk * (heldA hb hh * (bs 5 (.slice (some ⟨g, 0, none⟩) m m) A * G)))))
              obtain ⟨⟨r2, st2⟩, hp2⟩ : ∃ p, wread x.c.ask (hh.page q) stk = p := ⟨_, rfl⟩
              rw [hp2] at hrd
              have hp3 : wread x.c.ask (hh.page ((o + done) / 480)) stk = (r2, st2) := by rw [hq]; exact hp2
              have h03 : hh.page ((o + done) / 480) ≠ 0 := by rw [hq]; exact h0
              cases r2 with
              | bad cN =>
                have HN := SL.hid ((wrd_b hA h03 hp3).symm.trans HTk.out)
                clear h0 h03 hp2 hp3 hl2 hq hr hl
                generalize hh.page q = y at *
                go_wp2_with fail
                (with_reducible refine hpg.mono ?_)
                rintro e w6 ⟨rfl, rfl⟩
                go_wp2_with fail
                (with_reducible refine hrd.mono ?_)
                rintro e w4 ⟨S2, hS2, d4, rfl, h6⟩
                go_wp2_with fail
                exact ⟨rfl, HQ.out _ _ (by rw [HE.out, ← HN.out]; exact ⟨S2, HSk.out.trans hS2, dk.trans d4, rfl, (h6.to (by ac_rfl : _ = (heldA hb hh * bs 5 (.slice (some ⟨g, 0, none⟩) m m) A) * (workA x S2 st2 * (pool S2 * G)))).right⟩)⟩
              | ok L =>
                have HL := SL.hid (wread_len hp2)
                have HN := SL.hid ((wrd_s hA h03 hp3).symm.trans HTk.out)
                rw [hl, hr] at HN
                clear h0 h03 hp2 hp3 hl2 hq hr hl
                generalize hh.page q = y at *
                go_wp2_with fail
                (with_reducible refine hpg.mono ?_)
                rintro e w6 ⟨rfl, rfl⟩
                go_wp2_with fail
                (with_reducible refine hrd.mono ?_)
                rintro e w4 ⟨S2, v4, hS2, d4, rfl, h6⟩
                unfold bytesR at h6
                obtain ⟨ga, ca, curd, rfl, a1, a2, a3, a4, a5, a6⟩ := bs_splice h6 (by rw [HL.out]; decide)
                obtain ⟨g', c', cur, e, k1, k2, k3, k4, k5, k6⟩ := bs_splice (h6.to (by ac_rfl : _ = bs 5 (.slice (some ⟨g, 0, none⟩) m m) A * (bs 5 (.slice (some ⟨ga, 0, none⟩) L.length ca) L * (workA x S2 st2 * (pool S2 * (heldA hb hh * G)))))) (Nat.lt_of_le_of_lt (Nat.zero_le _) hA)
                simp only [Value.slice.injEq, Option.some.injEq, Addr.mk.injEq] at e
                obtain ⟨⟨rfl, -, -⟩, -, rfl⟩ := e
                have hdl : ((L.drop r).take l).length = l := by rw [List.length_take, List.length_drop, HL.out]; omega
                have h7 := (k6 done ((L.drop r).take l) (by rw [hdl, HAl.out]; omega)).1
                have hcp := fun ty => run_copy_row (P := Tryz.prog) w4 48 48 ty 5 g done l (m - done) ⟨ga, r, none⟩ (480 - r) (ca - r) cur 5 (((L.drop r).take l).map u8) Tryz.underlying48 info_u8s k4
                  (by rw [List.length_map, hdl]; exact (Nat.min_eq_right (by omega)).symm)
                  (fun j v hv => by
                    have hj : j < l := by rw [← hdl]; simpa using (List.getElem?_eq_some_iff.1 hv).1
                    rw [Addr.add_lit, (a5 (r + j) (by rw [HL.out]; omega)).1, ← hv, List.getElem?_map, List.getElem?_take, if_pos hj, List.getElem?_drop]
                    rw [List.getD, List.getElem?_eq_getElem (by rw [HL.out]; omega)]; rfl)
                  (by rw [List.length_map, hdl, k3]; omega) (u8_one _)
                generalize (cur.toList.take done ++ ((L.drop r).take l).map u8 ++ cur.toList.drop (done + (((L.drop r).take l).map u8).length)).toArray = RW at *
                have Hcp := SL.hid hcp
                have Hdl := SL.hid hdl
                have h8 := SL.hid h7.front2.right
                rw [HL.out] at a1 ⊢
                clear hrd hpg h6 h7 hcp hdl a2 a3 a4 a5 a6 k1 k2 k4 k5 k6
                go_wp2_with (refine wpList_copy_run (Hcp.out _) _ _ rfl rfl rfl rfl rfl ?_)
                go_roundw
                case rel => exact ⟨done + l, f', putAt A done ((L.drop r).take l), st2, S2, hlm, by rw [putAt_length (by rw [Hdl.out, HAl.out]; omega)]; exact HAl.out, by omega, by go_num, HN.out, HSk.out.trans hS2, (dk.trans d4).setRow _ _, h8.out⟩
                case measure => simp [intOf]; omega
          · have hA : A.length ≤ done := by rw [HAl.out]; omega
            have HN := SL.hid ((wrd_end (ask := x.c.ask) (h := hh) (off := o) (f := f) hA stk).symm.trans HTk.out)
            clear hA
            go_wp2_with fail
            refine HQ.out _ _ ?_
            rw [HE.out, ← HN.out]
            exact ⟨Sk, _, HSk.out, dk, rfl, by
              show Sat wr (bs 5 _ A * _)
              exact (hk4.to (by ac_rfl : _ = heldA hb hh * (bs 5 (.slice (some ⟨g, 0, none⟩) m m) A * (workA x Sk stk * (pool Sk * G))))).right⟩
    · have hT : T = (.bad 1, st1) := by rw [← HT.out]; exact if_neg hz
      have HT2 := SL.hid hT
      clear hT HT
      by_cases hz1 : 0 ≤ off
      · have hz2 : decide (0 ≤ cnt) = false := decide_eq_false (by omega)
        clear hz
        go_wp2_with fail
        (with_reducible refine (need_no w2).mono ?_)
        rintro e w4 ⟨rfl, rfl⟩
        go_wp2_with fail
        exact ⟨rfl, HQ.out _ _ (by rw [HE.out, HT2.out]; exact ⟨S', hS, d2, rfl, (H4.out.to (by ac_rfl : _ = heldA hb hh * (workA x S' st1 * (pool S' * G)))).right⟩)⟩
      · have hz2 : off < 0 := by omega
        clear hz
        go_wp2_with fail
        (with_reducible refine (need_no w2).mono ?_)
        rintro e w4 ⟨rfl, rfl⟩
        go_wp2_with fail
        exact ⟨rfl, HQ.out _ _ (by rw [HE.out, HT2.out]; exact ⟨S', hS, d2, rfl, (H4.out.to (by ac_rfl : _ = heldA hb hh * (workA x S' st1 * (pool S' * G)))).right⟩)⟩
end
end Go.Proofs.YtaoohjeaaccnfaaGreat.Fs

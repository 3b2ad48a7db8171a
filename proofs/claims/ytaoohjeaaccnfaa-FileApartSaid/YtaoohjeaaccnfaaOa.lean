/- file: Truncate's job. -/
import Derived.Test.YtaoohjeaaccnfaaFz
namespace Go.SL
set_option linter.unusedVariables false
set_option linter.unusedSimpArgs false
open Go.RowKit
section
variable {σ : Type}
def Hd.setSz (h : Hd) (z : Int) : Hd := { h with n := { h.n with sz := z } }
def Hd.setRw (h : Hd) (z : Int) : Hd := { h with n := { h.n with rw := z } }
theorem Hd.setSz_l (h : Hd) (z : Int) : (h.setSz z).l = h.l.set 3 z := rfl
theorem Hd.setRw_l {h : Hd} (hf : h.fit) (z : Int) : (h.setRw z).l = h.l.set 20 z := by
  have e : h.l = (h.id : Int) :: h.n.kd :: h.n.lk :: h.n.sz :: (h.n.dr ++ (h.n.rw :: h.row)) := by simp [Hd.l, Nd.l]
  have e2 : (h.setRw z).l = (h.id : Int) :: h.n.kd :: h.n.lk :: h.n.sz :: (h.n.dr ++ (z :: h.row)) := by simp [Hd.l, Nd.l, Hd.setRw]
  rw [e, e2]
  simp only [List.set_cons_succ]
  rw [List.set_append, if_neg (by rw [hf.1]; decide), hf.1]
  rfl
/-- Its pages and its row's block are within a space. -/
structure Hd.In2 (n : Nat) (h : Hd) : Prop where
  fit : h.fit
  rw0 : 0 ≤ h.n.rw
  rw1 : h.n.rw < n
  pg : ∀ i, i < 256 → 0 ≤ h.page i ∧ h.page i < n
theorem Hd.Inn.to2 {n : Nat} {h : Hd} (hi : h.Inn n) : h.In2 n := ⟨hi.fit, hi.rw0, hi.rw1, fun _ hk => hi.page hk⟩
theorem Hd.page_put {h : Hd} (hf : h.fit) {i : Nat} (hi : i < 256) (b : Int) (k : Nat) : (h.put i b).page k = if k = i then b else h.page k := by
  unfold Hd.put Hd.page
  by_cases h16 : i < 16
  · rw [if_pos h16]
    by_cases hk : k < 16
    · rw [if_pos hk, if_pos hk]
      by_cases hki : k = i
      · subst hki; simp [List.getD, List.getElem?_set, hf.1, h16]
      · rw [if_neg hki]; simp [List.getD, List.getElem?_set, Ne.symm hki]
    · rw [if_neg hk, if_neg hk, if_neg (by omega)]
  · rw [if_neg h16]
    by_cases hk : k < 16
    · rw [if_pos hk, if_pos hk, if_neg (by omega)]
    · rw [if_neg hk, if_neg hk]
      by_cases hki : k = i
      · subst hki; simp [List.getD, List.getElem?_set, hf.2, show k - 16 < 240 by omega]
      · rw [if_neg hki]; simp [List.getD, List.getElem?_set, show ¬ i - 16 = k - 16 by omega]
theorem Hd.put_rw (h : Hd) (i : Nat) (b : Int) : (h.put i b).n.rw = h.n.rw := by unfold Hd.put; split <;> rfl
theorem Hd.put_sz (h : Hd) (i : Nat) (b : Int) : (h.put i b).n.sz = h.n.sz := by unfold Hd.put; split <;> rfl
theorem Hd.put_id (h : Hd) (i : Nat) (b : Int) : (h.put i b).id = h.id := by unfold Hd.put; split <;> rfl
theorem Hd.In2.put {n : Nat} {h : Hd} (hi : h.In2 n) {i : Nat} (h256 : i < 256) {b : Int} (h0 : 0 ≤ b) (h1 : b < n) : (h.put i b).In2 n :=
  ⟨Hd.put_fit hi.fit i b, by rw [Hd.put_rw]; exact hi.rw0, by rw [Hd.put_rw]; exact hi.rw1, fun k hk => by
    rw [Hd.page_put hi.fit h256]
    split
    · exact ⟨h0, h1⟩
    · exact hi.pg k hk⟩
def wtr2 (ask : Asks σ) (h : Hd) : WM σ Unit := wcut ask h ⇝ fun _ => wsave h
def wtr1 (ask : Asks σ) (size : Int) (h : Hd) : WM σ Unit := fun st =>
  if h.n.rw ≠ 0 ∧ h.row = List.replicate 240 0 then (wmark ask h.n.rw.toNat false ⇝ fun _ => wtr2 ask ((h.setRw 0).setSz size)) st else wtr2 ask (h.setSz size) st
def wtrL (ask : Asks σ) (size : Int) : Nat → Hd → WM σ Unit
  | 0, h => wtr1 ask size h
  | j + 1, h => fun st => if h.page (256 - (j + 1)) = 0 then wtrL ask size j h st else (wmark ask (h.page (256 - (j + 1))).toNat false ⇝ fun _ => wtrL ask size j (h.put (256 - (j + 1)) 0)) st
def wtrunc (ask : Asks σ) (n : Nat) (node size : Int) : WM σ Unit := wload ask n node ⇝ fun h st => if 0 ≤ size ∧ size ≤ 122880 then wtrL ask size (256 - (blocksOf size).toNat) h st else (.bad 1, st)
theorem wtrL_z {ask : Asks σ} {size : Int} {h : Hd} {k : Nat} (hk : k < 256) (h0 : h.page k = 0) (st : Wst σ) : wtrL ask size (256 - k) h st = wtrL ask size (256 - (k + 1)) h st := by
  obtain ⟨j, hj⟩ : ∃ j, 256 - k = j + 1 := ⟨255 - k, by omega⟩
  have e : 256 - (j + 1) = k := by omega
  rw [hj, show 256 - (k + 1) = j by omega]
  exact if_pos (by rw [e]; exact h0)
theorem wtrL_b {ask : Asks σ} {size : Int} {h : Hd} {k : Nat} (hk : k < 256) (h0 : h.page k ≠ 0) {st st1 : Wst σ} {c : Int} (hm : wmark ask (h.page k).toNat false st = (.bad c, st1)) : wtrL ask size (256 - k) h st = (.bad c, st1) := by
  obtain ⟨j, hj⟩ : ∃ j, 256 - k = j + 1 := ⟨255 - k, by omega⟩
  have e : 256 - (j + 1) = k := by omega
  rw [hj]
  exact (if_neg (by rw [e]; exact h0)).trans (WM.bind_bad (by rw [e]; exact hm))
theorem wtrL_s {ask : Asks σ} {size : Int} {h : Hd} {k : Nat} (hk : k < 256) (h0 : h.page k ≠ 0) {st st1 : Wst σ} (hm : wmark ask (h.page k).toNat false st = (.ok (), st1)) : wtrL ask size (256 - k) h st = wtrL ask size (256 - (k + 1)) (h.put k 0) st1 := by
  obtain ⟨j, hj⟩ : ∃ j, 256 - k = j + 1 := ⟨255 - k, by omega⟩
  have e : 256 - (j + 1) = k := by omega
  rw [hj, show 256 - (k + 1) = j by omega]
  refine (if_neg (by rw [e]; exact h0)).trans ((WM.bind_ok (by rw [e]; exact hm)).trans ?_)
  rw [e]
end
end Go.SL
namespace Go.Proofs.Ytaoohjeaaccnfaa.Fs
set_option linter.unusedVariables false
set_option linter.unusedSimpArgs false
open Go.RowKit Go.SL Go.Proofs.Ytaoohjeaaccnfaa.Ba
section
variable {σ α : Type}
theorem wpList_wanted {P : Program} {ops : Array Oper} {rest : List Oper} {o : Oper} {a : Act} {w : World} {Q : Exit → Act → World → Prop} (hw : Region.wanted o (yielded ops a.tmps) = true)
    (h : ∀ K : Act → World → Prop, (∀ a w, wpList P ops Q rest a w → K a w) → o.wp P a w K Q) : wpList P ops Q (o :: rest) a w :=
  wpList_step fun K hK => by rw [if_pos hw]; exact h K hK
theorem built240s : Try.prog.built 65 [] = some (ints zeroRow) := by
  obtain ⟨C, hC⟩ := Option.isSome_iff_exists.1 built240
  have := built240z
  rw [hC] at this
  rw [hC]; exact congrArg some this
theorem wp_build_to {P : Program} {o : Oper} {a : Act} {w : World} {K : Act → World → Prop} {Q : Exit → Act → World → Prop} (t : TypeId) (parts : Array (Nat × Operand)) (ho : o.op = .build t parts)
    (l : List (Nat × Value)) (hl : parts.toList.map (fun p => (p.1, a.eval p.2)) = l) (C : Array Value) (hb : P.built t l = some C) (h : K (a.put o.dst (.agg C)) w) : o.wp P a w K Q := by
  have e : P.built t (parts.map fun (i, x) => (i, a.eval x)).toList = some C := by rw [Array.toList_map]; exact hl ▸ hb
  exact wp_build t parts ho (by rw [e]; rfl) (by rw [e]; exact h)
def TruncRel (x : Wk σ) (n : Nat) (size : Int) (hb : Nat) (S : Hp) (F : Assn) (w : World) (T : Rs Unit × Wst σ) (u5 : Value) (wr : World) : Prop :=
  ∃ (k : Nat) (hk : Hd) (stk : Wst σ) (Sk : Hp), k ≤ 256 ∧ u5 = .int .i64 (k : Int) ∧ hk.In2 n ∧ wtrL x.c.ask size (256 - k) hk stk = T ∧ Ext S Sk ∧ Side w wr ∧ Sat wr (workA x Sk stk * (pool Sk * (heldA hb hk * F)))
/-- cut and save: the end of Truncate's job. -/
theorem info_rowc : ∀ w, (sizeOf 3).run Try.prog w = .ok 1 w := by intro w; kernel_rfl
set_option maxRecDepth 100000 in
set_option maxHeartbeats 4000000 in
theorem trunc_job {c : Cx σ} (hc : c.Ok) {n : Nat} (hn : n ≤ 3840) (node size : Int) (nb sb : Nat) : Job c n 38 #[.pointer (some ⟨nb, 0, none⟩), .pointer (some ⟨sb, 0, none⟩)] unitR (intA nb node * intA sb size) (wtrunc c.ask n node size) := by
  intro x w S st F hx1 hx2 h
  subst hx1 hx2
  have cn : w.cell? ⟨nb, 0, none⟩ = some (.int .i64 node) := (h.to (by ac_rfl : _ = intA nb node * (intA sb size * (workA x S st * (pool S * F))))).cell 0
  show Calls Try.prog 38 #[.pointer (some ⟨x.k, 0, none⟩), .pointer (some ⟨nb, 0, none⟩), .pointer (some ⟨sb, 0, none⟩)] w _
  refine callsQ fun Q HQ => ?_
  have hl := load_anyW x hc w S st node _ h
  obtain ⟨⟨r, st1⟩, hp⟩ : ∃ p, wload x.c.ask x.n node st = p := ⟨_, rfl⟩
  rw [hp] at hl
  clear h
  obtain ⟨G, hG⟩ : ∃ G, G = intA nb node * intA sb size * F := ⟨_, rfl⟩
  rw [← hG] at hl HQ
  have HG := SL.hid hG
  cases r with
  | bad cN =>
    have HE := SL.hid (show wtrunc x.c.ask x.n node size st = (.bad cN, st1) from WM.bind_bad hp)
    clear hp hG
    go_enter Try.func38, Try.ntmps38
    go_wp2_with fail
    (with_reducible refine hl.mono ?_)
    rintro e w2 ⟨S', hS, d2, rfl, h2⟩
    go_wp2_with fail
    exact ⟨rfl, HQ.out _ _ (by rw [HE.out]; exact ⟨S', hS, d2, rfl, h2⟩)⟩
  | ok hh =>
    have hI := (wload_inn hp).to2
    have HI := SL.hid hI
    obtain ⟨T, hT⟩ : ∃ T, (fun st => if 0 ≤ size ∧ size ≤ 122880 then wtrL x.c.ask size (256 - (blocksOf size).toNat) hh st else (.bad 1, st)) st1 = T := ⟨_, rfl⟩
    have HE := SL.hid (show wtrunc x.c.ask x.n node size st = T from (WM.bind_ok hp).trans hT)
    clear hp hI
    have hT2 : (if 0 ≤ size ∧ size ≤ 122880 then wtrL x.c.ask size (256 - (blocksOf size).toNat) hh st1 else (.bad 1, st1)) = T := hT
    clear hT hG
    have sG : ∀ W P, Sat W (P * G) → W.cell? ⟨sb, 0, none⟩ = some (.int .i64 size) := fun W P hW => by
      rw [HG.out] at hW
      exact (hW.to (by ac_rfl : _ = intA sb size * (intA nb node * (F * P)))).cell 0
    have SG := SL.hid sG
    have HT2 := SL.hid hT2
    have hbl := fun w => blocks_any w size
    go_enter Try.func38, Try.ntmps38
    go_wp2_with fail
    (with_reducible refine hl.mono ?_)
    rintro e w2 ⟨S', v, hS, d2, rfl, h2⟩
    obtain ⟨hb, rfl, h3⟩ := Sat.heldR h2
    have h4 : Sat w2 (workA x S' st1 * (pool S' * (heldA hb hh * G))) := h3.to (by ac_rfl)
    have cs := SG.out w2 (workA x S' st1 * (pool S' * (heldA hb hh))) (h4.to (by ac_rfl))
    have H4 := SL.hid h4
    clear h2 h3 hl cn hT2 h4 sG
    by_cases hz : 0 ≤ size ∧ size ≤ 122880
    · obtain ⟨z0, z1⟩ := hz
      have hT := HT2.out
      rw [if_pos ⟨z0, z1⟩] at hT
      have hB0 : 0 ≤ blocksOf size ∧ blocksOf size ≤ 256 := by unfold blocksOf; omega
      have HT := SL.hid hT; have HB0 := SL.hid hB0
      clear hT hB0
      have hbl2 := hbl w2
      unfold IntIs at hbl2
      clear hbl
      go_wp2_with fail
      (with_reducible refine (need_yes w2).mono ?_)
      rintro e w3 ⟨rfl, rfl⟩
      go_wp2_with fail
      (with_reducible refine hbl2.mono ?_)
      rintro e w3 ⟨rfl, rfl⟩
      clear hbl2 cs
      go_wp2_with fail
      go_loopw [5] (fun u5 wr => TruncRel x x.n size hb S G w T u5 wr) (fun u5 _ => 256 - (intOf u5).toNat)
      case atStart => exact ⟨(blocksOf size).toNat, hh, st1, S', by have := HB0.out; omega, by rw [Int.toNat_of_nonneg HB0.out.1], HI.out, HT.out, hS, d2, H4.out⟩
      case round =>
        obtain ⟨k, hk, stk, Sk, hk256, rfl, hIk, hTk, hSk, dk, hk4⟩ := hrel
        have HTk := SL.hid hTk; have HSk := SL.hid hSk; have HIk := SL.hid hIk
        clear H4 HT hTk hSk hIk HB0
        have hk5 := hk4.to (by ac_rfl : _ = heldA hb hk * (workA x Sk stk * (pool Sk * G)))
        by_cases hlt : k < 256
        · have hlt' : (k : Int) < 256 := by omega
          have hpg := page_any wr hb hk _ hk5 k hlt
          unfold IntQ at hpg
          by_cases h0 : hk.page k = 0
          · have HN := SL.hid ((wtrL_z hlt h0 stk).symm.trans HTk.out)
            rw [h0] at hpg
            clear h0 hk5
            go_wp2_with fail
            (with_reducible refine hpg.mono ?_)
            rintro e w3 ⟨rfl, rfl⟩
            go_wp2_with fail
            go_roundw
            case rel => exact ⟨k + 1, hk, stk, Sk, by omega, by go_num, HIk.out, HN.out, HSk.out, dk, hk4⟩
            case measure => simp [intOf]; omega
          · have h1 : (hk.page k != 0) = true := by simpa using h0
            obtain ⟨p0, p1⟩ := HIk.out.pg k hlt
            have hm := mark_anyI x hc wr Sk stk (hk.page k) false _ p0 (by omega) hk4
            obtain ⟨⟨r2, st2⟩, hp2⟩ : ∃ p, wmark x.c.ask (hk.page k).toNat false stk = p := ⟨_, rfl⟩
            rw [hp2] at hm
            cases r2 with
            | bad cN =>
              have HN := SL.hid ((wtrL_b hlt h0 hp2).symm.trans HTk.out)
              clear h0 hp2 hk5 p0 p1
              generalize hk.page k = y at *
              go_wp2_with fail
              (with_reducible refine hpg.mono ?_)
              rintro e w3 ⟨rfl, rfl⟩
              go_wp2_with fail
              (with_reducible refine hm.mono ?_)
              rintro e w4 ⟨S2, hS2, d4, rfl, h6⟩
              go_wp2_with fail
              exact ⟨rfl, HQ.out _ _ (by rw [HE.out, ← HN.out]; exact ⟨S2, HSk.out.trans hS2, dk.trans d4, rfl, (h6.to (by ac_rfl : _ = heldA hb hk * (workA x S2 st2 * (pool S2 * G)))).right⟩)⟩
            | ok u =>
              have HN := SL.hid ((wtrL_s hlt h0 hp2).symm.trans HTk.out)
              have HI2 := SL.hid (HIk.out.put hlt (Int.le_refl 0) (by have := HIk.out.rw0; have := HIk.out.rw1; omega : (0 : Int) < x.n))
              clear h0 hp2 hk5 p0 p1
              generalize hk.page k = y at *
              go_wp2_with fail
              (with_reducible refine hpg.mono ?_)
              rintro e w3 ⟨rfl, rfl⟩
              go_wp2_with fail
              (with_reducible refine hm.mono ?_)
              rintro e w4 ⟨S2, v4, hS2, d4, rfl, h6⟩
              obtain ⟨rfl, h7⟩ := Sat.fact_iff.1 h6
              have hpu := puth_any w4 hb hk _ (h7.to (by ac_rfl : _ = heldA hb hk * (workA x S2 st2 * (pool S2 * G)))) k hlt 0
              clear hm hpg h6
              go_wp2_with fail
              (with_reducible refine hpu.mono ?_)
              rintro e w5 ⟨rfl, h8, d5⟩
              go_wp2_with fail
              go_roundw
              case rel => exact ⟨k + 1, hk.put k 0, st2, S2, by omega, by go_num, HI2.out, HN.out, HSk.out.trans hS2, (dk.trans d4).trans d5, h8.to (by ac_rfl)⟩
              case measure => simp [intOf]; omega
        · obtain rfl : k = 256 := by omega
          have HR := SL.hid (show wtr1 x.c.ask size hk stk = T from HTk.out)
          have hf := HIk.out.fit
          have Hf := SL.hid hf
          have c20 : wr.cell? ⟨hb, 20, none⟩ = some (.int .i64 hk.n.rw) := held_rw hf (Sat.held.1 hk5).2
          have Hrow := SL.hid (held_row hf (Sat.held.1 hk5).2)
          have hinf2 : (Try.prog.info? 65).map (·.size) = some (hk.row.map (Value.int .i64)).length := by rw [List.length_map, hf.2]; exact info_row
          have Hinf2 := SL.hid hinf2
          clear hinf2 hf hlt
          by_cases hrw : hk.n.rw = 0
          · have HR2 := SL.hid (show wtr2 x.c.ask (hk.setSz size) stk = T from (if_neg (by simp [hrw])).symm.trans HR.out)
            rw [hrw] at c20
            clear hrw
            have hk6 := hk5
            have cs2 : wr.cell? ⟨sb, 0, none⟩ = some (.int .i64 size) := SG.out _ _ (hk6.to (by ac_rfl : _ = (heldA hb (hk) * (workA x Sk stk * pool Sk)) * G))
            have c3 := (held_cell hk6 (j := 3) (by decide)).1
            have f3 := (held_cell hk6 (j := 3) (by decide)).2
            have h20 := held_set (h' := (hk).setSz size) hk6 (j := 3) (z := size) Hf.out rfl
            have D20 := SL.hid ((dk).setCell ⟨hb, 3, none⟩ (.int .i64 size))
            have hct := cut_any x hc _ Sk stk hb ((hk).setSz size) _ z0 z1 h20
            obtain ⟨⟨r5, st5⟩, hp5⟩ : ∃ p, wcut x.c.ask ((hk).setSz size) stk = p := ⟨_, rfl⟩
            rw [hp5] at hct
            have HCT := SL.hid hct
            generalize (hk).l.getD 3 0 = y3 at *
            clear h20 hct hk6
            go_wp2_with fail
            generalize World.setCell _ ⟨hb, 3, none⟩ (.int .i64 size) = w20 at *
            refine HCT.out.mono ?_
            cases r5 with
            | bad cN =>
              have HN := SL.hid (HR2.out.symm.trans (WM.bind_bad hp5))
              rintro e w21 ⟨S5, hS5, d5, rfl, h21⟩
              go_wp2_with fail
              exact ⟨rfl, HQ.out _ _ (by rw [HE.out, HN.out]; exact ⟨S5, HSk.out.trans hS5, D20.out.trans d5, rfl, (h21.to (by ac_rfl : _ = heldA hb ((hk).setSz size) * (workA x S5 st5 * (pool S5 * G)))).right⟩)⟩
            | ok u5 =>
              have HN0 := SL.hid (HR2.out.symm.trans (WM.bind_ok hp5))
              rintro e w21 ⟨S5, v5, hS5, d5, rfl, h21⟩
              obtain ⟨rfl, h22⟩ := Sat.fact_iff.1 h21
              have hsv := save_anyW x w21 S5 st5 hb ((hk).setSz size) _ (h22.to (by ac_rfl : _ = heldA hb ((hk).setSz size) * (workA x S5 st5 * (pool S5 * G))))
              obtain ⟨⟨r6, st6⟩, hp6⟩ : ∃ p, wsave ((hk).setSz size) st5 = p := ⟨_, rfl⟩
              rw [hp6] at hsv
              have HN := SL.hid (HN0.out.trans hp6)
              clear hp5 hp6 h21 h22 HCT
              cases r6 with
              | bad cN =>
                go_wp2_with fail
                (with_reducible refine hsv.mono ?_)
                rintro e w22 ⟨S6, hS6, d6, rfl, h23⟩
                go_wp2_with fail
                exact ⟨rfl, HQ.out _ _ (by rw [HE.out, HN.out]; exact ⟨S6, (HSk.out.trans hS5).trans hS6, (D20.out.trans d5).trans d6, rfl, (h23.to (by ac_rfl : _ = heldA hb ((hk).setSz size) * (workA x S6 st6 * (pool S6 * G)))).right⟩)⟩
              | ok u6 =>
                go_wp2_with fail
                (with_reducible refine hsv.mono ?_)
                rintro e w22 ⟨S6, v6, hS6, d6, rfl, h23⟩
                obtain ⟨rfl, h24⟩ := Sat.fact_iff.1 h23
                go_wp2_with fail
                go_end0
                exact HQ.out _ _ (by rw [HE.out, HN.out]; exact ⟨S6, _, (HSk.out.trans hS5).trans hS6, (D20.out.trans d5).trans d6, rfl, Sat.fact_iff.2 ⟨rfl, (h24.to (by ac_rfl : _ = heldA hb ((hk).setSz size) * (workA x S6 st6 * (pool S6 * G)))).right⟩⟩)
          · have hrw1 : (hk.n.rw != 0) = true := by simpa using hrw
            have heq := fun w => run_eql_ints (P := Try.prog) w 65 3 240 Try.underlying65 Try.underlying3 info_rowc hk.row zeroRow Hf.out.2 rfl
            have hio : Value.agg (ints hk.row) = .agg (hk.row.map (Value.int .i64)).toArray := rfl
            rw [hio] at heq
            have ARMS : True := trivial
            cases hbe : (hk.row == zeroRow) with
            | false =>
              have hne : ¬ (hk.row = List.replicate 240 0) := by intro h9; rw [h9] at hbe; simp [zeroRow] at hbe
              have HR2 := SL.hid (show wtr2 x.c.ask (hk.setSz size) stk = T from (if_neg (fun h9 => hne h9.2)).symm.trans HR.out)
              rw [hbe] at heq
              clear hrw hbe hne
              have hk6 := hk5
              have cs2 : wr.cell? ⟨sb, 0, none⟩ = some (.int .i64 size) := SG.out _ _ (hk6.to (by ac_rfl : _ = (heldA hb (hk) * (workA x Sk stk * pool Sk)) * G))
              have c3 := (held_cell hk6 (j := 3) (by decide)).1
              have f3 := (held_cell hk6 (j := 3) (by decide)).2
              have h20 := held_set (h' := (hk).setSz size) hk6 (j := 3) (z := size) Hf.out rfl
              have D20 := SL.hid ((dk).setCell ⟨hb, 3, none⟩ (.int .i64 size))
              have hct := cut_any x hc _ Sk stk hb ((hk).setSz size) _ z0 z1 h20
              obtain ⟨⟨r5, st5⟩, hp5⟩ : ∃ p, wcut x.c.ask ((hk).setSz size) stk = p := ⟨_, rfl⟩
              rw [hp5] at hct
              have HCT := SL.hid hct
              generalize (hk).l.getD 3 0 = y3 at *
              clear h20 hct hk6
              go_wp2_with (first
                | (refine wpList_wanted (by exact rfl) fun K hK => wp_load_mid 65 (.tmp 43) (by exact rfl) hb 21 (by exact rfl) (hk.row.map (Value.int .i64)) _ (by with_reducible exact Hrow.out) Try.underlying65 rfl (by with_reducible exact Hinf2.out) (hK _ _ ?_))
                | (refine wpList_wanted (by exact rfl) fun K hK => wp_build_to 65 #[] (by exact rfl) [] (by exact rfl) (ints zeroRow) (by exact built240s) (hK _ _ ?_)))
              generalize World.setCell _ ⟨hb, 3, none⟩ (.int .i64 size) = w20 at *
              refine HCT.out.mono ?_
              cases r5 with
              | bad cN =>
                have HN := SL.hid (HR2.out.symm.trans (WM.bind_bad hp5))
                rintro e w21 ⟨S5, hS5, d5, rfl, h21⟩
                go_wp2_with fail
                exact ⟨rfl, HQ.out _ _ (by rw [HE.out, HN.out]; exact ⟨S5, HSk.out.trans hS5, D20.out.trans d5, rfl, (h21.to (by ac_rfl : _ = heldA hb ((hk).setSz size) * (workA x S5 st5 * (pool S5 * G)))).right⟩)⟩
              | ok u5 =>
                have HN0 := SL.hid (HR2.out.symm.trans (WM.bind_ok hp5))
                rintro e w21 ⟨S5, v5, hS5, d5, rfl, h21⟩
                obtain ⟨rfl, h22⟩ := Sat.fact_iff.1 h21
                have hsv := save_anyW x w21 S5 st5 hb ((hk).setSz size) _ (h22.to (by ac_rfl : _ = heldA hb ((hk).setSz size) * (workA x S5 st5 * (pool S5 * G))))
                obtain ⟨⟨r6, st6⟩, hp6⟩ : ∃ p, wsave ((hk).setSz size) st5 = p := ⟨_, rfl⟩
                rw [hp6] at hsv
                have HN := SL.hid (HN0.out.trans hp6)
                clear hp5 hp6 h21 h22 HCT
                cases r6 with
                | bad cN =>
                  go_wp2_with fail
                  (with_reducible refine hsv.mono ?_)
                  rintro e w22 ⟨S6, hS6, d6, rfl, h23⟩
                  go_wp2_with fail
                  exact ⟨rfl, HQ.out _ _ (by rw [HE.out, HN.out]; exact ⟨S6, (HSk.out.trans hS5).trans hS6, (D20.out.trans d5).trans d6, rfl, (h23.to (by ac_rfl : _ = heldA hb ((hk).setSz size) * (workA x S6 st6 * (pool S6 * G)))).right⟩)⟩
                | ok u6 =>
                  go_wp2_with fail
                  (with_reducible refine hsv.mono ?_)
                  rintro e w22 ⟨S6, v6, hS6, d6, rfl, h23⟩
                  obtain ⟨rfl, h24⟩ := Sat.fact_iff.1 h23
                  go_wp2_with fail
                  go_end0
                  exact HQ.out _ _ (by rw [HE.out, HN.out]; exact ⟨S6, _, (HSk.out.trans hS5).trans hS6, (D20.out.trans d5).trans d6, rfl, Sat.fact_iff.2 ⟨rfl, (h24.to (by ac_rfl : _ = heldA hb ((hk).setSz size) * (workA x S6 st6 * (pool S6 * G)))).right⟩⟩)
            | true =>
              have heqr : hk.row = List.replicate 240 0 := by simpa [zeroRow] using hbe
              obtain ⟨r0, r1⟩ : 0 ≤ hk.n.rw ∧ hk.n.rw < 3840 := ⟨HIk.out.rw0, by have := HIk.out.rw1; omega⟩
              have hm := mark_anyI x hc wr Sk stk hk.n.rw false _ r0 r1 hk4
              obtain ⟨⟨r2, st2⟩, hp2⟩ : ∃ p, wmark x.c.ask hk.n.rw.toNat false stk = p := ⟨_, rfl⟩
              rw [hp2] at hm
              have hcond : hk.n.rw ≠ 0 ∧ hk.row = List.replicate 240 0 := ⟨hrw, heqr⟩
              rw [hbe] at heq
              cases r2 with
              | bad cN =>
                have HN := SL.hid (HR.out.symm.trans ((if_pos hcond).trans (WM.bind_bad hp2)))
                clear hrw hbe hcond heqr hp2 hk5 r0 r1
                have c20b := c20
                generalize hk.n.rw = y at *
                go_wp2_with (first
                | (refine wpList_wanted (by exact rfl) fun K hK => wp_load_mid 65 (.tmp 43) (by exact rfl) hb 21 (by exact rfl) (hk.row.map (Value.int .i64)) _ (by with_reducible exact Hrow.out) Try.underlying65 rfl (by with_reducible exact Hinf2.out) (hK _ _ ?_))
                | (refine wpList_wanted (by exact rfl) fun K hK => wp_build_to 65 #[] (by exact rfl) [] (by exact rfl) (ints zeroRow) (by exact built240s) (hK _ _ ?_)))
                (with_reducible refine hm.mono ?_)
                rintro e w4 ⟨S2, hS2, d4, rfl, h6⟩
                go_wp2_with fail
                exact ⟨rfl, HQ.out _ _ (by rw [HE.out, HN.out]; exact ⟨S2, HSk.out.trans hS2, dk.trans d4, rfl, (h6.to (by ac_rfl : _ = heldA hb hk * (workA x S2 st2 * (pool S2 * G)))).right⟩)⟩
              | ok u =>
                have HN := SL.hid (HR.out.symm.trans ((if_pos hcond).trans (WM.bind_ok hp2)))
                clear hrw hbe hcond heqr hp2 hk5 r0 r1
                generalize hk.n.rw = y at *
                go_wp2_with (first
                | (refine wpList_wanted (by exact rfl) fun K hK => wp_load_mid 65 (.tmp 43) (by exact rfl) hb 21 (by exact rfl) (hk.row.map (Value.int .i64)) _ (by with_reducible exact Hrow.out) Try.underlying65 rfl (by with_reducible exact Hinf2.out) (hK _ _ ?_))
                | (refine wpList_wanted (by exact rfl) fun K hK => wp_build_to 65 #[] (by exact rfl) [] (by exact rfl) (ints zeroRow) (by exact built240s) (hK _ _ ?_)))
                (with_reducible refine hm.mono ?_)
                rintro e w4 ⟨S2, v4, hS2, d4, rfl, h6⟩
                obtain ⟨rfl, h7⟩ := Sat.fact_iff.1 h6
                have h8 := h7.to (by ac_rfl : _ = heldA hb hk * (workA x S2 st2 * (pool S2 * G)))
                have c20d := (held_cell h8 (j := 20) (by decide)).1
                have f20d := (held_cell h8 (j := 20) (by decide)).2
                generalize hk.l.getD 20 0 = y20 at *
                have h9 := held_set (h' := hk.setRw 0) h8 (j := 20) (z := 0) Hf.out (Hd.setRw_l Hf.out 0)
                have D9 := (dk.trans d4).setCell ⟨hb, 20, none⟩ (.int .i64 0)
                have HS9 := HSk.out.trans hS2
                clear h6 h7 h8 hm hk4
                have cs2 : (w4.setCell ⟨hb, 20, none⟩ (.int .i64 0)).cell? ⟨sb, 0, none⟩ = some (.int .i64 size) := SG.out _ _ (h9.to (by ac_rfl : _ = (heldA hb (hk.setRw 0) * (workA x S2 st2 * pool S2)) * G))
                have c3 := (held_cell h9 (j := 3) (by decide)).1
                have f3 := (held_cell h9 (j := 3) (by decide)).2
                have h20 := held_set (h' := (hk.setRw 0).setSz size) h9 (j := 3) (z := size) Hf.out rfl
                have D20 := SL.hid ((D9).setCell ⟨hb, 3, none⟩ (.int .i64 size))
                have hct := cut_any x hc _ S2 st2 hb ((hk.setRw 0).setSz size) _ z0 z1 h20
                obtain ⟨⟨r5, st5⟩, hp5⟩ : ∃ p, wcut x.c.ask ((hk.setRw 0).setSz size) st2 = p := ⟨_, rfl⟩
                rw [hp5] at hct
                have HCT := SL.hid hct
                generalize (hk.setRw 0).l.getD 3 0 = y3 at *
                clear h20 hct h9
                go_wp2_with fail
                generalize World.setCell _ ⟨hb, 3, none⟩ (.int .i64 size) = w20 at *
                refine HCT.out.mono ?_
                cases r5 with
                | bad cN =>
                  have HN := SL.hid (HN.out.trans (WM.bind_bad hp5))
                  rintro e w21 ⟨S5, hS5, d5, rfl, h21⟩
                  go_wp2_with fail
                  exact ⟨rfl, HQ.out _ _ (by rw [HE.out, HN.out]; exact ⟨S5, HS9.trans hS5, D20.out.trans d5, rfl, (h21.to (by ac_rfl : _ = heldA hb ((hk.setRw 0).setSz size) * (workA x S5 st5 * (pool S5 * G)))).right⟩)⟩
                | ok u5 =>
                  have HN0 := SL.hid (HN.out.trans (WM.bind_ok hp5))
                  rintro e w21 ⟨S5, v5, hS5, d5, rfl, h21⟩
                  obtain ⟨rfl, h22⟩ := Sat.fact_iff.1 h21
                  have hsv := save_anyW x w21 S5 st5 hb ((hk.setRw 0).setSz size) _ (h22.to (by ac_rfl : _ = heldA hb ((hk.setRw 0).setSz size) * (workA x S5 st5 * (pool S5 * G))))
                  obtain ⟨⟨r6, st6⟩, hp6⟩ : ∃ p, wsave ((hk.setRw 0).setSz size) st5 = p := ⟨_, rfl⟩
                  rw [hp6] at hsv
                  have HN := SL.hid (HN0.out.trans hp6)
                  clear hp5 hp6 h21 h22 HCT
                  cases r6 with
                  | bad cN =>
                    go_wp2_with fail
                    (with_reducible refine hsv.mono ?_)
                    rintro e w22 ⟨S6, hS6, d6, rfl, h23⟩
                    go_wp2_with fail
                    exact ⟨rfl, HQ.out _ _ (by rw [HE.out, HN.out]; exact ⟨S6, (HS9.trans hS5).trans hS6, (D20.out.trans d5).trans d6, rfl, (h23.to (by ac_rfl : _ = heldA hb ((hk.setRw 0).setSz size) * (workA x S6 st6 * (pool S6 * G)))).right⟩)⟩
                  | ok u6 =>
                    go_wp2_with fail
                    (with_reducible refine hsv.mono ?_)
                    rintro e w22 ⟨S6, v6, hS6, d6, rfl, h23⟩
                    obtain ⟨rfl, h24⟩ := Sat.fact_iff.1 h23
                    go_wp2_with fail
                    go_end0
                    exact HQ.out _ _ (by rw [HE.out, HN.out]; exact ⟨S6, _, (HS9.trans hS5).trans hS6, (D20.out.trans d5).trans d6, rfl, Sat.fact_iff.2 ⟨rfl, (h24.to (by ac_rfl : _ = heldA hb ((hk.setRw 0).setSz size) * (workA x S6 st6 * (pool S6 * G)))).right⟩⟩)
    · have hT : T = (.bad 1, st1) := by rw [← HT2.out]; exact if_neg hz
      have HT := SL.hid hT
      clear hT HT2 hbl
      by_cases hz1 : 0 ≤ size
      · have hz2 : decide (size ≤ 122880) = false := decide_eq_false (by omega)
        clear hz
        go_wp2_with fail
        (with_reducible refine (need_no w2).mono ?_)
        rintro e w4 ⟨rfl, rfl⟩
        go_wp2_with fail
        exact ⟨rfl, HQ.out _ _ (by rw [HE.out, HT.out]; exact ⟨S', hS, d2, rfl, (H4.out.to (by ac_rfl : _ = heldA hb hh * (workA x S' st1 * (pool S' * G)))).right⟩)⟩
      · have hz2 : size < 0 := by omega
        clear hz
        go_wp2_with fail
        (with_reducible refine (need_no w2).mono ?_)
        rintro e w4 ⟨rfl, rfl⟩
        go_wp2_with fail
        exact ⟨rfl, HQ.out _ _ (by rw [HE.out, HT.out]; exact ⟨S', hS, d2, rfl, (H4.out.to (by ac_rfl : _ = heldA hb hh * (workA x S' st1 * (pool S' * G)))).right⟩)⟩
end
end Go.Proofs.Ytaoohjeaaccnfaa.Fs

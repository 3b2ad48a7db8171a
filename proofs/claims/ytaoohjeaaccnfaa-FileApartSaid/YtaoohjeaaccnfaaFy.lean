/- file: Free's job. -/
import Derived.Test.YtaoohjeaaccnfaaFx
namespace Go.SL
set_option linter.unusedVariables false
set_option linter.unusedSimpArgs false
open Go.RowKit
section
variable {σ α β : Type}
theorem WM.bind_inv {m : WM σ α} {k : α → WM σ β} {st st' : Wst σ} {b : β} (h : WM.bind m k st = (.ok b, st')) : ∃ a st1, m st = (.ok a, st1) ∧ k a st1 = (.ok b, st') := by
  unfold WM.bind at h
  match hm : m st, h with
  | (.ok a, st1), h => exact ⟨a, st1, rfl, h⟩
  | (.bad c, st1), h => cases h
/-- A node that is held, within a space. -/
structure Hd.Inn (n : Nat) (h : Hd) : Prop where
  fit : h.fit
  ok : h.n.ok = true
  id0 : 1 ≤ h.id
  id1 : h.id < n
  rw0 : 0 ≤ h.n.rw
  rw1 : h.n.rw < n
  pg : ∀ p ∈ h.pages, 0 ≤ p ∧ p < n
theorem all_ptr {l : List Int} (h : l.all ptrOk = true) : ∀ p ∈ l, 0 ≤ p ∧ p < 3840 := fun p hp => ptrOk_range (List.all_eq_true.1 h p hp)
theorem wload_inn {ask : Asks σ} {n : Nat} {id : Int} {st st' : Wst σ} {h : Hd} (hl : wload ask n id st = (.ok h, st')) : h.Inn n := by
  unfold wload at hl
  split at hl
  · rename_i hid
    obtain ⟨L, st1, h1, h2⟩ := WM.bind_inv hl
    unfold wdec at h2
    split at h2
    · rename_i hc
      have hok : (decP L).1.ok = true ∧ (decP L).1.dr.length = 16 := by
        refine ⟨?_, decP_16 L⟩
        unfold decP at hc ⊢
        split at hc
        · rename_i h9; rw [if_pos h9]; simp only [Bool.and_eq_true] at h9; exact h9.1
        · cases hc
      generalize (decP L).1 = nd at *
      obtain ⟨hok, h16⟩ := hok
      have hf := Nd.ok_facts hok
      have hrw := ptrOk_range hf.2.2.2.2.2.2.1
      have key : ∀ row st2, row.length = 240 → (∀ p ∈ row, 0 ≤ p) → (nd.rw < n) → wload2 n id.toNat nd row st2 = (.ok h, st') → h.Inn n := by
        intro row st2 hrl hrp hrn h3
        obtain ⟨_, st3, h4, h5⟩ := WM.bind_inv h3
        obtain ⟨_, st4, h6, h7⟩ := WM.bind_inv h5
        simp only [WM.pure, Prod.mk.injEq, Rs.ok.injEq] at h7
        obtain ⟨rfl, rfl⟩ := h7
        have a1 : nd.dr.all (fun x => decide (x < n)) = true := by
          unfold wwithin at h4; split at h4
          · assumption
          · cases h4
        have a2 : row.all (fun x => decide (x < n)) = true := by
          unfold wwithin at h6; split at h6
          · assumption
          · cases h6
        refine ⟨⟨h16, hrl⟩, hok, by show 1 ≤ id.toNat; omega, by show id.toNat < n; omega, hrw.1, hrn, fun p hp => ?_⟩
        rcases List.mem_append.1 hp with hp | hp
        · exact ⟨(all_ptr hf.2.2.2.2.2.1 p hp).1, by simpa using List.all_eq_true.1 a1 p hp⟩
        · exact ⟨hrp p hp, by simpa using List.all_eq_true.1 a2 p hp⟩
      unfold wload1 at h2
      split at h2
      · rename_i hz
        exact key _ _ rfl (fun p hp => by rw [(List.mem_replicate.1 hp).2]; omega) (by rw [hz]; omega) h2
      · obtain ⟨_, st3, h4, h5⟩ := WM.bind_inv h2
        obtain ⟨L2, st4, h6, h7⟩ := WM.bind_inv h5
        have a1 : [nd.rw].all (fun x => decide (x < n)) = true := by
          unfold wwithin at h4; split at h4
          · assumption
          · cases h4
        unfold wdecR at h7
        split at h7
        · rename_i hc2
          have hro : (rowP L2).1.all ptrOk = true := by
            unfold rowP at hc2 ⊢
            split at hc2
            · rename_i h9; rw [if_pos h9]; exact h9
            · cases hc2
          exact key _ _ (rowP_240 L2) (fun p hp => (all_ptr hro p hp).1) (by simpa using a1) h7
        · cases h7
    · cases h2
  · cases hl
def wfreeP (ask : Asks σ) : List Int → WM σ Unit
  | [] => WM.pure ()
  | p :: ps => fun st => if p = 0 then wfreeP ask ps st else (wmark ask p.toNat false ⇝ fun _ => wfreeP ask ps) st
def wfreeR (ask : Asks σ) (h : Hd) : WM σ Unit := fun st => if h.n.rw = 0 then wmark ask h.id false st else (wmark ask h.n.rw.toNat false ⇝ fun _ => wmark ask h.id false) st
def wfree (ask : Asks σ) (n : Nat) (node : Int) : WM σ Unit := wload ask n node ⇝ fun h => wfreeP ask h.pages ⇝ fun _ => wfreeR ask h
/-- What is left of Free's job at a page. -/
def wfreeT (ask : Asks σ) (h : Hd) (k : Nat) : WM σ Unit := wfreeP ask (h.pages.drop k) ⇝ fun _ => wfreeR ask h
theorem Hd.drop_pages {h : Hd} (hf : h.fit) {k : Nat} (hk : k < 256) : h.pages.drop k = h.page k :: h.pages.drop (k + 1) := by
  have hk2 : k < h.pages.length := by rw [Hd.pages_length hf]; exact hk
  rw [List.drop_eq_getElem_cons hk2, Hd.page_pages hf, List.getD, List.getElem?_eq_getElem hk2]; rfl
theorem wfreeT_z {ask : Asks σ} {h : Hd} (hf : h.fit) {k : Nat} (hk : k < 256) (h0 : h.page k = 0) (st : Wst σ) : wfreeT ask h k st = wfreeT ask h (k + 1) st := by
  have e : wfreeP ask (h.pages.drop k) st = wfreeP ask (h.pages.drop (k + 1)) st := by rw [Hd.drop_pages hf hk]; exact if_pos h0
  unfold wfreeT WM.bind; rw [e]
theorem wfreeT_b {ask : Asks σ} {h : Hd} (hf : h.fit) {k : Nat} (hk : k < 256) (h0 : h.page k ≠ 0) {st st1 : Wst σ} {c : Int} (hm : wmark ask (h.page k).toNat false st = (.bad c, st1)) : wfreeT ask h k st = (.bad c, st1) := by
  have e : wfreeP ask (h.pages.drop k) st = (.bad c, st1) := by rw [Hd.drop_pages hf hk]; exact (if_neg h0).trans (WM.bind_bad hm)
  exact WM.bind_bad e
theorem wfreeT_s {ask : Asks σ} {h : Hd} (hf : h.fit) {k : Nat} (hk : k < 256) (h0 : h.page k ≠ 0) {st st1 : Wst σ} (hm : wmark ask (h.page k).toNat false st = (.ok (), st1)) : wfreeT ask h k st = wfreeT ask h (k + 1) st1 := by
  have e : wfreeP ask (h.pages.drop k) st = wfreeP ask (h.pages.drop (k + 1)) st1 := by rw [Hd.drop_pages hf hk]; exact (if_neg h0).trans (WM.bind_ok hm)
  unfold wfreeT WM.bind; rw [e]
theorem wfreeT_e {ask : Asks σ} {h : Hd} (hf : h.fit) (st : Wst σ) : wfreeT ask h 256 st = wfreeR ask h st := by
  have e : wfreeP ask (h.pages.drop 256) st = (.ok (), st) := by rw [List.drop_of_length_le (by rw [Hd.pages_length hf]; exact Nat.le_refl _)]; rfl
  exact WM.bind_ok e
theorem Hd.Inn.page {n : Nat} {h : Hd} (hi : h.Inn n) {k : Nat} (hk : k < 256) : 0 ≤ h.page k ∧ h.page k < n := by
  have hk2 : k < h.pages.length := by rw [Hd.pages_length hi.fit]; exact hk
  have := hi.pg _ (List.getElem_mem hk2)
  rw [Hd.page_pages hi.fit, List.getD, List.getElem?_eq_getElem hk2]; exact this
end
end Go.SL
namespace Go.Proofs.Ytaoohjeaaccnfaa.Fs
set_option linter.unusedVariables false
set_option linter.unusedSimpArgs false
open Go.RowKit Go.SL Go.Proofs.Ytaoohjeaaccnfaa.Ba
section
variable {σ α : Type}
/-- mark, as what it comes to, of a block's number as the program has it. -/
theorem mark_anyI (x : Wk σ) (hc : x.c.Ok) (w : World) (S : Hp) (st : Wst σ) (p : Int) (t : Bool) (F : Assn) (h0 : 0 ≤ p) (h1 : p < 3840) (h : Sat w (workA x S st * (pool S * F))) :
    Calls Try.prog 40 #[.pointer (some ⟨x.k, 0, none⟩), .int .i64 p, .bool t] w (WQ x unitR S F w (wmark x.c.ask p.toNat t st)) := by
  have := mark_any x hc w S st p.toNat t F (by omega) h
  rwa [Int.toNat_of_nonneg h0] at this
def FreeRel (x : Wk σ) (hb : Nat) (hh : Hd) (S : Hp) (F : Assn) (w : World) (T : Rs Unit × Wst σ) (u9 : Value) (wr : World) : Prop :=
  ∃ (k : Nat) (stk : Wst σ) (Sk : Hp), k ≤ 256 ∧ u9 = .int .i64 (k : Int) ∧ wfreeT x.c.ask hh k stk = T ∧ Ext S Sk ∧ Side w wr ∧ Sat wr (workA x Sk stk * (pool Sk * (heldA hb hh * F)))
set_option maxRecDepth 100000 in
set_option maxHeartbeats 4000000 in
theorem free_job {c : Cx σ} (hc : c.Ok) {n : Nat} (hn : n ≤ 3840) (node : Int) (nb : Nat) : Job c n 51 #[.pointer (some ⟨nb, 0, none⟩)] unitR (intA nb node) (wfree c.ask n node) := by
  intro x w S st F hx1 hx2 h
  subst hx1 hx2
  have cn : w.cell? ⟨nb, 0, none⟩ = some (.int .i64 node) := (h.to (by ac_rfl : _ = intA nb node * (workA x S st * (pool S * F)))).cell 0
  show Calls Try.prog 51 #[.pointer (some ⟨x.k, 0, none⟩), .pointer (some ⟨nb, 0, none⟩)] w _
  refine callsQ fun Q HQ => ?_
  have hl := load_anyW x hc w S st node _ h
  obtain ⟨⟨r, st1⟩, hp⟩ : ∃ p, wload x.c.ask x.n node st = p := ⟨_, rfl⟩
  rw [hp] at hl
  clear h
  cases r with
  | bad cN =>
    have HE := SL.hid (show wfree x.c.ask x.n node st = (.bad cN, st1) from WM.bind_bad hp)
    clear hp
    go_enter Try.func51, Try.ntmps51
    go_wp2_with fail
    (with_reducible refine hl.mono ?_)
    rintro e w2 ⟨S', hS, d2, rfl, h2⟩
    go_wp2_with fail
    exact ⟨rfl, HQ.out _ _ (by rw [HE.out]; exact ⟨S', hS, d2, rfl, h2⟩)⟩
  | ok hh =>
    have hI := wload_inn hp
    have HI := SL.hid hI
    obtain ⟨T, hT⟩ : ∃ T, wfreeT x.c.ask hh 0 st1 = T := ⟨_, rfl⟩
    have HE := SL.hid (show wfree x.c.ask x.n node st = T from (WM.bind_ok hp).trans hT)
    clear hp
    go_enter Try.func51, Try.ntmps51
    go_wp2_with fail
    (with_reducible refine hl.mono ?_)
    rintro e w2 ⟨S', v, hS, d2, rfl, h2⟩
    obtain ⟨hb, rfl, h3⟩ := Sat.heldR h2
    have h4 : Sat w2 (workA x S' st1 * (pool S' * (heldA hb hh * (intA nb node * F)))) := h3.to (by ac_rfl)
    have H4 := SL.hid h4; have HT := SL.hid hT
    clear h2 h3 hl cn hI hT h4
    go_wp2_with fail
    go_loopw [9] (fun u9 wr => FreeRel x hb hh S (intA nb node * F) w T u9 wr) (fun u9 _ => 256 - (intOf u9).toNat)
    case atStart => exact ⟨0, st1, S', Nat.zero_le _, rfl, HT.out, hS, d2, H4.out⟩
    case round =>
      obtain ⟨k, stk, Sk, hk, rfl, hTk, hSk, dk, hk4⟩ := hrel
      have HTk := SL.hid hTk; have HSk := SL.hid hSk
      clear H4 HT hTk hSk
      have hk5 := hk4.to (by ac_rfl : _ = heldA hb hh * (workA x Sk stk * (pool Sk * (intA nb node * F))))
      by_cases hlt : k < 256
      · have hlt' : (k : Int) < 256 := by omega
        have hpg := page_any wr hb hh _ hk5 k hlt
        unfold IntQ at hpg
        by_cases h0 : hh.page k = 0
        · have HN := SL.hid ((wfreeT_z HI.out.fit hlt h0 stk).symm.trans HTk.out)
          rw [h0] at hpg
          clear h0 hk5
          go_wp2_with fail
          (with_reducible refine hpg.mono ?_)
          rintro e w3 ⟨rfl, rfl⟩
          go_wp2_with fail
          go_roundw
          case rel => exact ⟨k + 1, stk, Sk, by omega, by go_num, HN.out, HSk.out, dk, hk4⟩
          case measure => simp [intOf]; omega
        · have h1 : (hh.page k != 0) = true := by simpa using h0
          obtain ⟨p0, p1⟩ := HI.out.page hlt
          have hm := mark_anyI x hc wr Sk stk (hh.page k) false _ p0 (by omega) hk4
          obtain ⟨⟨r2, st2⟩, hp2⟩ : ∃ p, wmark x.c.ask (hh.page k).toNat false stk = p := ⟨_, rfl⟩
          rw [hp2] at hm
          cases r2 with
          | bad cN =>
            have HN := SL.hid ((wfreeT_b HI.out.fit hlt h0 hp2).symm.trans HTk.out)
            clear h0 hp2 hk5 p0 p1
            generalize hh.page k = y at *
            go_wp2_with fail
            (with_reducible refine hpg.mono ?_)
            rintro e w3 ⟨rfl, rfl⟩
            go_wp2_with fail
            (with_reducible refine hm.mono ?_)
            rintro e w4 ⟨S2, hS2, d4, rfl, h6⟩
            go_wp2_with fail
            exact ⟨rfl, HQ.out _ _ (by rw [HE.out, ← HN.out]; exact ⟨S2, HSk.out.trans hS2, dk.trans d4, rfl, (h6.to (by ac_rfl : _ = heldA hb hh * (workA x S2 st2 * (pool S2 * (intA nb node * F))))).right⟩)⟩
          | ok u =>
            have HN := SL.hid ((wfreeT_s HI.out.fit hlt h0 hp2).symm.trans HTk.out)
            clear h0 hp2 hk5 p0 p1
            generalize hh.page k = y at *
            go_wp2_with fail
            (with_reducible refine hpg.mono ?_)
            rintro e w3 ⟨rfl, rfl⟩
            go_wp2_with fail
            (with_reducible refine hm.mono ?_)
            rintro e w4 ⟨S2, v4, hS2, d4, rfl, h6⟩
            obtain ⟨rfl, h7⟩ := Sat.fact_iff.1 h6
            go_wp2_with fail
            go_roundw
            case rel => exact ⟨k + 1, st2, S2, by omega, by go_num, HN.out, HSk.out.trans hS2, dk.trans d4, h7⟩
            case measure => simp [intOf]; omega
      · obtain rfl : k = 256 := by omega
        have HR := SL.hid ((wfreeT_e HI.out.fit stk).symm.trans HTk.out)
        have c20 : wr.cell? ⟨hb, 20, none⟩ = some (.int .i64 hh.n.rw) := held_rw HI.out.fit (Sat.held.1 hk5).2
        have c00 : wr.cell? ⟨hb, 0, none⟩ = some (.int .i64 (hh.id : Int)) := held_id (Sat.held.1 hk5).2
        by_cases hrw : hh.n.rw = 0
        · have hm := mark_anyI x hc wr Sk stk (hh.id : Int) false _ (by omega) (by have := HI.out.id1; omega) hk4
          rw [Int.toNat_natCast] at hm
          obtain ⟨⟨r2, st2⟩, hp2⟩ : ∃ p, wmark x.c.ask hh.id false stk = p := ⟨_, rfl⟩
          rw [hp2] at hm
          have HN := SL.hid (HR.out.symm.trans ((if_pos hrw).trans hp2))
          rw [hrw] at c20
          clear hrw hp2 hk5 hlt
          cases r2 with
          | bad cN =>
            go_wp2_with fail
            (with_reducible refine hm.mono ?_)
            rintro e w4 ⟨S2, hS2, d4, rfl, h6⟩
            go_wp2_with fail
            exact ⟨rfl, HQ.out _ _ (by rw [HE.out, HN.out]; exact ⟨S2, HSk.out.trans hS2, dk.trans d4, rfl, (h6.to (by ac_rfl : _ = heldA hb hh * (workA x S2 st2 * (pool S2 * (intA nb node * F))))).right⟩)⟩
          | ok u =>
            go_wp2_with fail
            (with_reducible refine hm.mono ?_)
            rintro e w4 ⟨S2, v4, hS2, d4, rfl, h6⟩
            obtain ⟨rfl, h7⟩ := Sat.fact_iff.1 h6
            go_wp2_with fail
            go_end0
            exact HQ.out _ _ (by rw [HE.out, HN.out]; exact ⟨S2, _, HSk.out.trans hS2, dk.trans d4, rfl, Sat.fact_iff.2 ⟨rfl, (h7.to (by ac_rfl : _ = heldA hb hh * (workA x S2 st2 * (pool S2 * (intA nb node * F))))).right⟩⟩)
        · have h1 : (hh.n.rw != 0) = true := by simpa using hrw
          have hm := mark_anyI x hc wr Sk stk hh.n.rw false _ HI.out.rw0 (by have := HI.out.rw1; omega) hk4
          obtain ⟨⟨r2, st2⟩, hp2⟩ : ∃ p, wmark x.c.ask hh.n.rw.toNat false stk = p := ⟨_, rfl⟩
          rw [hp2] at hm
          cases r2 with
          | bad cN =>
            have HN := SL.hid (HR.out.symm.trans ((if_neg hrw).trans (WM.bind_bad hp2)))
            clear hrw hp2 hk5 hlt
            generalize hh.n.rw = y at *
            go_wp2_with fail
            (with_reducible refine hm.mono ?_)
            rintro e w4 ⟨S2, hS2, d4, rfl, h6⟩
            go_wp2_with fail
            exact ⟨rfl, HQ.out _ _ (by rw [HE.out, HN.out]; exact ⟨S2, HSk.out.trans hS2, dk.trans d4, rfl, (h6.to (by ac_rfl : _ = heldA hb hh * (workA x S2 st2 * (pool S2 * (intA nb node * F))))).right⟩)⟩
          | ok u =>
            have HN := SL.hid (HR.out.symm.trans ((if_neg hrw).trans (WM.bind_ok hp2)))
            clear hrw hp2 hk5 hlt
            generalize hh.n.rw = y at *
            go_wp2_with fail
            (with_reducible refine hm.mono ?_)
            rintro e w4 ⟨S2, v4, hS2, d4, rfl, h6⟩
            obtain ⟨rfl, h7⟩ := Sat.fact_iff.1 h6
            have c00b : w4.cell? ⟨hb, 0, none⟩ = some (.int .i64 (hh.id : Int)) := held_id (Sat.held.1 (h7.to (by ac_rfl : _ = heldA hb hh * (workA x S2 st2 * (pool S2 * (intA nb node * F)))))).2
            have hm2 := mark_anyI x hc w4 S2 st2 (hh.id : Int) false _ (by omega) (by have := HI.out.id1; omega) h7
            rw [Int.toNat_natCast] at hm2
            obtain ⟨⟨r3, st3⟩, hp3⟩ : ∃ p, wmark x.c.ask hh.id false st2 = p := ⟨_, rfl⟩
            rw [hp3] at hm2
            have HN2 := SL.hid (HN.out.trans hp3)
            clear hp3 hm c00 h6
            cases r3 with
            | bad cN =>
              go_wp2_with fail
              (with_reducible refine hm2.mono ?_)
              rintro e w5 ⟨S3, hS3, d5, rfl, h8⟩
              go_wp2_with fail
              exact ⟨rfl, HQ.out _ _ (by rw [HE.out, HN2.out]; exact ⟨S3, (HSk.out.trans hS2).trans hS3, (dk.trans d4).trans d5, rfl, (h8.to (by ac_rfl : _ = heldA hb hh * (workA x S3 st3 * (pool S3 * (intA nb node * F))))).right⟩)⟩
            | ok u3 =>
              go_wp2_with fail
              (with_reducible refine hm2.mono ?_)
              rintro e w5 ⟨S3, v5, hS3, d5, rfl, h8⟩
              obtain ⟨rfl, h9⟩ := Sat.fact_iff.1 h8
              go_wp2_with fail
              go_end0
              exact HQ.out _ _ (by rw [HE.out, HN2.out]; exact ⟨S3, _, (HSk.out.trans hS2).trans hS3, (dk.trans d4).trans d5, rfl, Sat.fact_iff.2 ⟨rfl, (h9.to (by ac_rfl : _ = heldA hb hh * (workA x S3 st3 * (pool S3 * (intA nb node * F))))).right⟩⟩)
end
end Go.Proofs.Ytaoohjeaaccnfaa.Fs

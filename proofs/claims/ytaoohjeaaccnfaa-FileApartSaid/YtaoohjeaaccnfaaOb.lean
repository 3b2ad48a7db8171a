/- file: ReadAt's job. -/
import Derived.Test.YtaoohjeaaccnfaaOa
namespace Go.SL
set_option linter.unusedVariables false
set_option linter.unusedSimpArgs false
open Go.RowKit
section
variable {σ : Type}
/-- How many bytes are met at once. -/
def lenN (m at' : Nat) : Nat := min m (480 - at' % 480)
def wrd (ask : Asks σ) (h : Hd) (off : Nat) : Nat → Nat → List UInt8 → WM σ (List UInt8)
  | 0, _, A => WM.pure A
  | f + 1, done, A => fun st =>
    if done < A.length then
      (if h.page ((off + done) / 480) = 0 then wrd ask h off f (done + lenN (A.length - done) (off + done)) A st
       else (wread ask (h.page ((off + done) / 480)) ⇝ fun L => wrd ask h off f (done + lenN (A.length - done) (off + done)) (putAt A done ((L.drop ((off + done) % 480)).take (lenN (A.length - done) (off + done))))) st)
    else (.ok A, st)
def wreadA (ask : Asks σ) (off cnt : Int) (h : Hd) : WM σ (List UInt8) := fun st =>
  if 0 ≤ off ∧ 0 ≤ cnt then (if h.n.sz ≤ off then (.ok [], st) else wrd ask h off.toNat (min cnt (h.n.sz - off)).toNat 0 (zs (min cnt (h.n.sz - off)).toNat) st) else (.bad 1, st)
def wreadAt (ask : Asks σ) (n : Nat) (node off cnt : Int) : WM σ (List UInt8) := wload ask n node ⇝ wreadA ask off cnt
theorem wrd_end {ask : Asks σ} {h : Hd} {off f done : Nat} {A : List UInt8} (hd : A.length ≤ done) (st : Wst σ) : wrd ask h off f done A st = (.ok A, st) := by
  cases f with
  | zero => rfl
  | succ f => exact if_neg (by omega)
theorem wrd_z {ask : Asks σ} {h : Hd} {off f done : Nat} {A : List UInt8} (hd : done < A.length) (h0 : h.page ((off + done) / 480) = 0) (st : Wst σ) :
    wrd ask h off (f + 1) done A st = wrd ask h off f (done + lenN (A.length - done) (off + done)) A st := (if_pos hd).trans (if_pos h0)
theorem wrd_b {ask : Asks σ} {h : Hd} {off f done : Nat} {A : List UInt8} (hd : done < A.length) (h0 : h.page ((off + done) / 480) ≠ 0) {st st1 : Wst σ} {c : Int} (hr : wread ask (h.page ((off + done) / 480)) st = (.bad c, st1)) :
    wrd ask h off (f + 1) done A st = (.bad c, st1) := (if_pos hd).trans ((if_neg h0).trans (WM.bind_bad hr))
theorem wrd_s {ask : Asks σ} {h : Hd} {off f done : Nat} {A : List UInt8} (hd : done < A.length) (h0 : h.page ((off + done) / 480) ≠ 0) {st st1 : Wst σ} {L : List UInt8} (hr : wread ask (h.page ((off + done) / 480)) st = (.ok L, st1)) :
    wrd ask h off (f + 1) done A st = wrd ask h off f (done + lenN (A.length - done) (off + done)) (putAt A done ((L.drop ((off + done) % 480)).take (lenN (A.length - done) (off + done)))) st1 := (if_pos hd).trans ((if_neg h0).trans (WM.bind_ok hr))
end
end Go.SL
namespace Go.Proofs.Ytaoohjeaaccnfaa.Fs
set_option linter.unusedVariables false
set_option linter.unusedSimpArgs false
open Go.RowKit Go.SL Go.Proofs.Ytaoohjeaaccnfaa.Ba
section
variable {σ α : Type}
theorem info_u8s : (Try.prog.info? 5).map (·.size) = some 1 := by kernel_rfl
def RdRel (x : Wk σ) (hb : Nat) (hh : Hd) (off m g : Nat) (S : Hp) (F : Assn) (w : World) (T : Rs (List UInt8) × Wst σ) (u8' : Value) (wr : World) : Prop :=
  ∃ (done f : Nat) (A : List UInt8) (stk : Wst σ) (Sk : Hp), done ≤ m ∧ A.length = m ∧ m - done ≤ f ∧ u8' = .int .i64 (done : Int) ∧ wrd x.c.ask hh off f done A stk = T ∧ Ext S Sk ∧ Side w wr ∧
    Sat wr (bs 5 (.slice (some ⟨g, 0, none⟩) m m) A * (workA x Sk stk * (pool Sk * (heldA hb hh * F))))
set_option maxRecDepth 100000 in
set_option maxHeartbeats 4000000 in
theorem readat_job {c : Cx σ} (hc : c.Ok) {n : Nat} (hn : n ≤ 3840) (node off cnt : Int) (nb ob cb : Nat) :
    Job c n 35 #[.pointer (some ⟨nb, 0, none⟩), .pointer (some ⟨ob, 0, none⟩), .pointer (some ⟨cb, 0, none⟩)] bytesR (intA nb node * (intA ob off * intA cb cnt)) (wreadAt c.ask n node off cnt) := by
  intro x w S st F hx1 hx2 h
  subst hx1 hx2
  have cn : w.cell? ⟨nb, 0, none⟩ = some (.int .i64 node) := (h.to (by ac_rfl : _ = intA nb node * ((intA ob off * intA cb cnt) * (workA x S st * (pool S * F))))).cell 0
  show Calls Try.prog 35 #[.pointer (some ⟨x.k, 0, none⟩), .pointer (some ⟨nb, 0, none⟩), .pointer (some ⟨ob, 0, none⟩), .pointer (some ⟨cb, 0, none⟩)] w _
  refine callsQ fun Q HQ => ?_
  have hl := load_anyW x hc w S st node _ h
  obtain ⟨⟨r, st1⟩, hp⟩ : ∃ p, wload x.c.ask x.n node st = p := ⟨_, rfl⟩
  rw [hp] at hl
  clear h
  obtain ⟨G, hG⟩ : ∃ G, G = intA nb node * (intA ob off * intA cb cnt) * F := ⟨_, rfl⟩
  rw [← hG] at hl HQ
  have HG := SL.hid hG
  cases r with
  | bad cN =>
    have HE := SL.hid (show wreadAt x.c.ask x.n node off cnt st = (.bad cN, st1) from WM.bind_bad hp)
    clear hp hG
    go_enter Try.func35, Try.ntmps35
    go_wp2_with fail
    (with_reducible refine hl.mono ?_)
    rintro e w2 ⟨S', hS, d2, rfl, h2⟩
    go_wp2_with fail
    exact ⟨rfl, HQ.out _ _ (by rw [HE.out]; exact ⟨S', hS, d2, rfl, h2⟩)⟩
  | ok hh =>
    have hok := Nd.ok_facts (wload_inn hp).ok
    obtain ⟨s0, s1⟩ : 0 ≤ hh.n.sz ∧ hh.n.sz ≤ 122880 := ⟨hok.2.2.2.1, hok.2.2.2.2.1⟩
    obtain ⟨T, hT⟩ : ∃ T, wreadA x.c.ask off cnt hh st1 = T := ⟨_, rfl⟩
    have HE := SL.hid (show wreadAt x.c.ask x.n node off cnt st = T from (WM.bind_ok hp).trans hT)
    have HT := SL.hid hT
    clear hp hG hok hT
    have sO : ∀ W P, Sat W (P * G) → W.cell? ⟨ob, 0, none⟩ = some (.int .i64 off) := fun W P hW => by
      rw [HG.out] at hW
      exact (hW.to (by ac_rfl : _ = intA ob off * (intA nb node * (intA cb cnt * (F * P))))).cell 0
    have sC : ∀ W P, Sat W (P * G) → W.cell? ⟨cb, 0, none⟩ = some (.int .i64 cnt) := fun W P hW => by
      rw [HG.out] at hW
      exact (hW.to (by ac_rfl : _ = intA cb cnt * (intA nb node * (intA ob off * (F * P))))).cell 0
    have SO := SL.hid sO; have SC := SL.hid sC
    clear sO sC
    go_enter Try.func35, Try.ntmps35
    go_wp2_with fail
    (with_reducible refine hl.mono ?_)
    rintro e w2 ⟨S', v, hS, d2, rfl, h2⟩
    obtain ⟨hb, rfl, h3⟩ := Sat.heldR h2
    have h4 : Sat w2 (workA x S' st1 * (pool S' * (heldA hb hh * G))) := h3.to (by ac_rfl)
    have co := SO.out w2 (workA x S' st1 * (pool S' * (heldA hb hh))) (h4.to (by ac_rfl))
    have cc := SC.out w2 (workA x S' st1 * (pool S' * (heldA hb hh))) (h4.to (by ac_rfl))
    have c3 := (held_cell h3 (j := 3) (by decide)).1
    rw [show hh.l.getD 3 0 = hh.n.sz from rfl] at c3
    have H4 := SL.hid h4
    clear h2 h3 hl cn h4
    by_cases hz : 0 ≤ off ∧ 0 ≤ cnt
    · obtain ⟨z0, z1⟩ := hz
      by_cases hge : hh.n.sz ≤ off
      · have hT2 : T = (.ok [], st1) := by rw [← HT.out]; exact (if_pos ⟨z0, z1⟩).trans (if_pos hge)
        have HT2 := SL.hid hT2
        clear hT2 HT
        go_wp2_with fail
        (with_reducible refine (need_yes w2).mono ?_)
        rintro e w3 ⟨rfl, rfl⟩
        go_wp2_with fail
        go_region_held3 (fun w' => w'.cell? ⟨ob, 0, none⟩ = some (.int .i64 off) ∧ w'.cell? ⟨hb, 3, none⟩ = some (.int .i64 hh.n.sz)) (first | exact ⟨co, c3⟩ | go_keep) (fail)
        all_goals
          clear co cc c3
          go_wp2_with fail
          refine HQ.out _ _ ?_
          rw [HE.out, HT2.out]
          have h9 : Sat w2.drew (bytesR [] (.slice none 0 0) * (workA x S' st1 * (pool S' * (heldA hb hh * G)))) := (H4.out.drew.slNil 5 1)
          exact ⟨S', _, hS, d2.drew, rfl, (h9.to (by ac_rfl : _ = heldA hb hh * (bytesR [] (.slice none 0 0) * (workA x S' st1 * (pool S' * G))))).right⟩
      · have hlt : off < hh.n.sz := by omega
        obtain ⟨m, hm⟩ : ∃ m, (min cnt (hh.n.sz - off)).toNat = m := ⟨_, rfl⟩
        obtain ⟨o, ho⟩ : ∃ o : Nat, off = (o : Int) := ⟨off.toNat, by omega⟩
        have hT2 : wrd x.c.ask hh o m 0 (zs m) st1 = T := by
          rw [← HT.out]
          refine Eq.symm ((if_pos ⟨z0, z1⟩).trans ((if_neg hge).trans ?_))
          rw [hm, ho, Int.toNat_natCast]
        have hm2 : min cnt (hh.n.sz - off) = (m : Int) := by omega
        have hm3 : (o : Int) + m ≤ 122880 := by omega
        have HT2 := SL.hid hT2
        have hmk : ∀ w, (Instr.makeSlice 22 (.int .i64 (m : Int)) (.int .i64 (m : Int))).run Try.prog w = .ok (.slice (some ⟨w.heap.size, 0, none⟩) m m) (w.alloc (.cells (u8s (zs m)) 5 (0, 0))) := make_bytes m (by omega)
        have hB := bs_made m (by omega) (H4.out.drew.drew)
        have hgt : ¬ (hh.n.sz ≤ off) := hge
        subst ho
        clear hT2 HT hm hge
        obtain ⟨ZB, hZB⟩ : ∃ Z, Z = u8s (zs m) := ⟨_, rfl⟩
        rw [← hZB] at hmk hB
        clear hZB
        go_wp2_with fail
        (with_reducible refine (need_yes w2).mono ?_)
        rintro e w3 ⟨rfl, rfl⟩
        go_wp2_with fail
        go_region_held3 (fun w' => w'.cell? ⟨ob, 0, none⟩ = some (.int .i64 (o : Int)) ∧ w'.cell? ⟨hb, 3, none⟩ = some (.int .i64 hh.n.sz)) (first | exact ⟨co, c3⟩ | go_keep) (fail)
        rename_i hHeld
        have hgd : decide (hh.n.sz ≤ (o : Int)) = false := decide_eq_false (by omega)
        have H5 := SL.hid H4.out.drew
        have D5 := SL.hid d2.drew
        have co2 := SO.out w2.drew (workA x S' st1 * (pool S' * (heldA hb hh))) (H5.out.to (by ac_rfl))
        have cc2 := SC.out w2.drew (workA x S' st1 * (pool S' * (heldA hb hh))) (H5.out.to (by ac_rfl))
        have c32 : w2.drew.cell? ⟨hb, 3, none⟩ = some (.int .i64 hh.n.sz) := hHeld.2
        clear hHeld co cc c3 H4 d2
        generalize w2.drew = w3 at *
        rw [hgd]
        clear hgd
        go_wp2_with fail
        have hval : (if IntKind.i64.wrap (hh.n.sz - (o : Int)) < cnt then IntKind.i64.wrap (hh.n.sz - (o : Int)) else cnt) = (m : Int) := by
          have e : IntKind.i64.wrap (hh.n.sz - (o : Int)) = hh.n.sz - (o : Int) := by rw [IntKind.wrap_i64]; omega
          rw [e]; split <;> omega
        refine wp_region_held_drew (S := (fun w' => w'.cell? ⟨ob, 0, none⟩ = some (.int .i64 (o : Int)) ∧ w'.cell? ⟨cb, 0, none⟩ = some (.int .i64 cnt) ∧ w'.cell? ⟨hb, 3, none⟩ = some (.int .i64 hh.n.sz))) (by kernel_rfl) ?_ (fun hHeld => ?_)
        · (first | exact ⟨co2, cc2, c32⟩ | go_keep)
        refine wpAnyH_take (i := 0) (v := ?_) rfl (by kernel_rfl) (by kernel_rfl) (by kernel_rfl) (fun _ _ _ h => h) (Or.inl ⟨by kernel_rfl, ?_⟩) (by assumption) ?_
        rotate_left
        · intro w hSw; (try dsimp only at hSw); go_simp; try with_reducible rfl
        try simp only [List.getElem_toArray, List.getElem_cons_succ, List.getElem_cons_zero, Act.put, List.setIfInBounds_toArray, List.set_cons_zero, List.set_cons_succ]
        refine wpAnyH_take (i := 1) (v := ?_) rfl (by kernel_rfl) (by kernel_rfl) (by kernel_rfl) (fun _ _ _ h => h) (Or.inl ⟨by kernel_rfl, ?_⟩) (by assumption) ?_
        rotate_left
        · intro w hSw; (try dsimp only at hSw); go_simp; try with_reducible rfl
        try simp only [List.getElem_toArray, List.getElem_cons_succ, List.getElem_cons_zero, Act.put, List.setIfInBounds_toArray, List.set_cons_zero, List.set_cons_succ]
        refine wpAnyH_take (i := 2) (v := ?_) rfl (by kernel_rfl) (by kernel_rfl) (by kernel_rfl) (fun _ _ _ h => h) (Or.inl ⟨by kernel_rfl, ?_⟩) (by assumption) ?_
        rotate_left
        · intro w hSw; (try dsimp only at hSw); go_simp; try with_reducible rfl
        try simp only [List.getElem_toArray, List.getElem_cons_succ, List.getElem_cons_zero, Act.put, List.setIfInBounds_toArray, List.set_cons_zero, List.set_cons_succ]
        refine wpAnyH_take (i := 3) (v := ?_) rfl (by kernel_rfl) (by kernel_rfl) (by kernel_rfl) (fun _ _ _ h => h) (Or.inl ⟨by kernel_rfl, ?_⟩) (by assumption) ?_
        rotate_left
        · intro w hSw; (try dsimp only at hSw); go_simp; try with_reducible rfl
        try simp only [List.getElem_toArray, List.getElem_cons_succ, List.getElem_cons_zero, Act.put, List.setIfInBounds_toArray, List.set_cons_zero, List.set_cons_succ]
        refine wpAnyH_take (i := 4) (v := ?_) rfl (by kernel_rfl) (by kernel_rfl) (by kernel_rfl) (fun _ _ _ h => h) (Or.inl ⟨by kernel_rfl, ?_⟩) (by assumption) ?_
        rotate_left
        · intro w hSw; (try dsimp only at hSw); go_simp; try with_reducible rfl
        try simp only [List.getElem_toArray, List.getElem_cons_succ, List.getElem_cons_zero, Act.put, List.setIfInBounds_toArray, List.set_cons_zero, List.set_cons_succ]
        refine wpAnyH_take (i := 5) (v := ?_) rfl (by kernel_rfl) (by kernel_rfl) (by kernel_rfl) (fun _ _ _ h => h) (Or.inl ⟨by kernel_rfl, ?_⟩) (by assumption) ?_
        rotate_left
        · intro w hSw; (try dsimp only at hSw); go_simp; try with_reducible rfl
        try simp only [List.getElem_toArray, List.getElem_cons_succ, List.getElem_cons_zero, Act.put, List.setIfInBounds_toArray, List.set_cons_zero, List.set_cons_succ]
        refine wpAnyH_take (i := 6) (v := ?_) rfl (by kernel_rfl) (by kernel_rfl) (by kernel_rfl) (fun _ _ _ h => h) (Or.inl ⟨by kernel_rfl, ?_⟩) (by assumption) ?_
        rotate_left
        · intro w hSw; (try dsimp only at hSw); go_simp; try with_reducible rfl
        try simp only [List.getElem_toArray, List.getElem_cons_succ, List.getElem_cons_zero, Act.put, List.setIfInBounds_toArray, List.set_cons_zero, List.set_cons_succ]
        refine wpAnyH_take (i := 7) (v := ?_) rfl (by kernel_rfl) (by kernel_rfl) (by kernel_rfl) (fun _ _ _ h => h) (Or.inl ⟨by kernel_rfl, ?_⟩) (by assumption) ?_
        rotate_left
        · intro w hSw; (try dsimp only at hSw); go_simp; try with_reducible rfl
        try simp only [List.getElem_toArray, List.getElem_cons_succ, List.getElem_cons_zero, Act.put, List.setIfInBounds_toArray, List.set_cons_zero, List.set_cons_succ]
        refine wpAnyH_take (i := 8) (v := .int .i64 (m : Int)) rfl (by kernel_rfl) (by kernel_rfl) (by kernel_rfl) (fun _ _ _ h => h) (Or.inl ⟨by kernel_rfl, ?_⟩) (by assumption) ?_
        · intro w hSw; (try dsimp only at hSw); go_simp
        try simp only [List.getElem_toArray, List.getElem_cons_succ, List.getElem_cons_zero, Act.put, List.setIfInBounds_toArray, List.set_cons_zero, List.set_cons_succ]
        refine wpAnyH_ready (rs := [9]) (by kernel_rfl) (by simp) ?_
        refine AllReadyH.cons rfl (fun K hK => ?_) AllReadyH.nil
        go_simp
        refine hK.out _ _ ?_ (fun hHeld => ?_)
        · (first | exact ⟨co2, cc2, c32⟩ | go_keep)
        clear hK K
        refine wpAnyH_take (i := 10) (v := ?_) rfl (by kernel_rfl) (by kernel_rfl) (by kernel_rfl) (fun _ _ _ h => h) (Or.inl ⟨by kernel_rfl, ?_⟩) (by assumption) ?_
        rotate_left
        · intro w hSw; (try dsimp only at hSw); go_simp; try with_reducible rfl
        try simp only [List.getElem_toArray, List.getElem_cons_succ, List.getElem_cons_zero, Act.put, List.setIfInBounds_toArray, List.set_cons_zero, List.set_cons_succ]
        refine wpAnyH_done (by kernel_rfl) ?_ _
        rename_i hHeld2
        rw [show IntKind.i64.wrap (hh.n.sz - (o : Int)) = hh.n.sz - (o : Int) from by rw [IntKind.wrap_i64]; omega]
        have D6 : Side w (w3.alloc (.cells ZB 5 (0, 0))).drew := D5.out.drew.alloc (.cells ZB 5 (0, 0))
        have hB2 : Sat (w3.alloc (.cells ZB 5 (0, 0))).drew (bs 5 (.slice (some ⟨w3.heap.size, 0, none⟩) m m) (zs m) * (workA x S' st1 * (pool S' * (heldA hb hh * G)))) := hB
        clear hHeld hHeld2 hB co2 cc2 c32 hmk hval H5 D5
        generalize (w3.alloc (.cells ZB 5 (0, 0))).drew = w5 at *
        generalize w3.heap.size = g at *
        have HB2 := SL.hid hB2
        have hm1 : (m : Int) ≤ 122880 := by omega
        have ho1 : (o : Int) ≤ 122880 := by omega
        have hm0 : 0 ≤ (m : Int) := by omega
        clear hB2 SC hm2 hgt hlt z1
        go_wp2_with fail
        go_loopw [8] (fun u wr => RdRel x hb hh o m g S G w T u wr) (fun u _ => m - (intOf u).toNat)
        case atStart => exact ⟨0, m, zs m, st1, S', Nat.zero_le _, length_zs m, Nat.le_refl _, rfl, HT2.out, hS, D6, HB2.out⟩
        case round =>
          obtain ⟨done, f, A, stk, Sk, hdm, hAl, hf, rfl, hTk, hSk, dk, hk4⟩ := hrel
          have HTk := SL.hid hTk; have HSk := SL.hid hSk; have HAl := SL.hid hAl
          clear HB2 HT2 hTk hSk hAl D6
          by_cases hlt : done < m
          · have hlt' : (done : Int) < (m : Int) := by omega
            obtain ⟨f', rfl⟩ : ∃ f', f = f' + 1 := ⟨f - 1, by omega⟩
            have hA : done < A.length := by rw [HAl.out]; exact hlt
            have co := SO.out wr (bs 5 (.slice (some ⟨g, 0, none⟩) m m) A * (workA x Sk stk * (pool Sk * (heldA hb hh)))) (hk4.to (by ac_rfl))
            obtain ⟨l, hl⟩ : ∃ l, lenN (A.length - done) (o + done) = l := ⟨_, rfl⟩
            have hl2 : l = min (m - done) (480 - (o + done) % 480) := by rw [← hl, HAl.out]; rfl
            obtain ⟨q, hq⟩ : ∃ q, (o + done) / 480 = q := ⟨_, rfl⟩
            obtain ⟨r, hr⟩ : ∃ r, (o + done) % 480 = r := ⟨_, rfl⟩
            have hq256 : q < 256 := by omega
            have hr480 : r < 480 := by omega
            rw [hr] at hl2
            have hl1 : 1 ≤ l := by omega
            have hlm : done + l ≤ m := by omega
            have hlr : r + l ≤ 480 := by omega
            have hquo : ((o : Int) + (done : Int)).tdiv 480 = (q : Int) := by rw [Int.tdiv_eq_ediv_of_nonneg (by omega)]; omega
            have hrem : ((o : Int) + (done : Int)).tmod 480 = (r : Int) := by rw [Int.tmod_eq_emod_of_nonneg (by omega)]; omega
            have hmin : (if (480 : Int) - (r : Int) < ((m - done : Nat) : Int) then (480 : Int) - (r : Int) else ((m - done : Nat) : Int)) = (l : Int) := by split <;> omega
            have hsub : (m : Int) - (done : Int) = ((m - done : Nat) : Int) := by omega
            have hpg := page_any wr hb hh _ (hk4.to (by ac_rfl : _ = heldA hb hh * (bs 5 (.slice (some ⟨g, 0, none⟩) m m) A * (workA x Sk stk * (pool Sk * G))))) q hq256
            unfold IntQ at hpg
            by_cases h0 : hh.page q = 0
            · have HN := SL.hid ((wrd_z hA (by rw [hq]; exact h0) stk).symm.trans HTk.out)
              rw [hl] at HN
              rw [h0] at hpg
              clear h0 hl2 hq hr hl
              go_wp2_with fail
              (with_reducible refine hpg.mono ?_)
              rintro e w6 ⟨rfl, rfl⟩
              go_wp2_with fail
              go_roundw
              case rel => exact ⟨done + l, f', A, stk, Sk, hlm, HAl.out, by omega, by go_num, HN.out, HSk.out, dk, hk4⟩
              case measure => simp [intOf]; omega
            · have h1 : (hh.page q != 0) = true := by simpa using h0
              have hrd := read_anyW x hc wr Sk stk (hh.page q) _ (hk4.to (by ac_rfl : _ = workA x Sk stk * (pool Sk * (heldA hb hh * (bs 5 (.slice (some ⟨g, 0, none⟩) m m) A * G)))))
              obtain ⟨⟨r2, st2⟩, hp2⟩ : ∃ p, wread x.c.ask (hh.page q) stk = p := ⟨_, rfl⟩
              rw [hp2] at hrd
              have hp3 : wread x.c.ask (hh.page ((o + done) / 480)) stk = (r2, st2) := by rw [hq]; exact hp2
              have h03 : hh.page ((o + done) / 480) ≠ 0 := by rw [hq]; exact h0
              cases r2 with
              | bad cN =>
                have HN := SL.hid ((wrd_b hA h03 hp3).symm.trans HTk.out)
                clear h0 h03 hp2 hp3 hl2 hq hr hl
                generalize hh.page q = y at *
                go_wp2_with fail
                (with_reducible refine hpg.mono ?_)
                rintro e w6 ⟨rfl, rfl⟩
                go_wp2_with fail
                (with_reducible refine hrd.mono ?_)
                rintro e w4 ⟨S2, hS2, d4, rfl, h6⟩
                go_wp2_with fail
                exact ⟨rfl, HQ.out _ _ (by rw [HE.out, ← HN.out]; exact ⟨S2, HSk.out.trans hS2, dk.trans d4, rfl, (h6.to (by ac_rfl : _ = (heldA hb hh * bs 5 (.slice (some ⟨g, 0, none⟩) m m) A) * (workA x S2 st2 * (pool S2 * G)))).right⟩)⟩
              | ok L =>
                have HL := SL.hid (wread_len hp2)
                have HN := SL.hid ((wrd_s hA h03 hp3).symm.trans HTk.out)
                rw [hl, hr] at HN
                clear h0 h03 hp2 hp3 hl2 hq hr hl
                generalize hh.page q = y at *
                go_wp2_with fail
                (with_reducible refine hpg.mono ?_)
                rintro e w6 ⟨rfl, rfl⟩
                go_wp2_with fail
                (with_reducible refine hrd.mono ?_)
                rintro e w4 ⟨S2, v4, hS2, d4, rfl, h6⟩
                unfold bytesR at h6
                obtain ⟨ga, ca, curd, rfl, a1, a2, a3, a4, a5, a6⟩ := bs_splice h6 (by rw [HL.out]; decide)
                obtain ⟨g', c', cur, e, k1, k2, k3, k4, k5, k6⟩ := bs_splice (h6.to (by ac_rfl : _ = bs 5 (.slice (some ⟨g, 0, none⟩) m m) A * (bs 5 (.slice (some ⟨ga, 0, none⟩) L.length ca) L * (workA x S2 st2 * (pool S2 * (heldA hb hh * G)))))) (Nat.lt_of_le_of_lt (Nat.zero_le _) hA)
                simp only [Value.slice.injEq, Option.some.injEq, Addr.mk.injEq] at e
                obtain ⟨⟨rfl, -, -⟩, -, rfl⟩ := e
                have hdl : ((L.drop r).take l).length = l := by rw [List.length_take, List.length_drop, HL.out]; omega
                have h7 := (k6 done ((L.drop r).take l) (by rw [hdl, HAl.out]; omega)).1
                have hcp := fun ty => run_copy_row (P := Try.prog) w4 22 22 ty 5 g done l (m - done) ⟨ga, r, none⟩ (480 - r) (ca - r) cur 5 (((L.drop r).take l).map u8) Try.underlying22 info_u8s k4
                  (by rw [List.length_map, hdl]; exact (Nat.min_eq_right (by omega)).symm)
                  (fun j v hv => by
                    have hj : j < l := by rw [← hdl]; simpa using (List.getElem?_eq_some_iff.1 hv).1
                    rw [Addr.add_lit, (a5 (r + j) (by rw [HL.out]; omega)).1, ← hv, List.getElem?_map, List.getElem?_take, if_pos hj, List.getElem?_drop]
                    rw [List.getD, List.getElem?_eq_getElem (by rw [HL.out]; omega)]; rfl)
                  (by rw [List.length_map, hdl, k3]; omega) (u8_one _)
                generalize (cur.toList.take done ++ ((L.drop r).take l).map u8 ++ cur.toList.drop (done + (((L.drop r).take l).map u8).length)).toArray = RW at *
                have Hcp := SL.hid hcp
                have Hdl := SL.hid hdl
                have h8 := SL.hid h7.front2.right
                rw [HL.out] at a1 ⊢
                clear hrd hpg h6 h7 hcp hdl a2 a3 a4 a5 a6 k1 k2 k4 k5 k6
                go_wp2_with (refine wpList_copy_run (Hcp.out _) _ _ rfl rfl rfl rfl rfl ?_)
                go_roundw
                case rel => exact ⟨done + l, f', putAt A done ((L.drop r).take l), st2, S2, hlm, by rw [putAt_length (by rw [Hdl.out, HAl.out]; omega)]; exact HAl.out, by omega, by go_num, HN.out, HSk.out.trans hS2, (dk.trans d4).setRow _ _, h8.out⟩
                case measure => simp [intOf]; omega
          · have hA : A.length ≤ done := by rw [HAl.out]; omega
            have HN := SL.hid ((wrd_end (ask := x.c.ask) (h := hh) (off := o) (f := f) hA stk).symm.trans HTk.out)
            clear hA
            go_wp2_with fail
            refine HQ.out _ _ ?_
            rw [HE.out, ← HN.out]
            exact ⟨Sk, _, HSk.out, dk, rfl, by
              show Sat wr (bs 5 _ A * _)
              exact (hk4.to (by ac_rfl : _ = heldA hb hh * (bs 5 (.slice (some ⟨g, 0, none⟩) m m) A * (workA x Sk stk * (pool Sk * G))))).right⟩
    · have hT : T = (.bad 1, st1) := by rw [← HT.out]; exact if_neg hz
      have HT2 := SL.hid hT
      clear hT HT
      by_cases hz1 : 0 ≤ off
      · have hz2 : decide (0 ≤ cnt) = false := decide_eq_false (by omega)
        clear hz
        go_wp2_with fail
        (with_reducible refine (need_no w2).mono ?_)
        rintro e w4 ⟨rfl, rfl⟩
        go_wp2_with fail
        exact ⟨rfl, HQ.out _ _ (by rw [HE.out, HT2.out]; exact ⟨S', hS, d2, rfl, (H4.out.to (by ac_rfl : _ = heldA hb hh * (workA x S' st1 * (pool S' * G)))).right⟩)⟩
      · have hz2 : off < 0 := by omega
        clear hz
        go_wp2_with fail
        (with_reducible refine (need_no w2).mono ?_)
        rintro e w4 ⟨rfl, rfl⟩
        go_wp2_with fail
        exact ⟨rfl, HQ.out _ _ (by rw [HE.out, HT2.out]; exact ⟨S', hS, d2, rfl, (H4.out.to (by ac_rfl : _ = heldA hb hh * (workA x S' st1 * (pool S' * G)))).right⟩)⟩
end
end Go.Proofs.Ytaoohjeaaccnfaa.Fs

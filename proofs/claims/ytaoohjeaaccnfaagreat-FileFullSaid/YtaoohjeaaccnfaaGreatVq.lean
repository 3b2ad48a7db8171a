/- FileFull: lists of a batch that are held while its pool grows; the file, plainly. -/
import Derived.Test.YtaoohjeaaccnfaaGreatVj
import Derived.Test.YtaoohjeaaccnfaaGreatBl
namespace Go.SL
set_option linter.unusedVariables false
set_option linter.unusedSimpArgs false
open Go.RowKit
/-- The file behind t writes. -/
def ffF (dl : List UInt8) : Nat → AF
  | 0 => newF 1
  | t + 1 => (ffF dl t).wr (480 * t) dl
theorem ffF_pr {dl : List UInt8} (h1 : 1 ≤ dl.length) (h2 : dl.length ≤ 480) (i : Nat) : ∀ t, (ffF dl t).pr i = decide (i < t)
  | 0 => by show false = _; simp
  | t + 1 => by
    show ((ffF dl t).pr i || touched (480 * t) dl.length i) = _
    rw [ffF_pr h1 h2 i t, Bool.eq_iff_iff, Bool.or_eq_true, touched_iff, decide_eq_true_iff, decide_eq_true_iff]
    omega
theorem ffF_sz {dl : List UInt8} (h1 : 1 ≤ dl.length) : ∀ t, (ffF dl t).sz = if t = 0 then 0 else 480 * (t - 1) + dl.length
  | 0 => rfl
  | t + 1 => by
    show (if dl.length = 0 then (ffF dl t).sz else max (ffF dl t).sz (480 * t + dl.length)) = _
    rw [if_neg (by omega), ffF_sz h1 t, if_neg (show ¬ (t + 1 = 0) by omega)]
    split <;> omega
theorem countP_ltN (f : Nat) : ∀ m, (List.range m).countP (fun i => decide (i < f)) = min f m
  | 0 => by simp
  | m + 1 => by
    rw [List.range_succ, List.countP_append, countP_ltN f m]
    simp only [List.countP_cons, List.countP_nil, Nat.zero_add]
    by_cases h : m < f
    · rw [if_pos (decide_eq_true h)]; omega
    · rw [if_neg (by simpa using h)]; omega
def needF (t : Nat) : Nat := 1 + t + if 16 < t then 1 else 0
theorem ffF_need {dl : List UInt8} (h1 : 1 ≤ dl.length) (h2 : dl.length ≤ 480) {t : Nat} (ht : t ≤ 256) : needP (ffF dl t).pr = needF t := by
  unfold needP needF
  have hc : cntP (ffF dl t).pr = t := by
    rw [cntP_congr (q := fun i => decide (i < t)) fun i _ => ffF_pr h1 h2 i t]
    unfold cntP
    rw [countP_ltN]; omega
  rw [hc]
  congr 1
  by_cases h : 16 < t
  · rw [if_pos h, if_pos (rowB_iff.2 ⟨16, by omega, by omega, by rw [ffF_pr h1 h2]; exact decide_eq_true h⟩)]
  · rw [if_neg h, if_neg]
    intro h3
    obtain ⟨i, h4, h5, h6⟩ := rowB_iff.1 h3
    rw [ffF_pr h1 h2] at h6
    have := of_decide_eq_true h6
    omega
theorem keys_le : ∀ (n : Nat) (L : List Int), L.Nodup → (∀ z ∈ L, 0 ≤ z ∧ z < (n : Int)) → L.length ≤ n
  | 0, L, _, h => by
    cases L with
    | nil => exact Nat.le_refl _
    | cons z L => have := h z List.mem_cons_self; omega
  | n + 1, L, hn, h => by
    have h1 := keys_le n (L.filter fun z => !(z == (n : Int))) (hn.filter _) fun z hz => by
      obtain ⟨h2, h3⟩ := List.mem_filter.1 hz
      have := h z h2
      simp at h3
      omega
    have h2 : L.length = (L.filter fun z => !(z == (n : Int))).length + L.countP (fun z => z == (n : Int)) := by
      rw [← List.countP_eq_length_filter, Nat.add_comm]
      have h9 := List.length_eq_countP_add_countP (fun z => z == (n : Int)) (l := L)
      rw [h9]; congr 1; exact List.countP_congr fun z _ => by simp
    have h3 : L.countP (fun z => z == (n : Int)) ≤ 1 := List.nodup_iff_count.1 hn (n : Int)
    omega
/-- How many blocks a file may have. -/
def roomF (B : Nat) : Nat := if 16 < B - 3 then max 16 (B - 4) else B - 3
theorem roomF_iff {B t : Nat} (h4 : 4 ≤ B) (hB : B ≤ 40) : needF (t + 1) ≤ B - 2 ↔ t < roomF B := by
  unfold needF roomF
  split <;> split <;> omega
/-- One block more than there is room for. -/
theorem ffF_over {dl : List UInt8} (h1 : 1 ≤ dl.length) (h2 : dl.length ≤ 480) {B i : Nat} (h4 : 4 ≤ B) (hB : B ≤ 40) (hi : roomF B ≤ i) (hi2 : i < 45) : B - 2 < needP ((ffF dl (roomF B)).wr (480 * i) dl).pr := by
  obtain ⟨R, hR⟩ : ∃ R, roomF B = R := ⟨_, rfl⟩
  rw [hR] at hi ⊢
  have hpr : ∀ j, ((ffF dl R).wr (480 * i) dl).pr j = (decide (j < R) || decide (j = i)) := fun j => by
    show ((ffF dl R).pr j || touched (480 * i) dl.length j) = _
    rw [ffF_pr h1 h2 j R, Bool.eq_iff_iff, Bool.or_eq_true, Bool.or_eq_true, touched_iff, decide_eq_true_iff, decide_eq_true_iff]
    omega
  have hc : cntP ((ffF dl R).wr (480 * i) dl).pr = R + 1 := by
    have e := cntP_upd (p := ((ffF dl R).wr (480 * i) dl).pr) (q := fun j => decide (j < R)) (k := i) (by omega) fun j hj => by rw [hpr, decide_eq_false hj, Bool.or_false]
    have e2 : cntP (fun j => decide (j < R)) = R := by
      unfold cntP; rw [countP_ltN]; unfold roomF at hR; split at hR <;> omega
    rw [e2, hpr i, decide_eq_true (rfl : i = i), Bool.or_true, if_pos rfl, if_neg (by simp; omega)] at e
    omega
  unfold needP
  rw [hc]
  unfold roomF at hR
  by_cases h : 16 ≤ i
  · rw [if_pos (rowB_iff.2 ⟨i, h, by omega, by rw [hpr]; simp⟩)]
    split at hR <;> omega
  · split at hR <;> omega
end Go.SL
namespace Go.Proofs.YtaoohjeaaccnfaaGreat.Fs
set_option linter.unusedVariables false
set_option linter.unusedSimpArgs false
open Go.RowKit Go.SL Go.Proofs.YtaoohjeaaccnfaaGreat.Ba
/-- A list of writes is held beside a space. -/
def Fx.hold {n : Nat} (x : Fx n) (v : Value) (L : CB) : Fx n :=
  ⟨x.σ, x.c, x.V0, x.I, x.ok, x.rdr, x.h4, x.hn, fun S => writesA 57 5 S v L * x.R S, fun S S' e h p => by
    obtain ⟨h1, h2, ⟨Z, q⟩, p2, d, rfl⟩ := p
    obtain ⟨h3, h4, ⟨⟨z1, z2⟩, e3⟩, p4, d', rfl⟩ := q
    exact ⟨_, h2, ⟨Z, h3, h4, ⟨⟨z1, fun z hz => (z2 z hz).mono e⟩, e3⟩, p4, d', rfl⟩, x.hR S S' e _ p2, d, rfl⟩⟩
section
variable {n : Nat} {x : Fx n} {b k id : Nat} {A : Nat → Option AF} {f : AF} {M : Bst x.σ} {w w' : World} {F : Assn}
theorem Sat.unhold {v : Value} {L : CB} (h : Sat w (spM (x.hold v L) b M * F)) : Sat w (spM x b M * F) := by
  obtain ⟨S, h1⟩ := Sat.ex_star_iff.1 h
  have h2 : Sat w (writesA 57 5 S v L * (btA x.c S b M * (pool S * x.R S) * F)) := h1.to (by show btA x.c S b M * (pool S * (writesA 57 5 S v L * x.R S)) * F = _; ac_rfl)
  exact Sat.ex_star_iff.2 ⟨S, h2.right⟩
theorem Sat.unholdF {v : Value} {L : CB} (h : Sat w (fsA (x.hold v L) b A k * F)) : Sat w (fsA x b A k * F) := by
  obtain ⟨M, hm, h1⟩ := Sat.fOpen h
  exact Sat.fShut (x := x) hm (Sat.unhold h1)
theorem m_small (hm : AbsX x M A k) (h : Sat w (spM x b M * F)) : M.W.length ≤ 3840 := by
  obtain ⟨S, h1⟩ := Sat.mOpen h
  have h2 : Sat w (batchA 113 5 S b x.c.rd M.err M.W M.D * (x.c.RI M.s * (pool S * (x.R S * F)))) := h1.to (by unfold btA; ac_rfl)
  obtain ⟨y, h3⟩ := h2.batchOpen
  have h4 := h3.front2
  obtain ⟨hp, a1, g1, g2, ⟨Z, z1, z2, z3, z4⟩, g3, g4, g5⟩ := h4
  have hnd : (M.W.map Prod.fst).Nodup := by
    have := (z1.map Prod.fst).nodup_iff.1 (by rw [List.map_map]; exact z2)
    exact this
  have := keys_le n (M.W.map Prod.fst) hnd fun z hz => by
    obtain ⟨p, hp, rfl⟩ := List.mem_map.1 hz
    exact hm.good.keys p hp
  rw [List.length_map] at this
  have := x.hn
  omega
def ListMQ (x : Fx n) (b : Nat) (M : Bst x.σ) (F : Assn) (w : World) (e : Ending) (w' : World) : Prop :=
  ∃ v, e = .returned v ∧ Side w w' ∧ Sat w' (spM (x.hold v (asc M.W)) b M * F)
theorem m_list (hW : M.W.length ≤ 1000000) (h : Sat w (spM x b M * F)) : Calls Tryz.prog 20 #[ptV b] w (ListMQ x b M F w) := by
  obtain ⟨S, h1⟩ := Sat.mOpen h
  refine (list_any w S b x.c.rd M.err M.W M.D (x.c.RI M.s * (x.R S * F)) hW (h1.to (by unfold btA; ac_rfl))).mono ?_
  rintro e w' ⟨S', v, hE, rfl, h2, d⟩
  refine ⟨v, rfl, d, Sat.ex_star_iff.2 ⟨S', ?_⟩⟩
  have h3 := (h2.to (by ac_rfl : _ = x.R S * (writesA 57 5 S' v (asc M.W) * (batchA 113 5 S' b x.c.rd M.err M.W M.D * (pool S' * (x.c.RI M.s * F)))))).weak (x.hR S S' hE)
  exact h3.to (by show _ = btA x.c S' b M * (pool S' * (writesA 57 5 S' v (asc M.W) * x.R S')) * F; unfold btA; ac_rfl)
def WriteNQ (x : Fx n) (b : Nat) (A : Nat → Option AF) (k : Nat) (M : Bst x.σ) (F : Assn) (w : World) (e : Ending) (w' : World) : Prop :=
  e = .returned (.int .i64 7) ∧ Side w w' ∧ ∃ M' : Bst x.σ, M'.W = M.W ∧ AbsX x M' A k ∧ Sat w' (spM x b M' * F)
theorem m_writeN {D : Assn} {va : Option Addr} {cap : Nat} {l : List UInt8} (hm : AbsX x M A k) (hf : A id = some f) (off : Nat) (hD : ∀ W P, Sat W (D * P) → Rd W (.slice va l.length cap) l) (hcap : l.length ≤ cap) (hl : l.length ≤ 4096) (hmx : off + l.length ≤ 122880) (hk : k + needP f.pr < needP (f.wr off l).pr) (h : Sat w (spM x b M * (D * F))) :
    Calls Tryz.prog 21 #[spV b n, .int .i64 (id : Int), .int .i64 (off : Int), .slice va l.length cap] w (WriteNQ x b A k M (D * F) w) := by
  obtain ⟨S, h1⟩ := Sat.mOpen h
  refine (sp_writeat x.c x.ok n x.h4 x.hn b M w S id off l va cap D hD hcap (by omega) (x.R S * F) (h1.to (by ac_rfl))).mono fun e w' hq => ?_
  rw [star_left_comm] at hq
  rcases abs_writeAt x.rdr (by have := x.h4; omega) x.hn hm hf off l hl hmx with ⟨M1, e1, h9, A1⟩ | ⟨s', e1, -, A1⟩
  · omega
  · rw [e1] at hq
    obtain ⟨S', hE, d, he, hs⟩ := hq
    exact ⟨he, d, { M with s := s' }, rfl, A1, Sat.mShut hE hs⟩
theorem m_writeY {D : Assn} {va : Option Addr} {cap : Nat} {l : List UInt8} (hm : AbsX x M A k) (hf : A id = some f) (off : Nat) (hD : ∀ W P, Sat W (D * P) → Rd W (.slice va l.length cap) l) (hcap : l.length ≤ cap) (hl : l.length ≤ 4096) (hmx : off + l.length ≤ 122880) (hk : needP (f.wr off l).pr ≤ k + needP f.pr) (h : Sat w (spM x b M * (D * F))) :
    Calls Tryz.prog 21 #[spV b n, .int .i64 (id : Int), .int .i64 (off : Int), .slice va l.length cap] w (YE x b (upO A id (some (f.wr off l))) (k + needP f.pr - needP (f.wr off l).pr) 0 (D * F) w) :=
  y_write hf off hD hcap hl hmx hk (Sat.fShut (x := x) hm h)
theorem flatW_get {Z : List (Int × Value × List UInt8)} {k : Nat} (hk : k < Z.length) : (flatW Z)[k * 2]? = some (.int .i64 (Z[k]).1) ∧ (flatW Z)[k * 2 + 1]? = some (Z[k]).2.1 := by
  induction Z generalizing k with
  | nil => simp at hk
  | cons z Z ih =>
    have e : flatW (z :: Z) = .int .i64 z.1 :: z.2.1 :: flatW Z := rfl
    cases k with
    | zero => rw [e]; exact ⟨rfl, rfl⟩
    | succ k =>
      have h2 : (k + 1) * 2 = k * 2 + 1 + 1 := by omega
      rw [e, h2]
      exact ih (by simpa using hk)
theorem hold_shape {v : Value} {L : CB} (h : Sat w (spM (x.hold v L) b M * F)) : ∃ a c, v = .slice a L.length c := by
  obtain ⟨S, h1⟩ := Sat.ex_star_iff.1 h
  have h2 : Sat w (writesA 57 5 S v L * (btA x.c S b M * (pool S * (x.R S * F)))) := h1.to (by show btA x.c S b M * (pool S * (writesA 57 5 S v L * x.R S)) * F = _; ac_rfl)
  obtain ⟨Z, z1, z2, h3⟩ := h2.writesOpen
  exact sl_shape h3
/-- An element of a list that is held. -/
theorem hold_at {v : Value} {L : CB} (h : Sat w (spM (x.hold v L) b M * F)) {k : Nat} {p : Int × List UInt8} (hk : L[k]? = some p) :
    ∃ g c dv, v = .slice (some ⟨g, 0, none⟩) L.length c ∧ L.length ≤ c ∧ (c : Int) ≤ 9223372036854775807 ∧ w.cell? ⟨g, k * 2, none⟩ = some (.int .i64 p.1) ∧ w.cell? ⟨g, k * 2 + 1, none⟩ = some dv ∧ Rd w dv p.2 := by
  have hkl : k < L.length := (List.getElem?_eq_some_iff.1 hk).1
  obtain ⟨S, h1⟩ := Sat.ex_star_iff.1 h
  have h2 : Sat w (writesA 57 5 S v L * (pool S * (btA x.c S b M * (x.R S * F)))) := h1.to (by show btA x.c S b M * (pool S * (writesA 57 5 S v L * x.R S)) * F = _; ac_rfl)
  obtain ⟨Z, z1, z2, h3⟩ := h2.writesOpen
  have hzl : Z.length = L.length := by rw [← z1, List.length_map]
  have hz : (Z[k]'(by omega)).1 = p.1 ∧ (Z[k]'(by omega)).2.2 = p.2 := by
    rw [← z1, List.getElem?_map, List.getElem?_eq_getElem (by omega)] at hk
    have := Option.some.inj hk
    exact ⟨congrArg Prod.fst this, congrArg Prod.snd this⟩
  obtain ⟨e1, e2⟩ := flatW_get (Z := Z) (k := k) (by omega)
  rcases h3.slCases with ⟨_, h0, _⟩ | ⟨g, cap, cur, rfl, h4, h5, h6, h7, h8⟩
  · omega
  · refine ⟨g, cap, (Z[k]'(by omega)).2.1, rfl, h4, by unfold maxLen at h5; omega, ?_, ?_, ?_⟩
    · rw [h8.cell, ← hz.1, ← e1, ← h7, List.getElem?_take, if_pos (by omega), Array.getElem?_toList]
    · rw [h8.cell, ← e2, ← h7, List.getElem?_take, if_pos (by omega), Array.getElem?_toList]
    · rw [← hz.2]
      exact (z2 _ (List.getElem_mem _)).rd h3.front2
end
end Go.Proofs.YtaoohjeaaccnfaaGreat.Fs

/- dir.EncodeBlock of one entry; tree.put. tree, plainly: the file that a directory of entries is. tree.put, tree.Find, tree.Add. tree.Find, tree.Add over a directory. tree.Remove: a space that is forked, and joined. -/
import Derived.Test.YtaoohjeaaccnfaaGreatNh
import Derived.Test.YtaoohjeaaccnfaaGreatAs
import Derived.Deep.RegionHeld3
import Derived.Deep.DeepCutAuto
import Derived.Deep.CutBlock
import Derived.Deep.CutRange
namespace Go.SL
set_option linter.unusedVariables false
set_option linter.unusedSimpArgs false
open Go.RowKit
theorem enc_pad {e : Ent} (h : e.ok = true) : padTo 32 ((leN e.nd 2 ++ leN e.nm.length 1) ++ e.nm) = e.enc := by
  have h1 := nmOk_iff.1 (Ent.ok_iff.1 h).2.2
  unfold padTo Ent.enc
  rw [List.take_append, List.take_of_length_le (by simp only [List.length_append, leN_length]; omega)]
  simp only [List.append_assoc]
  congr 3
  unfold zs
  rw [List.take_replicate]
  congr 1
  simp only [List.length_append, leN_length]
  omega
end Go.SL
namespace Go.Proofs.YtaoohjeaaccnfaaGreat.Fs
set_option linter.unusedVariables false
set_option linter.unusedSimpArgs false
open Go.RowKit Go.SL Go.Proofs.YtaoohjeaaccnfaaGreat.Ba
/-- The bytes so far. -/
def EbRel (e : Ent) (w0 : World) (F : Assn) (v u : Value) (wr : World) : Prop :=
  ∃ k : Nat, k ≤ 1 ∧ u = .int .i64 (k : Int) ∧ Side w0 wr ∧ Sat wr (bs 5 v (if k = 0 then [] else e.enc) * F)
def EncQ (l : List UInt8) (F : Assn) (w : World) (e : Ending) (w' : World) : Prop := ∃ v, e = .returned (.tuple #[v, .int .i64 0]) ∧ Sat w' (bs 5 v l * F) ∧ Side w w'
set_option maxRecDepth 100000 in
set_option maxHeartbeats 4000000 in
theorem encode1_any (w : World) (g : Nat) (fr : Nat × Nat) (e : Ent) (he : e.ok = true) (F : Assn) (h : Sat w (pt g (.cells #[.int .i64 (e.nd : Int), .string (str e.nm)] 47 fr) * F)) :
    Calls Tryz.prog 66 #[.slice (some ⟨g, 0, none⟩) 1 1] w (EncQ (padTo 480 e.enc) (pt g (.cells #[.int .i64 (e.nd : Int), .string (str e.nm)] 47 fr) * F) w) := by
  refine callsQ fun Q HQ => ?_
  obtain ⟨o1, o2, o3⟩ := Ent.ok_iff.1 he
  have onm := nmOk_iff.1 o3
  have hst : Sat w (bs 5 (.slice none 0 0) [] * (pt g (.cells #[.int .i64 (e.nd : Int), .string (str e.nm)] 47 fr) * F)) := h.slNil _ _
  have HS0 := SL.hid hst
  have HE := SL.hid he
  have q1 : (e.nd : Int) ≤ 3839 := by omega
  have q0 : (0 : Int) ≤ (e.nd : Int) := by omega
  obtain ⟨m, hm⟩ : ∃ m, e.nm.length = m := ⟨_, rfl⟩
  have hm28 : m ≤ 28 := by omega
  have hm28' : (m : Int) ≤ 28 := by omega
  have HM := SL.hid hm
  have hsz := size_str e.nm
  rw [hm] at hsz
  clear h hst he o3 onm hm
  go_enter Tryz.func66, Tryz.ntmps66
  go_wp2_with fail
  go_loopw [4, 13] (fun v u wr => EbRel e w (pt g (.cells #[.int .i64 (e.nd : Int), .string (str e.nm)] 47 fr) * F) v u wr) (fun _ u _ => 1 - (intOf u).toNat)
  case atStart => exact ⟨0, by decide, rfl, Side.refl w, HS0.out⟩
  case round =>
    obtain ⟨k, hk, rfl, hside, hsat⟩ := hrel
    clear HS0
    by_cases hlt : k = 0
    · subst hlt
      rw [if_pos rfl] at hsat
      have c0 : wr.cell? ⟨g, 0, none⟩ = some (.int .i64 (e.nd : Int)) := hsat.front2.cell 0
      have c1 : wr.cell? ⟨g, 1, none⟩ = some (.string (str e.nm)) := hsat.front2.cell 1
      have hA := hsat.alloc (.cells #[.int .i64 (e.nd : Int), .string (str e.nm)] 47 (0, 0))
      have dA := SL.hid (hside.alloc (.cells #[.int .i64 (e.nd : Int), .string (str e.nm)] 47 (0, 0)))
      have hr := dRight_any (wr.alloc (.cells #[.int .i64 (e.nd : Int), .string (str e.nm)] 47 (0, 0))) e
      rw [HE.out] at hr
      have Hr := SL.hid hr; have HA := SL.hid hA
      have hvs := sl_shape hsat
      obtain ⟨va, vc, rfl⟩ := hvs
      clear hsat hA hr
      go_wp2_with fail
      refine Hr.out.mono ?_
      generalize wr.alloc (.cells #[.int .i64 (e.nd : Int), .string (str e.nm)] 47 (0, 0)) = w1 at *
      generalize wr.heap.size = tb at *
      rintro r w2 ⟨rfl, h2, d2⟩
      have h3 := h2.keepW HA.out
      have D3 := SL.hid (dA.out.trans d2)
      have t0 : w2.cell? ⟨tb, 0, none⟩ = some (.int .i64 (e.nd : Int)) := h3.cell 0
      have t1 : w2.cell? ⟨tb, 1, none⟩ = some (.string (str e.nm)) := h3.cell 1
      have hp := put_any w2 (.slice none 0 0) [] 2 (e.nd : Int) ⟨rfl, .inl ⟨rfl, rfl⟩⟩ (by decide) (by decide) (by omega) (by omega)
      rw [List.nil_append] at hp
      have Hp := SL.hid hp; have H3 := SL.hid h3
      clear hp h3 h2 Hr HA c0 c1 d2 dA
      go_wp2_with fail
      refine Hp.out.mono ?_
      rintro r w4 ⟨v4, rfl, h4, d4⟩
      have h5 := h4.under H3.out
      have D5 := SL.hid (D3.out.trans d4)
      have t0 : w4.cell? ⟨tb, 0, none⟩ = some (.int .i64 (e.nd : Int)) := h5.front2.cell 0
      have t1 : w4.cell? ⟨tb, 1, none⟩ = some (.string (str e.nm)) := h5.front2.cell 1
      have hp := put_any w4 v4 (leN e.nd 2) 1 (m : Int) h5.rds (by rw [leN_length]; omega) (by decide) (by omega) (by omega)
      have Hp2 := SL.hid hp; have H5 := SL.hid h5
      obtain ⟨v4a, v4c, rfl⟩ := sl_shape h5
      clear hp h4 h5 Hp H3 D3 d4
      go_wp2_with fail
      refine Hp2.out.mono ?_
      rintro r w6 ⟨v6, rfl, h6, d6⟩
      have h7 := h6.under H5.out
      obtain ⟨L6, hL6⟩ : ∃ L6, leN (e.nd : Int) 2 ++ leN (m : Int) 1 = L6 := ⟨_, rfl⟩
      have hl6 : L6.length = 3 := by rw [← hL6, List.length_append, leN_length, leN_length]
      rw [hL6] at h7
      have HL6 := SL.hid hL6
      have D7 := D5.out.trans d6
      have t0 : w6.cell? ⟨tb, 0, none⟩ = some (.int .i64 (e.nd : Int)) := h7.front3.cell 0
      have t1 : w6.cell? ⟨tb, 1, none⟩ = some (.string (str e.nm)) := h7.front3.cell 1
      obtain ⟨i0, hi, hz, hs0, hb0⟩ := info_parts info_u8
      obtain ⟨v7, w7, hrun, h8, d8⟩ := Sat.appendS (P := Tryz.prog) (t := 48) (u := 9) (ty := 48) Tryz.underlying48 Tryz.underlying9 hi hz hs0 hb0 h7 e.nm (by rw [HM.out, hl6]; omega)
      have D8 := SL.hid (D7.trans d8)
      obtain ⟨v6a, v6c, rfl⟩ := sl_shape h7
      have hf := field_any w7 v7 _ h8.rds 32 (by decide)
      have hp9 : padTo 32 (L6 ++ e.nm) = e.enc := by rw [← HL6.out, ← HM.out]; exact enc_pad HE.out
      rw [hp9] at hf
      obtain ⟨v7a, v7c, rfl⟩ := sl_shape h8
      have hl7 : (L6 ++ e.nm).length = 3 + m := by rw [List.length_append, hl6, HM.out]
      rw [hl7] at hf hrun
      rw [hl6] at hrun
      have hf2 : Calls Tryz.prog 101 #[.slice v7a (3 + m) v7c, .int .i64 32] w7 (BsQ e.enc w7) := hf
      have h8' : Sat w7 (bs 5 (.slice va 0 vc) [] * (pt g (.cells #[.int .i64 (e.nd : Int), .string (str e.nm)] 47 fr) * F)) := by
        exact (h8.to (by ac_rfl : _ = (bs 5 (.slice v7a (L6 ++ e.nm).length v7c) (L6 ++ e.nm) * (bs 5 (.slice v4a (leN (e.nd : Int) 2).length v4c) (leN (e.nd : Int) 2) * pt tb (.cells #[.int .i64 (e.nd : Int), .string (str e.nm)] 47 (0, 0)))) * (bs 5 (.slice va 0 vc) [] * (pt g (.cells #[.int .i64 (e.nd : Int), .string (str e.nm)] 47 fr) * F)))).right
      have Hf := SL.hid hf2; have Hrun := SL.hid hrun; have H8 := SL.hid h8'
      rw [hl6]
      clear hi hz hs0 hb0 hf hf2 hrun h8 h8' h7 h6 H5 Hp2 D5 D7 d6 d8 hp9 hl7 hl6 hL6
      go_wp2_with (at_builtin; refine wpList_appendS_run Hrun.out _ _ rfl rfl rfl rfl rfl ?_)
      refine Hf.out.mono ?_
      rintro r w9 ⟨v9, rfl, h9, d9⟩
      have hE32 := Ent.enc_length HE.out
      have h10 := h9.under H8.out
      obtain ⟨v9a, v9c, rfl⟩ := sl_shape h10
      have hl32 := hE32
      obtain ⟨v11, w11, hrun, h11, d11, a11, c11, rfl⟩ := append_bytes (l := []) (m := e.enc) (v := .slice va 0 vc) (h10.front2) h10.rds (by decide) (by omega)
      rw [List.nil_append] at h11
      simp only [List.length_nil, Nat.zero_add, hl32] at hrun h11
      have Hrun2 := SL.hid hrun
      have D11 := SL.hid ((D8.out.trans d9).trans d11)
      have h12 := h11.drop2
      have H12 := SL.hid h12
      rw [hl32]
      clear Hrun hrun h11 h12 h10 h9 H8 Hf D8 d9 d11 hE32 hl32 HL6
      go_wp2_with (at_builtin; refine wpList_append_run Hrun2.out _ _ rfl rfl rfl rfl rfl ?_)
      go_roundw
      case rel => exact ⟨1, Nat.le_refl _, by go_num, D11.out, by rw [if_neg (by decide)]; exact H12.out⟩
      case measure => simp [intOf]
    · obtain rfl : k = 1 := by omega
      rw [if_neg (by decide)] at hsat
      have hE32 := Ent.enc_length HE.out
      obtain ⟨va, vc, rfl⟩ := sl_shape hsat
      have hf := field_any wr (.slice va e.enc.length vc) e.enc hsat.rds 480 (by decide)
      rw [hE32] at hf ⊢
      have hf2 : Calls Tryz.prog 101 #[.slice va 32 vc, .int .i64 480] wr (BsQ (padTo 480 e.enc) wr) := hf
      have Hf := SL.hid hf2; have HS := SL.hid hsat.right
      clear hf hf2 hsat hE32
      go_wp2_with fail
      refine Hf.out.mono ?_
      rintro r w9 ⟨v9, rfl, h9, d9⟩
      have H10 := SL.hid (h9.under HS.out)
      clear h9 Hf
      go_wp2_with fail
      exact HQ.out _ _ ⟨v9, by simp, H10.out, hside.trans d9⟩
end Go.Proofs.YtaoohjeaaccnfaaGreat.Fs
namespace Go.SL
set_option linter.unusedVariables false
set_option linter.unusedSimpArgs false
open Go.RowKit
/-- The file of a directory. -/
def dirF (lk : Int) (L : List Ent) : AF := ⟨2, lk, 32 * L.length, fun p => (encs L).getD p 0, fun i => decide (15 * i < L.length)⟩
theorem dirF_new : newF 2 = dirF 1 [] := by
  unfold newF dirF
  congr 1
abbrev okL (L : List Ent) : Prop := ∀ e ∈ L, e.ok = true
theorem okL_set {L : List Ent} {e : Ent} (h : okL L) (he : e.ok = true) (i : Nat) : okL (L.set i e) := fun x hx => by
  rcases List.mem_or_eq_of_mem_set hx with h1 | rfl
  · exact h x h1
  · exact he
theorem okL_snoc {L : List Ent} {e : Ent} (h : okL L) (he : e.ok = true) : okL (L ++ [e]) := fun x hx => by
  rcases List.mem_append.1 hx with h1 | h1
  · exact h x h1
  · rw [List.mem_singleton.1 h1]; exact he
theorem okL_take {L : List Ent} (h : okL L) (m : Nat) : okL (L.take m) := fun x hx => h x (List.mem_of_mem_take hx)
theorem dirF_DirF {lk : Int} {L : List Ent} (h : okL L) (hl : L.length ≤ 3840) : DirF (dirF lk L) L := ⟨rfl, rfl, h, fun p _ => rfl, hl⟩
theorem encs_getD : ∀ {L : List Ent} (_ : okL L) (p : Nat), (encs L).getD p 0 = ((L[p / 32]?).map fun e => e.enc.getD (p % 32) 0).getD 0
  | [], _, p => by simp [encs]
  | e :: L, h, p => by
    have he := Ent.enc_length (h e List.mem_cons_self)
    have e1 : encs (e :: L) = e.enc ++ encs L := rfl
    rw [e1]
    by_cases hp : p < 32
    · have h0 : p / 32 = 0 := by omega
      have h1 : p % 32 = p := by omega
      rw [h0, h1, List.getElem?_cons_zero, Option.map_some, Option.getD_some, List.getD, List.getElem?_append_left (by omega)]; rfl
    · have ih := encs_getD (L := L) (fun x hx => h x (List.mem_cons_of_mem _ hx)) (p - 32)
      have h0 : p / 32 = (p - 32) / 32 + 1 := by omega
      have h1 : p % 32 = (p - 32) % 32 := by omega
      rw [h0, h1, List.getElem?_cons_succ, ← ih, List.getD, List.getElem?_append_right (by omega), he]; rfl
theorem dirF_ext {f : AF} {lk : Int} {L : List Ent} (h1 : f.kd = 2) (h2 : f.lk = lk) (h3 : f.sz = 32 * L.length) (h4 : ∀ p, f.dat p = (encs L).getD p 0) (h5 : ∀ i, f.pr i = decide (15 * i < L.length)) : f = dirF lk L := by
  obtain ⟨a, b, c, d, e⟩ := f
  dsimp only at h1 h2 h3 h4 h5
  subst h1 h2 h3
  unfold dirF
  congr 1
  · funext p; exact h4 p
  · funext p; exact h5 p
theorem dirF_add {lk : Int} {L : List Ent} {e : Ent} (h : okL L) (he : e.ok = true) : (dirF lk L).wr (32 * L.length) e.enc = dirF lk (L ++ [e]) := by
  have hl := Ent.enc_length he
  refine dirF_ext rfl rfl ?_ (fun p => ?_) fun i => ?_
  · show (if e.enc.length = 0 then 32 * L.length else max (32 * L.length) (32 * L.length + e.enc.length)) = _
    rw [if_neg (by omega), hl, List.length_append, List.length_singleton]; omega
  · show (if 32 * L.length ≤ p ∧ p < 32 * L.length + e.enc.length then e.enc.getD (p - 32 * L.length) 0 else (encs L).getD p 0) = _
    rw [encs_getD (okL_snoc h he), encs_getD h, hl]
    split
    · rename_i hp
      have h0 : p / 32 = L.length := by omega
      have h1 : p % 32 = p - 32 * L.length := by omega
      rw [h0, h1]; simp
    · rename_i hp
      by_cases h2 : p / 32 < L.length
      · rw [List.getElem?_append_left h2]
      · rw [List.getElem?_eq_none (by omega), List.getElem?_eq_none (by rw [List.length_append, List.length_singleton]; omega)]
  · show (decide (15 * i < L.length) || touched (32 * L.length) e.enc.length i) = decide (15 * i < (L ++ [e]).length)
    rw [hl, List.length_append, List.length_singleton, Bool.eq_iff_iff, Bool.or_eq_true, touched_iff, decide_eq_true_iff, decide_eq_true_iff]
    omega
theorem dirF_set {lk : Int} {L : List Ent} {e : Ent} (h : okL L) (he : e.ok = true) {i : Nat} (hi : i < L.length) : (dirF lk L).wr (32 * i) e.enc = dirF lk (L.set i e) := by
  have hl := Ent.enc_length he
  refine dirF_ext rfl rfl ?_ (fun p => ?_) fun j => ?_
  · show (if e.enc.length = 0 then 32 * L.length else max (32 * L.length) (32 * i + e.enc.length)) = _
    rw [if_neg (by omega), hl, List.length_set]; omega
  · show (if 32 * i ≤ p ∧ p < 32 * i + e.enc.length then e.enc.getD (p - 32 * i) 0 else (encs L).getD p 0) = _
    rw [encs_getD (okL_set h he i), encs_getD h, hl]
    split
    · rename_i hp
      have h0 : p / 32 = i := by omega
      have h1 : p % 32 = p - 32 * i := by omega
      rw [h0, h1, List.getElem?_set_self hi]; rfl
    · rename_i hp
      rw [List.getElem?_set_ne (by omega)]
  · show (decide (15 * j < L.length) || touched (32 * i) e.enc.length j) = decide (15 * j < (L.set i e).length)
    rw [hl, List.length_set, Bool.eq_iff_iff, Bool.or_eq_true, touched_iff, decide_eq_true_iff]
    omega
theorem dirF_cut {lk : Int} {L : List Ent} (h : okL L) {m : Nat} (hm : m ≤ L.length) : (dirF lk L).cut (32 * m) = dirF lk (L.take m) := by
  have hl : (L.take m).length = m := by rw [List.length_take]; omega
  refine dirF_ext rfl rfl ?_ (fun p => ?_) fun j => ?_
  · show 32 * m = _; rw [hl]
  · show (if p < 32 * m then (encs L).getD p 0 else 0) = _
    rw [encs_getD (okL_take h m), encs_getD h, List.getElem?_take]
    split
    · rw [if_pos (by omega)]
    · rw [if_neg (by omega)]; rfl
  · show (decide (15 * j < L.length) && decide (480 * j < 32 * m)) = decide (15 * j < (L.take m).length)
    rw [hl, Bool.eq_iff_iff, Bool.and_eq_true, decide_eq_true_iff, decide_eq_true_iff, decide_eq_true_iff]
    omega
theorem countP_lt_range (f : Nat) : ∀ m, (List.range m).countP (fun i => decide (i < f)) = min f m
  | 0 => by simp
  | m + 1 => by
    rw [List.range_succ, List.countP_append, countP_lt_range f m]
    simp only [List.countP_cons, List.countP_nil, Nat.zero_add]
    by_cases h : m < f
    · rw [if_pos (decide_eq_true h)]; omega
    · rw [if_neg (by simpa using h)]; omega
/-- The blocks that a directory of so many names takes, with its own. -/
def needD (l : Nat) : Nat := 1 + (l + 14) / 15 + if 240 < l then 1 else 0
theorem dirF_need {lk : Int} {L : List Ent} (hl : L.length ≤ 3840) : needP (dirF lk L).pr = needD L.length := by
  unfold needP needD
  have hc : cntP (dirF lk L).pr = (L.length + 14) / 15 := by
    have : cntP (dirF lk L).pr = cntP fun i => decide (i < (L.length + 14) / 15) := cntP_congr fun i _ => by
      show decide (15 * i < L.length) = _
      rw [Bool.eq_iff_iff, decide_eq_true_iff, decide_eq_true_iff]; omega
    rw [this]; unfold cntP
    rw [countP_lt_range]; omega
  rw [hc]
  congr 1
  by_cases h : 240 < L.length
  · rw [if_pos h, if_pos (rowB_iff.2 ⟨16, by omega, by omega, decide_eq_true (by omega)⟩)]
  · rw [if_neg h, if_neg]
    intro h2
    obtain ⟨i, h3, h4, h5⟩ := rowB_iff.1 h2
    have : 15 * i < L.length := of_decide_eq_true h5
    omega
end Go.SL
namespace Go.SL
set_option linter.unusedVariables false
set_option linter.unusedSimpArgs false
open Go.RowKit
theorem rd_pad {w : World} {va : Option Addr} {cap n m : Nat} {l : List UInt8} (hl : l.length = m) (hm : m ≤ n) (h : Rd w (.slice va n cap) (padTo n l)) : Rd w (.slice va m cap) l := by
  obtain ⟨h1, h2⟩ := h
  rcases h2 with ⟨h3, h4⟩ | ⟨a, c, h3, h4⟩
  · rw [padTo_length] at h4
    simp only [Value.slice.injEq] at h3
    obtain ⟨rfl, rfl, rfl⟩ := h3
    have hl0 : l.length = 0 := by omega
    obtain rfl : m = 0 := by omega
    exact ⟨by simp, .inl ⟨rfl, hl0⟩⟩
  · simp only [Value.slice.injEq] at h3
    obtain ⟨rfl, -, rfl⟩ := h3
    refine ⟨by simp, .inr ⟨a, cap, by rw [hl], fun j u hu => h4 j u ?_⟩⟩
    have hj : j < l.length := by
      have := List.getElem?_eq_some_iff.1 hu
      obtain ⟨h5, _⟩ := this
      rwa [List.length_map] at h5
    rw [List.getElem?_map] at hu ⊢
    rw [← hu]
    unfold padTo
    rw [List.getElem?_take, if_pos (by omega), List.getElem?_append_left hj]
end Go.SL
namespace Go.Proofs.YtaoohjeaaccnfaaGreat.Fs
set_option linter.unusedVariables false
set_option linter.unusedSimpArgs false
open Go.RowKit Go.SL Go.Proofs.YtaoohjeaaccnfaaGreat.Ba
section
variable {n : Nat} {x : Fx n} {b k id : Nat} {A : Nat → Option AF} {f : AF} {lk : Int} {L : List Ent} {w : World} {F : Assn}
set_option maxRecDepth 100000 in
set_option maxHeartbeats 2000000 in
theorem putT_any (e : Ent) (he : e.ok = true) (at' : Nat) (hat : at' ≤ 3840) {A' : Nat → Option AF} {k' : Nat} {c : Int} (h : Sat w (fsA x b A k * F))
    (hw : ∀ (w1 : World) (va : Option Addr) (cap : Nat) (D G : Assn), (∀ W P, Sat W (D * P) → Rd W (.slice va e.enc.length cap) e.enc) → e.enc.length ≤ cap → Sat w1 (fsA x b A k * (D * G)) →
      Calls Tryz.prog 21 #[spV b n, .int .i64 (id : Int), .int .i64 ((32 * at' : Nat) : Int), .slice va e.enc.length cap] w1 (YE x b A' k' c (D * G) w1)) :
    Calls Tryz.prog 29 #[spV b n, .int .i64 (id : Int), .int .i64 (at' : Int), .agg #[.int .i64 (e.nd : Int), .string (str e.nm)]] w (YE x b A' k' c F w) := by
  refine callsQ fun Q HQ => ?_
  have hl := Ent.enc_length he
  rw [hl] at hw
  have e32 : ((32 * at' : Nat) : Int) = (at' : Int) * 32 := by omega
  rw [e32] at hw
  have hA := ((h.alloc (spO b n)).alloc (.cells #[.int .i64 (e.nd : Int), .string (str e.nm)] 47 (0, 0))).alloc (.cells #[.int .i64 (e.nd : Int), .string (str e.nm)] 47 (0, 0))
  have dA := SL.hid ((((Side.refl w).alloc (spO b n)).alloc (.cells #[.int .i64 (e.nd : Int), .string (str e.nm)] 47 (0, 0))).alloc (.cells #[.int .i64 (e.nd : Int), .string (str e.nm)] 47 (0, 0)))
  simp only [World.size_alloc] at hA
  have he1 := encode1_any _ _ _ e he _ hA
  have HE1 := SL.hid he1
  have HW := SL.hid hw; have HL := SL.hid hl; have HE := SL.hid he
  clear h hw hl e32 he1 hA
  unfold spV
  go_enter Tryz.func29, Tryz.ntmps29
  go_wp2_with fail
  refine HE1.out.mono ?_
  generalize ((w.alloc (spO b n)).alloc (.cells #[.int .i64 (e.nd : Int), .string (str e.nm)] 47 (0, 0))).alloc (.cells #[.int .i64 (e.nd : Int), .string (str e.nm)] 47 (0, 0)) = w1 at *
  generalize w.heap.size + 1 + 1 = gc at *
  generalize w.heap.size + 1 = gb at *
  generalize w.heap.size = ga at *
  rintro r w2 ⟨v, rfl, h2, d2⟩
  clear HE1
  have s0 : w2.cell? ⟨ga, 0, none⟩ = some (.pointer (some ⟨b, 0, none⟩)) := h2.front4.cell 0
  have s1 : w2.cell? ⟨ga, 1, none⟩ = some (.int .i64 (n : Int)) := h2.front4.cell 1
  have hcp : ∀ W P, Sat W (bs 5 v (padTo 480 e.enc) * P) → Rd W v (padTo 480 e.enc) := fun W P h => h.rds
  obtain ⟨va, cap, rfl⟩ : ∃ a c, v = .slice a 480 c := by
    obtain ⟨a, c, e⟩ := sl_shape h2
    rw [padTo_length] at e; exact ⟨a, c, e⟩
  have hcap : 480 ≤ cap ∧ (cap : Int) ≤ 9223372036854775807 := by
    rcases h2.slCases with ⟨h3, h4, _⟩ | ⟨g, c, cur, h3, h4, h5, h6, h7⟩
    · rw [padTo_length] at h4; omega
    · simp only [Value.slice.injEq] at h3
      obtain ⟨-, -, rfl⟩ := h3
      rw [padTo_length] at h4
      unfold maxLen at h5
      omega
  obtain ⟨hcap, hcap2⟩ := hcap
  have hcap' : (32 : Int) ≤ (cap : Int) := by omega
  have hw := HW.out w2.drew va cap (bs 5 (.slice va 480 cap) (padTo 480 e.enc)) (pt gc (.cells #[.int .i64 (e.nd : Int), .string (str e.nm)] 47 (0, 0)) * (pt gb (.cells #[.int .i64 (e.nd : Int), .string (str e.nm)] 47 (0, 0)) * (pt ga (spO b n) * F)))
    (fun W P h => rd_pad HL.out (by decide) (hcp W P h)) (by omega) (h2.drew.to (by ac_rfl))
  rw [← (show IntKind.i64.wrap ((at' : Int) * 32) = (at' : Int) * 32 by rw [IntKind.wrap_i64]; omega)] at hw
  have HW2 := SL.hid hw
  clear hw HW h2 hcp
  go_wp2_with fail
  go_region_held3 (fun w' => w'.cell? ⟨ga, 0, none⟩ = some (.pointer (some ⟨b, 0, none⟩)) ∧ w'.cell? ⟨ga, 1, none⟩ = some (.int .i64 (n : Int)))
    (first | exact ⟨s0, s1⟩ | exact k01 | go_keep)
    (first | (go_at_call 21; refine HW2.out.mono ?_; rintro r w3 ⟨rfl, d3, h3⟩; have k01 : w3.cell? ⟨ga, 0, none⟩ = some (.pointer (some ⟨b, 0, none⟩)) ∧ w3.cell? ⟨ga, 1, none⟩ = some (.int .i64 (n : Int)) := ⟨h3.front5.cell 0, h3.front5.cell 1⟩))
  rename_i hHeld
  clear hHeld
  have h4 : Sat w3 (fsA x b A' k' * F) := (h3.to (by ac_rfl : _ = (bs 5 (.slice va 480 cap) (padTo 480 e.enc) * (pt gc (.cells #[.int .i64 (e.nd : Int), .string (str e.nm)] 47 (0, 0)) * (pt gb (.cells #[.int .i64 (e.nd : Int), .string (str e.nm)] 47 (0, 0)) * pt ga (spO b n)))) * (fsA x b A' k' * F))).right
  have H4 := SL.hid h4
  clear h3 h4 HW2
  go_wp2_with fail
  exact HQ.out _ _ ⟨rfl, (dA.out.trans d2).drew.trans d3, H4.out⟩
end
end Go.Proofs.YtaoohjeaaccnfaaGreat.Fs
namespace Go.SL
set_option linter.unusedVariables false
set_option linter.unusedSimpArgs false
open Go.RowKit
theorem plc_lt {L : List Ent} {nm : List UInt8} {i : Nat} (h : plc L nm = some i) : i < L.length := by
  unfold plc at h
  rw [List.findIdx?_eq_some_iff_getElem] at h
  exact h.1
theorem plcV_some {L : List Ent} {nm : List UInt8} {i : Nat} (h : plc L nm = some i) : plcV L nm = (i : Int) := by unfold plcV; rw [h]
theorem plcV_none {L : List Ent} {nm : List UInt8} (h : plc L nm = none) : plcV L nm = -1 := by unfold plcV; rw [h]
end Go.SL
namespace Go.Proofs.YtaoohjeaaccnfaaGreat.Fs
set_option linter.unusedVariables false
set_option linter.unusedSimpArgs false
open Go.RowKit Go.SL Go.Proofs.YtaoohjeaaccnfaaGreat.Ba
section
variable {n : Nat} {x : Fx n} {b k id : Nat} {A : Nat → Option AF} {f : AF} {lk : Int} {L : List Ent} {w : World} {F : Assn} {nm : List UInt8}
theorem putD_add {e : Ent} (he : e.ok = true) (hok : okL L) (hl : L.length < 3840) (hf : A id = some (dirF lk L)) (hk : needD (L.length + 1) ≤ k + needD L.length) (h : Sat w (fsA x b A k * F)) :
    Calls Tryz.prog 29 #[spV b n, .int .i64 (id : Int), .int .i64 (L.length : Int), .agg #[.int .i64 (e.nd : Int), .string (str e.nm)]] w (YE x b (upO A id (some (dirF lk (L ++ [e])))) (k + needD L.length - needD (L.length + 1)) 0 F w) := by
  have e32 := Ent.enc_length he
  have e1 := dirF_need (lk := lk) (L := L) (by omega)
  have e2 := dirF_need (lk := lk) (L := L ++ [e]) (by rw [List.length_append, List.length_singleton]; omega)
  rw [List.length_append, List.length_singleton] at e2
  refine putT_any e he L.length (by omega) h fun w1 va cap D G hD hc h1 => ?_
  have := y_write hf (32 * L.length) hD hc (by omega) (by omega) (by rw [dirF_add hok he, e1, e2]; exact hk) h1
  rw [dirF_add hok he, e1, e2] at this
  exact this
theorem putD_no {e : Ent} (he : e.ok = true) (hok : okL L) (hl : L.length < 3840) (hf : A id = some (dirF lk L)) (hk : k + needD L.length < needD (L.length + 1)) (h : Sat w (fsA x b A k * F)) :
    Calls Tryz.prog 29 #[spV b n, .int .i64 (id : Int), .int .i64 (L.length : Int), .agg #[.int .i64 (e.nd : Int), .string (str e.nm)]] w (YE x b A k 7 F w) := by
  have e32 := Ent.enc_length he
  have e1 := dirF_need (lk := lk) (L := L) (by omega)
  have e2 := dirF_need (lk := lk) (L := L ++ [e]) (by rw [List.length_append, List.length_singleton]; omega)
  rw [List.length_append, List.length_singleton] at e2
  refine putT_any e he L.length (by omega) h fun w1 va cap D G hD hc h1 => ?_
  exact y_writeN hf (32 * L.length) hD hc (by omega) (by omega) (by rw [dirF_add hok he, e1, e2]; exact hk) h1
theorem putD_set {e : Ent} (he : e.ok = true) (hok : okL L) (hl : L.length ≤ 3840) (hf : A id = some (dirF lk L)) {i : Nat} (hi : i < L.length) (h : Sat w (fsA x b A k * F)) :
    Calls Tryz.prog 29 #[spV b n, .int .i64 (id : Int), .int .i64 (i : Int), .agg #[.int .i64 (e.nd : Int), .string (str e.nm)]] w (YE x b (upO A id (some (dirF lk (L.set i e)))) k 0 F w) := by
  have e32 := Ent.enc_length he
  have e1 := dirF_need (lk := lk) (L := L) (by omega)
  have e2 := dirF_need (lk := lk) (L := L.set i e) (by rw [List.length_set]; omega)
  rw [List.length_set] at e2
  refine putT_any e he i (by omega) h fun w1 va cap D G hD hc h1 => ?_
  have := y_write hf (32 * i) hD hc (by omega) (by omega) (by rw [dirF_set hok he hi, e1, e2]; omega) h1
  rw [dirF_set hok he hi, e1, e2, Nat.add_sub_cancel] at this
  exact this
set_option maxRecDepth 100000 in
set_option maxHeartbeats 2000000 in
theorem find_yes (h : Sat w (fsA x b A k * F)) (hf : A id = some (dirF lk L)) (hok : okL L) (hl : L.length ≤ 3840) {i : Nat} (hi : plc L nm = some i) (hL : i < L.length) :
    Calls Tryz.prog 14 #[spV b n, .int .i64 (id : Int), .string (str nm)] w (YI x b A k ((L[i]).nd) 0 F w) := by
  refine callsQ fun Q HQ => ?_
  have hA := h.alloc (spO b n)
  have dA := SL.hid ((Side.refl w).alloc (spO b n))
  have hr := SL.hid (loadT_any hA.front2 hf (dirF_DirF hok hl))
  have hp := plcV_some hi
  obtain ⟨m, hm⟩ : ∃ m, L.length = m := ⟨_, rfl⟩
  have c0 : (w.alloc (spO b n)).cell? ⟨w.heap.size, 0, none⟩ = some (.pointer (some ⟨b, 0, none⟩)) := hA.cell 0
  have HP := SL.hid hp; have HM := SL.hid hm
  have hl' : (m : Int) ≤ 3840 := by omega
  have hi' : (i : Int) < (m : Int) := by omega
  have HL := SL.hid hl
  clear h hA hf hok hp hm hl hi
  unfold spV
  go_enter Tryz.func14, Tryz.ntmps14
  go_wp2_with fail
  refine hr.out.mono ?_
  generalize w.alloc (spO b n) = w1 at *
  generalize w.heap.size = ga at *
  rintro r w2 ⟨u, rfl, d2, h2⟩
  have hpl := place_any w2 u L nm _ HL.out h2
  unfold PlaceQ at hpl
  rw [HP.out] at hpl
  have Hpl := SL.hid hpl
  obtain ⟨ua, uc, rfl⟩ := sl_shape h2
  rw [HM.out] at Hpl ⊢
  clear hr hpl h2
  go_wp2_with fail
  refine Hpl.out.mono ?_
  rintro r w3 ⟨rfl, h3, d3⟩
  rw [← HM.out] at h3
  obtain ⟨g, c, e, e1, e2, k1, k2⟩ := ents_at h3 hL
  simp only [Value.slice.injEq] at e
  obtain ⟨rfl, -, rfl⟩ := e
  have H3 := SL.hid h3
  clear h3 Hpl k1 k2
  go_wp2_with fail
  exact HQ.out _ _ ⟨by simp, (dA.out.trans d2).trans d3, (H3.out.to (by ac_rfl : _ = (sl 47 2 (.slice (some ⟨g, 0, none⟩) L.length uc) L.length (flatE L) * pt ga (spO b n)) * (fsA x b A k * F))).right⟩
set_option maxRecDepth 100000 in
set_option maxHeartbeats 2000000 in
theorem find_no (h : Sat w (fsA x b A k * F)) (hf : A id = some (dirF lk L)) (hok : okL L) (hl : L.length ≤ 3840) (hi : plc L nm = none) :
    Calls Tryz.prog 14 #[spV b n, .int .i64 (id : Int), .string (str nm)] w (YI x b A k 0 5 F w) := by
  refine callsQ fun Q HQ => ?_
  have hA := h.alloc (spO b n)
  have dA := SL.hid ((Side.refl w).alloc (spO b n))
  have hr := SL.hid (loadT_any hA.front2 hf (dirF_DirF hok hl))
  have hp := plcV_none hi
  obtain ⟨m, hm⟩ : ∃ m, L.length = m := ⟨_, rfl⟩
  have c0 : (w.alloc (spO b n)).cell? ⟨w.heap.size, 0, none⟩ = some (.pointer (some ⟨b, 0, none⟩)) := hA.cell 0
  have HP := SL.hid hp; have HM := SL.hid hm
  have hl' : (m : Int) ≤ 3840 := by omega
  have HL := SL.hid hl
  clear h hA hf hok hp hm hl hi
  unfold spV
  go_enter Tryz.func14, Tryz.ntmps14
  go_wp2_with fail
  refine hr.out.mono ?_
  generalize w.alloc (spO b n) = w1 at *
  generalize w.heap.size = ga at *
  rintro r w2 ⟨u, rfl, d2, h2⟩
  have hpl := place_any w2 u L nm _ HL.out h2
  unfold PlaceQ at hpl
  rw [HP.out] at hpl
  have Hpl := SL.hid hpl
  obtain ⟨ua, uc, rfl⟩ := sl_shape h2
  rw [HM.out] at Hpl ⊢
  clear hr hpl h2
  go_wp2_with fail
  refine Hpl.out.mono ?_
  rintro r w3 ⟨rfl, h3, d3⟩
  have H3 := SL.hid h3
  clear h3 Hpl
  go_wp2_with fail
  exact HQ.out _ _ ⟨by simp, (dA.out.trans d2).trans d3, (H3.out.to (by ac_rfl : _ = (sl 47 2 (.slice ua m uc) m (flatE L) * pt ga (spO b n)) * (fsA x b A k * F))).right⟩
set_option maxRecDepth 100000 in
set_option maxHeartbeats 2000000 in
theorem add_arg {child : Nat} (h : Sat w (fsA x b A k * F)) (hf : A id = some (dirF lk L)) (hok : okL L) (hl : L.length ≤ 3840) (hi : nameOk nm = false) :
    Calls Tryz.prog 11 #[spV b n, .int .i64 (id : Int), .string (str nm), .int .i64 (child : Int)] w (YE x b A k 1 F w) := by
  refine callsQ fun Q HQ => ?_
  have hA := h.alloc (spO b n)
  have dA := SL.hid ((Side.refl w).alloc (spO b n))
  have hr := SL.hid (loadT_any hA.front2 hf (dirF_DirF hok hl))
  obtain ⟨m, hm⟩ : ∃ m, L.length = m := ⟨_, rfl⟩
  have c0 : (w.alloc (spO b n)).cell? ⟨w.heap.size, 0, none⟩ = some (.pointer (some ⟨b, 0, none⟩)) := hA.cell 0
  have HM := SL.hid hm
  have Hn := SL.hid fun w => name_any w nm
  rw [hi] at Hn
  clear h hA hf hok hm hl hi
  unfold spV
  go_enter Tryz.func11, Tryz.ntmps11
  go_wp2_with fail
  refine hr.out.mono ?_
  generalize w.alloc (spO b n) = w1 at *
  generalize w.heap.size = ga at *
  rintro r w2 ⟨u, rfl, d2, h2⟩
  have H2 := SL.hid h2
  obtain ⟨ua, uc, rfl⟩ := sl_shape h2
  clear hr h2
  go_wp2_with fail
  refine (Hn.out _).mono ?_
  rintro r w3 ⟨rfl, rfl⟩
  go_wp2_with fail
  exact HQ.out _ _ ⟨by simp, dA.out.trans d2, (H2.out.to (by ac_rfl : _ = (sl 47 2 (.slice ua L.length uc) L.length (flatE L) * pt ga (spO b n)) * (fsA x b A k * F))).right⟩
set_option maxRecDepth 100000 in
set_option maxHeartbeats 2000000 in
theorem add_exist {child : Nat} (hc1 : 1 ≤ child) (hc2 : child ≤ 3839) (h : Sat w (fsA x b A k * F)) (hf : A id = some (dirF lk L)) (hok : okL L) (hl : L.length ≤ 3840) (hi : nameOk nm = true) {i : Nat} (hp : plc L nm = some i) :
    Calls Tryz.prog 11 #[spV b n, .int .i64 (id : Int), .string (str nm), .int .i64 (child : Int)] w (YE x b A k 6 F w) := by
  refine callsQ fun Q HQ => ?_
  have hA := h.alloc (spO b n)
  have dA := SL.hid ((Side.refl w).alloc (spO b n))
  have hr := SL.hid (loadT_any hA.front2 hf (dirF_DirF hok hl))
  obtain ⟨m, hm⟩ : ∃ m, L.length = m := ⟨_, rfl⟩
  have c0 : (w.alloc (spO b n)).cell? ⟨w.heap.size, 0, none⟩ = some (.pointer (some ⟨b, 0, none⟩)) := hA.cell 0
  have HM := SL.hid hm
  have hpv := SL.hid (plcV_some hp)
  have hl' : (m : Int) ≤ 3840 := by omega
  have hi' : (i : Int) < (m : Int) := by have := plc_lt hp; omega
  have HL := SL.hid hl
  have Hn := SL.hid fun w => name_any w nm
  rw [hi] at Hn
  have g1 : ¬ ((child : Int) < 1) := by omega
  have g2 : ¬ ((3839 : Int) < (child : Int)) := by omega
  clear h hA hf hok hm hl hi hp hc1 hc2
  unfold spV
  go_enter Tryz.func11, Tryz.ntmps11
  go_wp2_with fail
  refine hr.out.mono ?_
  generalize w.alloc (spO b n) = w1 at *
  generalize w.heap.size = ga at *
  rintro r w2 ⟨u, rfl, d2, h2⟩
  have hpl := place_any w2 u L nm _ HL.out h2
  unfold PlaceQ at hpl
  rw [hpv.out] at hpl
  have Hpl := SL.hid hpl
  obtain ⟨ua, uc, rfl⟩ := sl_shape h2
  rw [HM.out] at Hpl ⊢
  clear hr h2 hpl
  go_wp2_with fail
  refine (Hn.out _).mono ?_
  rintro r w3 ⟨rfl, rfl⟩
  go_wp2_with fail
  refine Hpl.out.mono ?_
  rintro r w3 ⟨rfl, h3, d3⟩
  have H3 := SL.hid h3
  clear h3 Hpl
  go_wp2_with fail
  exact HQ.out _ _ ⟨by simp, (dA.out.trans d2).trans d3, (H3.out.to (by ac_rfl : _ = (sl 47 2 (.slice ua m uc) m (flatE L) * pt ga (spO b n)) * (fsA x b A k * F))).right⟩
set_option maxRecDepth 100000 in
set_option maxHeartbeats 2000000 in
theorem add_put {child : Nat} {A' : Nat → Option AF} {k' : Nat} {c : Int} (hc1 : 1 ≤ child) (hc2 : child ≤ 3839) (h : Sat w (fsA x b A k * F)) (hf : A id = some (dirF lk L)) (hok : okL L) (hl : L.length < 3840) (hi : nameOk nm = true) (hp : plc L nm = none)
    (hput : ∀ w1 G, Sat w1 (fsA x b A k * G) → Calls Tryz.prog 29 #[spV b n, .int .i64 (id : Int), .int .i64 (L.length : Int), .agg #[.int .i64 (child : Int), .string (str nm)]] w1 (YE x b A' k' c G w1)) :
    Calls Tryz.prog 11 #[spV b n, .int .i64 (id : Int), .string (str nm), .int .i64 (child : Int)] w (YE x b A' k' c F w) := by
  refine callsQ fun Q HQ => ?_
  have hA := h.alloc (spO b n)
  have dA := SL.hid ((Side.refl w).alloc (spO b n))
  have hr := SL.hid (loadT_any hA.front2 hf (dirF_DirF hok (by omega)))
  obtain ⟨m, hm⟩ : ∃ m, L.length = m := ⟨_, rfl⟩
  have c0 : (w.alloc (spO b n)).cell? ⟨w.heap.size, 0, none⟩ = some (.pointer (some ⟨b, 0, none⟩)) := hA.cell 0
  rw [hm] at hput
  have HPut := SL.hid hput
  have HM := SL.hid hm
  have hpv := SL.hid (plcV_none hp)
  have hl' : (m : Int) < 3840 := by omega
  have HL : Hid (L.length ≤ 3840) := Nat.le_of_lt hl
  have Hn := SL.hid fun w => name_any w nm
  rw [hi] at Hn
  have g1 : ¬ ((child : Int) < 1) := by omega
  have g2 : ¬ ((3839 : Int) < (child : Int)) := by omega
  clear h hA hf hok hm hl hi hp hc1 hc2 hput
  unfold spV
  go_enter Tryz.func11, Tryz.ntmps11
  go_wp2_with fail
  refine hr.out.mono ?_
  generalize w.alloc (spO b n) = w1 at *
  generalize w.heap.size = ga at *
  rintro r w2 ⟨u, rfl, d2, h2⟩
  have hpl := place_any w2 u L nm _ HL.out h2
  unfold PlaceQ at hpl
  rw [hpv.out] at hpl
  have Hpl := SL.hid hpl
  obtain ⟨ua, uc, rfl⟩ := sl_shape h2
  rw [HM.out] at Hpl ⊢
  clear hr h2 hpl
  go_wp2_with fail
  refine (Hn.out _).mono ?_
  rintro r w3 ⟨rfl, rfl⟩
  go_wp2_with fail
  refine Hpl.out.mono ?_
  rintro r w3 ⟨rfl, h3, d3⟩
  have c0 : w3.cell? ⟨ga, 0, none⟩ = some (.pointer (some ⟨b, 0, none⟩)) := h3.front3.cell 0
  have c1 : w3.cell? ⟨ga, 1, none⟩ = some (.int .i64 (n : Int)) := h3.front3.cell 1
  have H3 := SL.hid h3
  clear h3 Hpl
  go_wp2_with fail
  refine (HPut.out w3 _ (H3.out.to (by ac_rfl : _ = fsA x b A k * ((sl 47 2 (.slice ua m uc) m (flatE L) * pt ga (spO b n)) * F)))).mono ?_
  rintro r w4 ⟨rfl, d4, h4⟩
  have H4 := SL.hid (h4.to (by ac_rfl : _ = (sl 47 2 (.slice ua m uc) m (flatE L) * pt ga (spO b n)) * (fsA x b A' k' * F))).right
  clear h4 H3
  go_wp2_with fail
  exact HQ.out _ _ ⟨by simp, ((dA.out.trans d2).trans d3).trans d4, H4.out⟩
/-- What Add comes to, where there is room. -/
theorem add_yes {child : Nat} (hc1 : 1 ≤ child) (hc2 : child ≤ 3839) (h : Sat w (fsA x b A k * F)) (hf : A id = some (dirF lk L)) (hok : okL L) (hl : L.length < 3840) (hi : nameOk nm = true) (hp : plc L nm = none) (hk : needD (L.length + 1) ≤ k + needD L.length) :
    Calls Tryz.prog 11 #[spV b n, .int .i64 (id : Int), .string (str nm), .int .i64 (child : Int)] w (YE x b (upO A id (some (dirF lk (L ++ [⟨child, nm⟩])))) (k + needD L.length - needD (L.length + 1)) 0 F w) :=
  add_put hc1 hc2 h hf hok hl hi hp fun w1 G h1 => putD_add (e := ⟨child, nm⟩) (Ent.ok_iff.2 ⟨hc1, hc2, nameOk_nm hi⟩) hok hl hf hk h1
theorem add_no {child : Nat} (hc1 : 1 ≤ child) (hc2 : child ≤ 3839) (h : Sat w (fsA x b A k * F)) (hf : A id = some (dirF lk L)) (hok : okL L) (hl : L.length < 3840) (hi : nameOk nm = true) (hp : plc L nm = none) (hk : k + needD L.length < needD (L.length + 1)) :
    Calls Tryz.prog 11 #[spV b n, .int .i64 (id : Int), .string (str nm), .int .i64 (child : Int)] w (YE x b A k 7 F w) :=
  add_put hc1 hc2 h hf hok hl hi hp fun w1 G h1 => putD_no (e := ⟨child, nm⟩) (Ent.ok_iff.2 ⟨hc1, hc2, nameOk_nm hi⟩) hok hl hf hk h1
end
end Go.Proofs.YtaoohjeaaccnfaaGreat.Fs
namespace Go.SL
set_option linter.unusedVariables false
set_option linter.unusedSimpArgs false
open Go.RowKit
/-- Entries without the i-th: the last one stands there. -/
def rmE (L : List Ent) (i : Nat) : List Ent := (L.set i (L.getD (L.length - 1) Ent.no)).take (L.length - 1)
theorem rmE_length {L : List Ent} {i : Nat} : (rmE L i).length = L.length - 1 := by
  unfold rmE; rw [List.length_take, List.length_set]; omega
theorem rmE_last {L : List Ent} : rmE L (L.length - 1) = L.take (L.length - 1) := by
  unfold rmE; rw [List.take_set_of_le (Nat.le_refl _)]
theorem okL_get {L : List Ent} (h : okL L) {i : Nat} (hi : i < L.length) : (L.getD i Ent.no).ok = true := by
  rw [List.getD, List.getElem?_eq_getElem hi]; exact h _ (List.getElem_mem hi)
theorem okL_rmE {L : List Ent} (h : okL L) {i : Nat} (hi : i < L.length) : okL (rmE L i) := okL_take (okL_set h (okL_get h (by omega)) i) _
end Go.SL
namespace Go.Proofs.YtaoohjeaaccnfaaGreat.Fs
set_option linter.unusedVariables false
set_option linter.unusedSimpArgs false
open Go.RowKit Go.SL Go.Proofs.YtaoohjeaaccnfaaGreat.Ba
section
variable {n : Nat} {x : Fx n} {b k id : Nat} {A : Nat → Option AF} {f : AF} {lk : Int} {L : List Ent} {w : World} {F : Assn} {nm : List UInt8}
/-- A space whose batch was forked: the older batch stands by. -/
def Fx.fork {n : Nat} (x : Fx n) (mb : Nat) (M : Bst x.σ) : Fx n :=
  ⟨x.σ, x.c, x.V0, x.I, x.ok, x.rdr, x.h4, x.hn, fun S => batchA 113 5 S mb x.c.rd M.err M.W M.D * x.R S, fun S S' e h p => by
    obtain ⟨h1, h2, p1, p2, d, rfl⟩ := p
    exact ⟨h1, h2, batchA_mono e _ p1, x.hR S S' e _ p2, d, rfl⟩⟩
def ForkSQ (x : Fx n) (b : Nat) (A : Nat → Option AF) (k : Nat) (F : Assn) (w : World) (e : Ending) (w' : World) : Prop :=
  ∃ g M, e = .returned (ptV g) ∧ Side w w' ∧ Sat w' (fsA (x.fork b M) g A k * F)
theorem forkS_any (h : Sat w (fsA x b A k * F)) : Calls Tryz.prog 28 #[ptV b] w (ForkSQ x b A k F w) := by
  obtain ⟨M, hm, h1⟩ := Sat.fOpen h
  obtain ⟨S, h2⟩ := Sat.mOpen h1
  refine (fork_any w S b x.c.rd M.err M.W M.D (x.c.RI M.s * (x.R S * F)) (h2.to (by unfold btA; ac_rfl)) ⟨_, _, rfl⟩).mono ?_
  rintro e w' ⟨S', g, hE, rfl, h3, d3⟩
  refine ⟨g, M, rfl, d3, ?_⟩
  have h4 := (h3.to (by ac_rfl : _ = x.R S * (batchA 113 5 S' g x.c.rd M.err M.W M.D * (batchA 113 5 S' b x.c.rd M.err M.W M.D * (pool S' * (x.c.RI M.s * F)))))).weak (x.hR S S' hE)
  refine Sat.fShut (x := x.fork b M) hm ?_
  refine Sat.ex_star_iff.2 ⟨S', ?_⟩
  exact h4.to (by show _ = (btA x.c S' g M * (pool S' * (batchA 113 5 S' b x.c.rd M.err M.W M.D * x.R S'))) * F; unfold btA; ac_rfl)
def JoinSQ (x : Fx n) (b : Nat) (A : Nat → Option AF) (k : Nat) (F : Assn) (w : World) (e : Ending) (w' : World) : Prop :=
  e = .returned (.tuple #[]) ∧ Side w w' ∧ Sat w' (fsA x b A k * F)
theorem joinS_any {M : Bst x.σ} {g : Nat} (h : Sat w (fsA (x.fork b M) g A k * F)) : Calls Tryz.prog 31 #[ptV b, ptV g] w (JoinSQ x b A k F w) := by
  obtain ⟨M1, hm, h1⟩ := Sat.fOpen h
  obtain ⟨S, h2⟩ := Sat.ex_star_iff.1 h1
  have h3 : Sat w (batchA 113 5 S b x.c.rd M.err M.W M.D * (batchA 113 5 S g x.c.rd M1.err M1.W M1.D * (pool S * (x.c.RI M1.s * (x.R S * F))))) :=
    h2.to (by show (btA x.c S g M1 * (pool S * (batchA 113 5 S b x.c.rd M.err M.W M.D * x.R S))) * F = _; unfold btA; ac_rfl)
  refine (join_any w S b g x.c.rd x.c.rd M1.err M.err M1.W M1.D M.W M.D _ h3 ⟨_, _, rfl⟩).mono ?_
  rintro e w' ⟨S', hE, rfl, h4, d4⟩
  refine ⟨rfl, d4, ?_⟩
  have h5 := h4.drop2
  exact Sat.fShut (x := x) hm (Sat.mShut hE (h5.to (by unfold btA; ac_rfl)))
set_option maxRecDepth 100000 in
set_option maxHeartbeats 2000000 in
theorem remove_no (h : Sat w (fsA x b A k * F)) (hf : A id = some (dirF lk L)) (hok : okL L) (hl : L.length ≤ 3840) (hi : plc L nm = none) :
    Calls Tryz.prog 9 #[spV b n, .int .i64 (id : Int), .string (str nm)] w (YE x b A k 5 F w) := by
  refine callsQ fun Q HQ => ?_
  have hA := h.alloc (spO b n)
  have dA := SL.hid ((Side.refl w).alloc (spO b n))
  have hr := SL.hid (loadT_any hA.front2 hf (dirF_DirF hok hl))
  have hp := plcV_none hi
  obtain ⟨m, hm⟩ : ∃ m, L.length = m := ⟨_, rfl⟩
  have c0 : (w.alloc (spO b n)).cell? ⟨w.heap.size, 0, none⟩ = some (.pointer (some ⟨b, 0, none⟩)) := hA.cell 0
  have HP := SL.hid hp; have HM := SL.hid hm
  have hl' : (m : Int) ≤ 3840 := by omega
  have HL := SL.hid hl
  clear h hA hf hok hp hm hl hi
  unfold spV
  go_enter Tryz.func9, Tryz.ntmps9
  go_wp2_with fail
  refine hr.out.mono ?_
  generalize w.alloc (spO b n) = w1 at *
  generalize w.heap.size = ga at *
  rintro r w2 ⟨u, rfl, d2, h2⟩
  have hpl := place_any w2 u L nm _ HL.out h2
  unfold PlaceQ at hpl
  rw [HP.out] at hpl
  have Hpl := SL.hid hpl
  obtain ⟨ua, uc, rfl⟩ := sl_shape h2
  rw [HM.out] at Hpl ⊢
  clear hr hpl h2
  go_wp2_with fail
  refine Hpl.out.mono ?_
  rintro r w3 ⟨rfl, h3, d3⟩
  have H3 := SL.hid h3
  clear h3 Hpl
  go_wp2_with fail
  exact HQ.out _ _ ⟨by simp, (dA.out.trans d2).trans d3, (H3.out.to (by ac_rfl : _ = (sl 47 2 (.slice ua m uc) m (flatE L) * pt ga (spO b n)) * (fsA x b A k * F))).right⟩
theorem keepE1 {m q ga : Nat} {uc : Nat} {E : Ent} (h : Sat w (sl 47 2 (.slice (some ⟨ga, 0, none⟩) m uc) m (flatE L) * F)) (hm : L.length = m) (hq : q < L.length) (hE : L[q]'hq = E) :
    w.cell? ⟨ga, q * 2, none⟩ = some (.int .i64 (E.nd : Int)) ∧ w.cell? ⟨ga, q * 2 + 1, none⟩ = some (.string (str E.nm)) := by
  obtain ⟨g, c, e, e1, e2, k1, k2⟩ := ents_at (L := L) (k := q) (h.to (by rw [hm])) hq
  simp only [Value.slice.injEq, Option.some.injEq, Addr.mk.injEq] at e
  obtain ⟨⟨rfl, -⟩, -⟩ := e
  rw [hE] at e1 e2
  exact ⟨e1, e2⟩
/-- A space that was forked, in a cell of its own. -/
def ForkedW (x : Fx n) (b : Nat) (A : Nat → Option AF) (k ga : Nat) (X F : Assn) (w : World) (u : Value) (wx : World) : Prop :=
  ∃ (g : Nat) (M : Bst x.σ) (fb : Nat), u = ptV fb ∧ Side w wx ∧ Sat wx (pt fb (.cells #[ptV g, .int .i64 (n : Int)] 26 (0, 0)) * (fsA (x.fork b M) g A k * (X * (pt ga (spO b n) * F))))
set_option maxRecDepth 100000 in
set_option maxHeartbeats 2000000 in
theorem remove_yes (h : Sat w (fsA x b A k * F)) (hf : A id = some (dirF lk L)) (hok : okL L) (hl : L.length ≤ 3840) {i : Nat} (hi : plc L nm = some i) :
    Calls Tryz.prog 9 #[spV b n, .int .i64 (id : Int), .string (str nm)] w (YE x b (upO A id (some (dirF lk (rmE L i)))) (k + needD L.length - needD (L.length - 1)) 0 F w) := by
  refine callsQ fun Q HQ => ?_
  have hL := plc_lt hi
  have hA := h.alloc (spO b n)
  have dA := SL.hid ((Side.refl w).alloc (spO b n))
  have hr := SL.hid (loadT_any hA.front2 hf (dirF_DirF hok hl))
  have hp := plcV_some hi
  obtain ⟨m, hm⟩ : ∃ m, L.length = m := ⟨_, rfl⟩
  have c0 : (w.alloc (spO b n)).cell? ⟨w.heap.size, 0, none⟩ = some (.pointer (some ⟨b, 0, none⟩)) := hA.cell 0
  have HP := SL.hid hp; have HM := SL.hid hm; have HF := SL.hid hf; have HOk := SL.hid hok
  have hl' : (m : Int) ≤ 3840 := by omega
  have hi' : (i : Int) < (m : Int) := by omega
  have HL := SL.hid hl
  clear h hA hf hok hp hm hl hi
  unfold spV
  go_enter Tryz.func9, Tryz.ntmps9
  go_wp2_with fail
  refine hr.out.mono ?_
  generalize w.alloc (spO b n) = w1 at *
  generalize w.heap.size = ga at *
  rintro r w2 ⟨u, rfl, d2, h2⟩
  have hpl := place_any w2 u L nm _ HL.out h2
  unfold PlaceQ at hpl
  rw [HP.out] at hpl
  have Hpl := SL.hid hpl
  obtain ⟨ua, uc, rfl⟩ := sl_shape h2
  rw [HM.out] at Hpl ⊢
  clear hr hpl h2
  go_wp2_with fail
  refine Hpl.out.mono ?_
  rintro r w3 ⟨rfl, h3, d3⟩
  have D3 := SL.hid ((dA.out.trans d2).trans d3)
  have s0 : w3.cell? ⟨ga, 0, none⟩ = some (.pointer (some ⟨b, 0, none⟩)) := h3.front3.cell 0
  have s1 : w3.cell? ⟨ga, 1, none⟩ = some (.int .i64 (n : Int)) := h3.front3.cell 1
  have h3a := h3.alloc (.cells #[.pointer none, .int .i64 0] 26 (0, 0))
  have D3a := SL.hid ((D3.out.alloc (.cells #[.pointer none, .int .i64 0] 26 (0, 0))).drew)
  have hfk := SL.hid (forkS_any (x := x) (b := b) (k := k) (A := A) (w := (w3.alloc (.cells #[.pointer none, .int .i64 0] 26 (0, 0))).drew) (F := pt w3.heap.size (.cells #[.pointer none, .int .i64 0] 26 (0, 0)) * (sl 47 2 (.slice ua m uc) m (flatE L) * (pt ga (spO b n) * F))) (h3a.drew.to (by ac_rfl)))
  have hfk2 := SL.hid (forkS_any (x := x) (b := b) (k := k) (A := A) (w := w3.drew) (F := (sl 47 2 (.slice ua m uc) m (flatE L) * (pt ga (spO b n) * F))) (h3.drew.to (by ac_rfl)))
  have t0 : (w3.alloc (.cells #[.pointer none, .int .i64 0] 26 (0, 0))).cell? ⟨ga, 0, none⟩ = some (.pointer (some ⟨b, 0, none⟩)) := h3a.front4.cell 0
  have t1 : (w3.alloc (.cells #[.pointer none, .int .i64 0] 26 (0, 0))).cell? ⟨ga, 1, none⟩ = some (.int .i64 (n : Int)) := h3a.front4.cell 1
  clear h3 h3a Hpl d3 d2 dA
  go_wp2_with fail
  go_cut [11] from 31 to 36 (fun u wx => ForkedW x b A k ga (sl 47 2 (.slice ua m uc) m (flatE L)) F w u wx)
  case first =>
    go_region_held3 (fun w' => w'.cell? ⟨ga, 0, none⟩ = some (.pointer (some ⟨b, 0, none⟩)) ∧ w'.cell? ⟨ga, 1, none⟩ = some (.int .i64 (n : Int)))
      (first | exact ⟨s0, s1⟩ | exact ⟨t0, t1⟩ | exact k01 | exact k02 | exact k03 | go_keep)
      (first | (go_at_call 28; refine hfk.out.mono ?_; rintro r w4 ⟨g, M, rfl, d4, h4⟩; have k01 : w4.cell? ⟨ga, 0, none⟩ = some (.pointer (some ⟨b, 0, none⟩)) ∧ w4.cell? ⟨ga, 1, none⟩ = some (.int .i64 (n : Int)) := ⟨h4.front4.cell 0, h4.front4.cell 1⟩; have z0 : w4.cell? ⟨w3.heap.size, 0, none⟩ = some (.pointer none) := h4.front2.cell 0; have z1 : w4.cell? ⟨w3.heap.size, 1, none⟩ = some (.int .i64 0) := h4.front2.cell 1; have f0 := h4.front2.frozen 0; have f1 := h4.front2.frozen 1;
                have h5 := ((h4.front2.setCell 0 (ptV g)).setCell 1 (.int .i64 (n : Int))); have k02 : ((w4.setCell ⟨w3.heap.size, 0, none⟩ (ptV g)).setCell ⟨w3.heap.size, 1, none⟩ (.int .i64 (n : Int))).cell? ⟨ga, 0, none⟩ = some (.pointer (some ⟨b, 0, none⟩)) ∧ ((w4.setCell ⟨w3.heap.size, 0, none⟩ (ptV g)).setCell ⟨w3.heap.size, 1, none⟩ (.int .i64 (n : Int))).cell? ⟨ga, 1, none⟩ = some (.int .i64 (n : Int)) := ⟨h5.front4.cell 0, h5.front4.cell 1⟩)
             | (go_at_call 28; refine hfk2.out.mono ?_; rintro r w4 ⟨g, M, rfl, d4, h4⟩; have k01 : w4.cell? ⟨ga, 0, none⟩ = some (.pointer (some ⟨b, 0, none⟩)) ∧ w4.cell? ⟨ga, 1, none⟩ = some (.int .i64 (n : Int)) := ⟨h4.front3.cell 0, h4.front3.cell 1⟩; have h4a := h4.alloc (.cells #[.pointer none, .int .i64 0] 26 (0, 0)); have k02 : (w4.alloc (.cells #[.pointer none, .int .i64 0] 26 (0, 0))).cell? ⟨ga, 0, none⟩ = some (.pointer (some ⟨b, 0, none⟩)) ∧ (w4.alloc (.cells #[.pointer none, .int .i64 0] 26 (0, 0))).cell? ⟨ga, 1, none⟩ = some (.int .i64 (n : Int)) := ⟨h4a.front4.cell 0, h4a.front4.cell 1⟩;
                have h5 := ((h4a.setCell 0 (ptV g)).setCell 1 (.int .i64 (n : Int))); have k03 : (((w4.alloc (.cells #[.pointer none, .int .i64 0] 26 (0, 0))).setCell ⟨w4.heap.size, 0, none⟩ (ptV g)).setCell ⟨w4.heap.size, 1, none⟩ (.int .i64 (n : Int))).cell? ⟨ga, 0, none⟩ = some (.pointer (some ⟨b, 0, none⟩)) ∧ (((w4.alloc (.cells #[.pointer none, .int .i64 0] 26 (0, 0))).setCell ⟨w4.heap.size, 0, none⟩ (ptV g)).setCell ⟨w4.heap.size, 1, none⟩ (.int .i64 (n : Int))).cell? ⟨ga, 1, none⟩ = some (.int .i64 (n : Int)) := ⟨h5.front4.cell 0, h5.front4.cell 1⟩))
    all_goals go_wp2_with fail
    all_goals go_meet
    all_goals first
      | exact ⟨g, M, w4.heap.size, rfl, ((D3.out.drew.trans d4).alloc (.cells #[ptV g, .int .i64 (n : Int)] 26 (0, 0))), (h4.alloc (.cells #[ptV g, .int .i64 (n : Int)] 26 (0, 0))).to (by ac_rfl)⟩
      | exact ⟨g, M, w3.heap.size, rfl, ((D3a.out.trans d4).setCell _ _).setCell _ _, h5.to (by show pt _ (.cells #[ptV g, .int .i64 (n : Int)] 26 (0, 0)) * _ = _; ac_rfl)⟩
  case rest =>
    obtain ⟨g, M, fb, rfl, hside, hsat⟩ := hcut
    clear hfk hfk2 D3 D3a s0 s1 t0 t1 c0
    have q0 : wc.cell? ⟨fb, 0, none⟩ = some (ptV g) := hsat.cell 0
    have q1 : wc.cell? ⟨fb, 1, none⟩ = some (.int .i64 (n : Int)) := hsat.cell 1
    rw [show (m : Int) - 1 = ((m - 1 : Nat) : Int) by omega]
    obtain ⟨q, hq⟩ : ∃ q, m - 1 = q := ⟨_, rfl⟩
    have HM1 : Hid (L.length - 1 = q) := by show _ = _; rw [HM.out, hq]
    have hqm : (q : Int) < (m : Int) := by omega
    have hq2 : q + 1 = m := by omega
    rw [hq]
    by_cases hlast : (i : Int) < (q : Int)
    · have hlast' : i < q := by omega
      have hgl := okL_get HOk.out (i := q) (by have := HM.out; omega)
      obtain ⟨ga2, c, e, e1, e2, k1, k2⟩ := ents_at (L := L) (k := q) ((hsat.front3).to (by rw [HM.out])) (by have := HM.out; omega)
      simp only [Value.slice.injEq] at e
      obtain ⟨rfl, -, rfl⟩ := e
      have k1' : (m : Int) ≤ (uc : Int) := by have := HM.out; omega
      have k2' : (uc : Int) ≤ 9223372036854775807 := by omega
      obtain ⟨E, hE⟩ : ∃ E, L.getD q Ent.no = E := ⟨_, rfl⟩
      have hE2 : L[q]'(by have := HM.out; omega) = E := by rw [← hE, List.getD, List.getElem?_eq_getElem (by have := HM.out; omega)]; rfl
      rw [hE2] at e1 e2
      rw [hE] at hgl
      have hput := putD_set (x := x.fork b M) (b := g) (k := k) (id := id) (A := A) (w := wc.drew) (e := E) (F := sl 47 2 (.slice (some ⟨ga2, 0, none⟩) m uc) m (flatE L) * (pt ga (spO b n) * (pt fb (.cells #[ptV g, .int .i64 (n : Int)] 26 (0, 0)) * F))) hgl HOk.out HL.out HF.out hL (hsat.drew.to (by ac_rfl))
      have HPut := SL.hid hput; have HS := SL.hid hside; have HSat := SL.hid hsat; have HE := SL.hid hE; have HGl := SL.hid hgl
      have HQm := SL.hid hq2
      clear hput hside hsat hE hgl hE2 k1 k2 hq hq2
      go_wp2_with fail
      go_region_held3 (fun w' => w'.cell? ⟨fb, 0, none⟩ = some (ptV g) ∧ w'.cell? ⟨fb, 1, none⟩ = some (.int .i64 (n : Int)) ∧ w'.cell? ⟨ga2, q * 2, none⟩ = some (.int .i64 (E.nd : Int)) ∧ w'.cell? ⟨ga2, q * 2 + 1, none⟩ = some (.string (str E.nm)))
        (first | exact ⟨q0, q1, e1, e2⟩ | exact k01 | go_keep)
        (first | (go_at_call 29; refine HPut.out.mono ?_; rintro r w4 ⟨rfl, d4, h4⟩; have k01 : w4.cell? ⟨fb, 0, none⟩ = some (ptV g) ∧ w4.cell? ⟨fb, 1, none⟩ = some (.int .i64 (n : Int)) ∧ w4.cell? ⟨ga2, q * 2, none⟩ = some (.int .i64 (E.nd : Int)) ∧ w4.cell? ⟨ga2, q * 2 + 1, none⟩ = some (.string (str E.nm)) := ⟨h4.front4.cell 0, h4.front4.cell 1, keepE1 h4.front2 HM.out (by have := HM.out; omega) (by rw [← HE.out, List.getD, List.getElem?_eq_getElem (by have := HM.out; omega)]; rfl)⟩))
      rename_i hHeld
      clear hHeld
      have D4 := SL.hid (HS.out.drew.trans d4)
      have q0 : w4.cell? ⟨fb, 0, none⟩ = some (ptV g) := k01.1
      have q1 : w4.cell? ⟨fb, 1, none⟩ = some (.int .i64 (n : Int)) := k01.2.1
      have h4 := h4.to (by ac_rfl : _ = fsA (x.fork b M) g (upO A id (some (dirF lk (L.set i E)))) k * (pt fb (.cells #[ptV g, .int .i64 (n : Int)] 26 (0, 0)) * (pt ga (spO b n) * (sl 47 2 (.slice (some ⟨ga2, 0, none⟩) m uc) m (flatE L) * F))))
      have hlen : (L.set i E).length = L.length := List.length_set
      have HA1 : Hid (q ≤ (L.set i E).length) := by show q ≤ (L.set i E).length; rw [hlen, HM.out]; omega
      have HB1 : Hid ((L.set i E).length ≤ 3840) := by show (L.set i E).length ≤ 3840; rw [hlen]; exact HL.out
      have HC1 : Hid ((rmE L i).length ≤ 3840) := by show (rmE L i).length ≤ 3840; rw [rmE_length]; have := HL.out; omega
      have htake : (L.set i E).take q = rmE L i := by unfold rmE; rw [HM1.out, HE.out]
      clear k01 d4 HSat HPut
      have T0 := SL.hid (y_trunc (x := x.fork b M) (b := g) (k := k) (id := id) (A := (upO A id (some (dirF lk (L.set i E))))) (w := w4) h4 (if_pos rfl) (32 * q) (by omega))
      rw [dirF_cut (okL_set HOk.out HGl.out i) HA1.out, htake, dirF_need HB1.out, dirF_need HC1.out, rmE_length, hlen, HM.out, upO_up] at T0
      rw [show ((32 * q : Nat) : Int) = (q : Int) * 32 by omega] at T0
      go_wp2_with fail
      refine T0.out.mono ?_
      rintro r w5 ⟨rfl, d5, h5⟩
      clear T0
      have v0 : w5.cell? ⟨fb, 0, none⟩ = some (ptV g) := h5.front2.cell 0
      have v1 : w5.cell? ⟨ga, 0, none⟩ = some (.pointer (some ⟨b, 0, none⟩)) := h5.front3.cell 0
      have J0 := SL.hid (joinS_any h5)
      have D5 := SL.hid (D4.out.trans d5)
      clear d5
      go_wp2_with fail
      refine J0.out.mono ?_
      rintro r w6 ⟨rfl, d6, h6⟩
      have H6 := SL.hid ((h6.to (by ac_rfl : _ = (pt fb (.cells #[ptV g, .int .i64 (n : Int)] 26 (0, 0)) * (pt ga (spO b n) * (sl 47 2 (.slice (some ⟨ga2, 0, none⟩) m uc) m (flatE L)))) * (fsA x b (upO A id (some (dirF lk (rmE L i)))) (k + needD m - needD (m - 1)) * F))).right)
      have D6 := SL.hid (D5.out.trans d6)
      clear h5 h6 J0 d6 v0 v1
      go_wp2_with fail
      exact HQ.out _ _ ⟨by simp, D6.out, by have := H6.out; rw [← HM.out] at this; exact this⟩
    · obtain rfl : i = q := by omega
      have h4 := hsat.to (by ac_rfl : _ = fsA (x.fork b M) g A k * (pt fb (.cells #[ptV g, .int .i64 (n : Int)] 26 (0, 0)) * (pt ga (spO b n) * (sl 47 2 (.slice ua m uc) m (flatE L) * F))))
      have HA1 : Hid (i ≤ L.length) := by show i ≤ L.length; rw [HM.out]; omega
      have HB1 : Hid (L.length ≤ 3840) := HL.out
      have HC1 : Hid ((rmE L i).length ≤ 3840) := by show (rmE L i).length ≤ 3840; rw [rmE_length]; have := HL.out; omega
      have htake : L.take i = rmE L i := by rw [← HM1.out, rmE_last]
      have D4 := SL.hid hside
      have HQm := SL.hid hq2
      clear hsat hside hq hq2
      go_wp2_with fail
      have T0 := SL.hid (y_trunc (x := x.fork b M) (b := g) (k := k) (id := id) (A := A) (w := wc) h4 HF.out (32 * i) (by omega))
      rw [dirF_cut HOk.out HA1.out, htake, dirF_need HB1.out, dirF_need HC1.out, rmE_length, HM.out] at T0
      rw [show ((32 * i : Nat) : Int) = (i : Int) * 32 by omega] at T0
      go_wp2_with fail
      refine T0.out.mono ?_
      rintro r w5 ⟨rfl, d5, h5⟩
      clear T0
      have v0 : w5.cell? ⟨fb, 0, none⟩ = some (ptV g) := h5.front2.cell 0
      have v1 : w5.cell? ⟨ga, 0, none⟩ = some (.pointer (some ⟨b, 0, none⟩)) := h5.front3.cell 0
      have J0 := SL.hid (joinS_any h5)
      have D5 := SL.hid (D4.out.trans d5)
      clear d5
      go_wp2_with fail
      refine J0.out.mono ?_
      rintro r w6 ⟨rfl, d6, h6⟩
      have H6 := SL.hid ((h6.to (by ac_rfl : _ = (pt fb (.cells #[ptV g, .int .i64 (n : Int)] 26 (0, 0)) * (pt ga (spO b n) * (sl 47 2 (.slice ua m uc) m (flatE L)))) * (fsA x b (upO A id (some (dirF lk (rmE L i)))) (k + needD m - needD (m - 1)) * F))).right)
      have D6 := SL.hid (D5.out.trans d6)
      clear h5 h6 J0 d6 v0 v1
      go_wp2_with fail
      exact HQ.out _ _ ⟨by simp, D6.out, by have := H6.out; rw [← HM.out] at this; exact this⟩
end
end Go.Proofs.YtaoohjeaaccnfaaGreat.Fs

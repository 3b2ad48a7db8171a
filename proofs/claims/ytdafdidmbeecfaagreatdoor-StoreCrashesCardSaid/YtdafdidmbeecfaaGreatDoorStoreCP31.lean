/- Steps towards the statement StoreC. -/
import Derived.Test.YtdafdidmbeecfaaGreatDoorStoreCP30
section
namespace Go.SL
set_option linter.unusedVariables false
set_option linter.unusedSimpArgs false
theorem rfold_one {sq c : Int} (hc : 0 < c) : ∀ (L : List Fnd), (∀ x ∈ L, x.1.sq = sq → x.1.ct = c) → ∀ s, (s = 0 ∨ s = c) →
  (L.foldl (rstep sq) (some s) = some s ∧ (∀ x ∈ L, x.1.sq ≠ sq)) ∨ L.foldl (rstep sq) (some s) = some c
 | [], _, s, _ => .inl ⟨rfl, by simp⟩
 | x :: L, h, s, hs => by
  rw [List.foldl_cons]
  have hL : ∀ y ∈ L, y.1.sq = sq → y.1.ct = c := fun y hy => h y (by simp [hy])
  by_cases hx : x.1.sq = sq
  ·have hxc := h x (by simp) hx
   have e : rstep sq (some s) x = some c := by
    unfold rstep; simp only [hx, if_true, hxc]
    rw [if_neg]; omega
   rw [e]
   rcases rfold_one hc L hL c (.inr rfl) with h1 | h1
   ·exact .inr h1.1
   ·exact .inr h1
  ·have e : rstep sq (some s) x = some s := by unfold rstep; simp only [hx, if_false]
   rw [e]
   rcases rfold_one hc L hL s hs with h1 | h1
   ·exact .inl ⟨h1.1, fun y hy => by
     rcases List.mem_cons.1 hy with rfl | hy
     ·exact hx
     ·exact h1.2 y hy⟩
   ·exact .inr h1
theorem hasIx_iff {L : List Fnd} {sq k : Int} : hasIx L sq k = true ↔ ∃ x ∈ L, x.1.sq = sq ∧ x.1.ix = k := by
 unfold hasIx; simp [List.any_eq_true]
theorem wholeR_yes {L : List Fnd} {sq c : Int} (hc : 0 < c) (h : ∀ x ∈ L, x.1.sq = sq → x.1.ct = c) (hall : ∀ k : Nat, (k : Int) < c → ∃ x ∈ L, x.1.sq = sq ∧ x.1.ix = (k : Int)) : wholeR L sq = true := by
 have h1 := rfold_one hc L h 0 (.inl rfl)
 have h2 : L.foldl (rstep sq) (some 0) = some c := by
  rcases h1 with h1 | h1
  ·obtain ⟨x, hx, h3, _⟩ := hall 0 (by simpa using hc)
   exact absurd h3 (h1.2 x hx)
  ·exact h1
 unfold wholeR
 rw [h2]
 have h3 : ((List.range c.toNat).all fun k : Nat => hasIx L sq (k : Int)) = true := List.all_eq_true.2 fun k hk => hasIx_iff.2 (hall k (by have := List.mem_range.1 hk; omega))
 show (((List.range c.toNat).all fun k : Nat => hasIx L sq (k : Int)) && decide (0 < c)) = true
 rw [h3]; simp [hc]
theorem wholeR_not {L : List Fnd} {sq c k : Int} (h0 : 0 ≤ k) (hk : k < c) (h : ∀ x ∈ L, x.1.sq = sq → x.1.ct = c ∧ x.1.ix ≠ k) : wholeR L sq = false := by
 have h1 := rfold_one (c := c) (by omega) L (fun x hx hs => (h x hx hs).1) 0 (.inl rfl)
 unfold wholeR
 rcases h1 with h1 | h1
 ·rw [h1.1]; simp
 ·rw [h1]
  have hno : hasIx L sq ((k.toNat : Nat) : Int) = false := by
   cases hb : hasIx L sq ((k.toNat : Nat) : Int) with
   | false => rfl
   | true =>
    obtain ⟨x, hx, h2, h3⟩ := hasIx_iff.1 hb
    exact absurd (by rw [h3]; omega) (h x hx h2).2
  have h3 : ((List.range c.toNat).all fun k : Nat => hasIx L sq (k : Int)) = false := List.all_eq_false.2 ⟨k.toNat, List.mem_range.2 (by omega), by rw [hno]; decide⟩
  show (((List.range c.toNat).all fun k : Nat => hasIx L sq (k : Int)) && decide (0 < c)) = false
  rw [h3]; rfl
theorem afold_other {id sq : Int} : ∀ (L : List Fnd) (s : Int × Int), (∀ y ∈ L, y.1.id = id → y.1.sq ≤ sq → y.1.sq ≤ s.2) → L.foldl (astep id sq) s = s
 | [], s, _ => rfl
 | x :: L, s, h => by
  rw [List.foldl_cons]
  have e : astep id sq s x = s := by
   unfold astep
   rw [if_neg]
   intro ⟨h1, h2, h3⟩
   have := h x (by simp) h1 h2
   omega
  rw [e]
  exact afold_other L s fun y hy => h y (by simp [hy])
theorem afold_max {id sq : Int} {x : Fnd} (hid : x.1.id = id) (hsq : x.1.sq ≤ sq) : ∀ (L : List Fnd) (s : Int × Int), x ∈ L → s.2 < x.1.sq → (∀ y ∈ L, y.1.id = id → y.1.sq ≤ sq → y = x ∨ y.1.sq < x.1.sq) → (L.foldl (astep id sq) s).1 = (x.2 : Int)
 | [], s, hx, _, _ => by cases hx
 | z :: L, s, hx, hs, h => by
  rw [List.foldl_cons]
  have hL : ∀ y ∈ L, y.1.id = id → y.1.sq ≤ sq → y = x ∨ y.1.sq < x.1.sq := fun y hy => h y (by simp [hy])
  by_cases hz : z = x
  ·subst hz
   have e : astep id sq s z = ((z.2 : Int), z.1.sq) := by unfold astep; rw [if_pos ⟨hid, hsq, hs⟩]
   rw [e, afold_other L _ fun y hy h1 h2 => by
    rcases hL y hy h1 h2 with rfl | h3
    ·exact Int.le_refl _
    ·exact Int.le_of_lt h3]
  ·have hx' : x ∈ L := by
    rcases List.mem_cons.1 hx with h1 | h1
    ·exact absurd h1.symm hz
    ·exact h1
   refine afold_max hid hsq L _ hx' ?_ hL
   unfold astep
   split
   ·rename_i h1
    rcases h z (by simp) h1.1 h1.2.1 with h2 | h2
    ·exact absurd h2 hz
    ·exact h2
   ·exact hs
theorem hfold {sq h : Int} {P : Nat} : ∀ (L : List Fnd) (s : Int × Int), (∀ x ∈ L, x.1.sq = sq → ((x.2 : Int) + (x.1.ct - x.1.ix)) % (P : Int) = h ∧ 0 ≤ x.1.ix) → (s.1 = h ∨ (s.2 = -1 ∧ ∃ x ∈ L, x.1.sq = sq)) → (L.foldl (hstep sq P) s).1 = h
 | [], s, _, hs => by
  rcases hs with h | ⟨_, x, hx, _⟩
  ·exact h
  ·cases hx
 | x :: L, s, hL, hs => by
  rw [List.foldl_cons]
  have hL' : ∀ y ∈ L, y.1.sq = sq → ((y.2 : Int) + (y.1.ct - y.1.ix)) % (P : Int) = h ∧ 0 ≤ y.1.ix := fun y hy => hL y (by simp [hy])
  refine hfold L _ hL' ?_
  unfold hstep
  by_cases hc : x.1.sq = sq ∧ s.2 < x.1.ix
  ·rw [if_pos hc]; exact .inl (hL x (by simp) hc.1).1
  ·rw [if_neg hc]
   rcases hs with h1 | ⟨h1, y, hy, h2⟩
   ·exact .inl h1
   ·rcases List.mem_cons.1 hy with rfl | hy
    ·exact absurd ⟨h2, by have := (hL y (by simp) h2).2; omega⟩ hc
    ·exact .inr ⟨h1, y, hy, h2⟩
theorem headI_none {sq : Int} {P : Nat} {L : List Fnd} (h : ∀ x ∈ L, x.1.sq ≠ sq) : headI L sq P = 0 := by
 unfold headI
 have : ∀ s, L.foldl (hstep sq P) s = s := by
  intro s
  induction L with
  | nil => rfl
  | cons x L ih =>
   rw [List.foldl_cons]
   have e : hstep sq P s x = s := by unfold hstep; rw [if_neg]; intro hc; exact h x (by simp) hc.1
   rw [e]; exact ih fun y hy => h y (by simp [hy])
 rw [this]
theorem foldmax_le {α : Type} (f : α → Int) {M : Int} : ∀ (L : List α) (a : Int), a ≤ M → (∀ x ∈ L, f x ≤ M) → L.foldl (fun m x => max m (f x)) a ≤ M
 | [], a, h, _ => h
 | x :: L, a, h, hL => by
  rw [List.foldl_cons]
  exact foldmax_le f L _ (by have := hL x (by simp); omega) fun y hy => hL y (by simp [hy])
theorem le_foldmax {α : Type} (f : α → Int) : ∀ (L : List α) (a : Int), a ≤ L.foldl (fun m x => max m (f x)) a ∧ ∀ x ∈ L, f x ≤ L.foldl (fun m x => max m (f x)) a
 | [], a => ⟨Int.le_refl _, by simp⟩
 | x :: L, a => by
  rw [List.foldl_cons]
  have h := le_foldmax f L (max a (f x))
  refine ⟨by omega, fun y hy => ?_⟩
  rcases List.mem_cons.1 hy with rfl | hy
  ·omega
  ·exact h.2 y hy
abbrev TM := Nat → Option Tg
structure Com (P : Nat) (T : TM) (q : Int) (at_ : Int → Option Nat) (p : Nat) (t : Tg) : Prop where
 sq : t.sq ≤ q
 fresh : ∀ p' t', p' < P → T p' = some t' → t.ep < t'.ep → t.sq < t'.st
 live : ∃ p' t', at_ t.id = some p' ∧ T p' = some t' ∧ (p' = p ∨ t.sq < t'.sq)
structure Gar (n P : Nat) (T : TM) (q : Int) (h p : Nat) (t : Tg) : Prop where
 off : (p + P - h) % P < n
 wit : t.sq = q + 1 ∨ ∃ pw tw, pw < P ∧ T pw = some tw ∧ t.ep < tw.ep ∧ tw.st ≤ t.sq ∧ (p + P - pw) % P < n ∧ (p + P - h) % P < (p + P - pw) % P
structure Lst (P : Nat) (T : TM) (q : Int) (h : Nat) (at_ : Int → Option Nat) (c : Nat) : Prop where
 all : ∀ i : Nat, i < c → ∃ t, T ((h + P - c + i) % P) = some t ∧ t.sq = q ∧ t.ix = (i : Int) ∧ t.ct = (c : Int) ∧ Com P T q at_ ((h + P - c + i) % P) t
 one : ∀ p t, p < P → T p = some t → Com P T q at_ p t → t.sq = q → ∃ i : Nat, i < c ∧ p = (h + P - c + i) % P
structure Truth (n P : Nat) (T : TM) (q : Int) (h : Nat) (at_ : Int → Option Nat) : Prop where
 hP : h < P
 nP : n ≤ P
 q0 : 0 ≤ q
 h0 : q = 0 → h = 0
 tag : ∀ p t, p < P → T p = some t → t.ok = true ∧ t.fl = t.sq - 1 ∧ t.sq ≤ q + 1 ∧ t.id < n
 cg : ∀ p t, p < P → T p = some t → Com P T q at_ p t ∨ Gar n P T q h p t
 live : ∀ id p, at_ id = some p → p < P ∧ 0 ≤ id ∧ id < n ∧ ∃ t, T p = some t ∧ t.id = id ∧ Com P T q at_ p t
 last : 0 < q → ∃ c : Nat, 0 < c ∧ c ≤ n ∧ Lst P T q h at_ c
 nw : ∀ e : Int, ∃ c k : Int, 0 ≤ k ∧ k < c ∧ ∀ p t, p < P → T p = some t → t.ep = e → t.sq = q + 1 → t.ct = c ∧ t.ix ≠ k
end Go.SL
namespace Go.Proofs.YtdafdidmbeecfaaGreatDoor
set_option linter.unusedVariables false
set_option linter.unusedSimpArgs false
open Go.SL
structure Lays (P : Nat) (T : TM) (L : List Fnd) : Prop where
 iff : ∀ t p, (t, p) ∈ L ↔ p < P ∧ T p = some t
section
variable {n P : Nat} {T : TM} {q : Int} {h : Nat} {at_ : Int → Option Nat} {L : List Fnd}
theorem stale_iff {L : List Fnd} {t : Tg} : staleB L t = true ↔ ∃ x ∈ L, t.ep < x.1.ep ∧ x.1.st ≤ t.sq := by
 unfold staleB; simp [List.any_eq_true]
theorem fresh_mem (hT : Truth n P T q h at_) (hL : Lays P T L) (x : Fnd) : x ∈ freshL L ↔ x ∈ L ∧ ¬ ∃ y ∈ L, x.1.ep < y.1.ep ∧ y.1.st ≤ x.1.sq := by
 rw [freshL_eq L fun y hy => by
  have := (hL.iff y.1 y.2).1 hy
  have := ok_range (hT.tag _ _ this.1 this.2).1
  unfold u64max; omega]
 rw [List.mem_filter]
 refine and_congr_right fun _ => ?_
 rw [← stale_iff]
 cases staleB L x.1 <;> simp
theorem com_fresh (hT : Truth n P T q h at_) (hL : Lays P T L) {p : Nat} {t : Tg} (hp : p < P) (h1 : T p = some t) (hc : Com P T q at_ p t) : (t, p) ∈ freshL L := by
 rw [fresh_mem hT hL]
 refine ⟨(hL.iff t p).2 ⟨hp, h1⟩, fun ⟨y, hy, h2, h3⟩ => ?_⟩
 have h4 := (hL.iff y.1 y.2).1 hy
 exact absurd h3 (Int.not_le.2 (hc.fresh _ _ h4.1 h4.2 h2))
theorem fresh_com (hT : Truth n P T q h at_) (hL : Lays P T L) {x : Fnd} (hx : x ∈ freshL L) (hq : x.1.sq ≤ q) : Com P T q at_ x.2 x.1 := by
 obtain ⟨h1, h2⟩ := (fresh_mem hT hL x).1 hx
 have h3 := (hL.iff x.1 x.2).1 h1
 rcases hT.cg _ _ h3.1 h3.2 with h4 | h4
 ·exact h4
 ·rcases h4.wit with h5 | ⟨pw, tw, h5, h6, h7, h8, _⟩
  ·omega
  ·exact absurd ⟨(tw, pw), (hL.iff tw pw).2 ⟨h5, h6⟩, h7, h8⟩ h2
theorem freshT_ok (hT : Truth n P T q h at_) (hL : Lays P T L) {x : Fnd} (hx : x ∈ freshL L) : x.2 < P ∧ T x.2 = some x.1 ∧ x.1.ok = true ∧ x.1.fl = x.1.sq - 1 ∧ x.1.sq ≤ q + 1 ∧ x.1.id < n := by
 obtain ⟨h1, h2⟩ := (fresh_mem hT hL x).1 hx
 have h3 := (hL.iff x.1 x.2).1 h1
 exact ⟨h3.1, h3.2, hT.tag _ _ h3.1 h3.2⟩
theorem truth_whole (hT : Truth n P T q h at_) (hL : Lays P T L) (h0 : 0 < q) : wholeB (freshL L) q = true := by
 obtain ⟨c, hc, hcn, hl⟩ := hT.last h0
 rw [whole_eq _ _ fun x hx => (freshT_ok hT hL hx).2.2.1]
 have hP : 0 < P := by have := hT.hP; omega
 refine wholeR_yes (c := (c : Int)) (by omega) (fun x hx hs => ?_) fun k hk => ?_
 ·obtain ⟨h1, h2, _⟩ := freshT_ok hT hL hx
  obtain ⟨i, hi, hp⟩ := hl.one _ _ h1 h2 (fresh_com hT hL hx (by omega)) hs
  obtain ⟨t, h3, h4, h5, h6, h7⟩ := hl.all i hi
  rw [← hp, h2] at h3
  obtain rfl : x.1 = t := by simpa using h3
  exact h6
 ·obtain ⟨t, h3, h4, h5, h6, h7⟩ := hl.all k (by omega)
  exact ⟨(t, _), com_fresh hT hL (Nat.mod_lt _ hP) h3 h7, h4, h5⟩
theorem truth_not (hT : Truth n P T q h at_) (hL : Lays P T L) : wholeB (freshL L) (q + 1) = false := by
 rw [whole_eq _ _ fun x hx => (freshT_ok hT hL hx).2.2.1]
 by_cases he : ∃ x ∈ freshL L, x.1.sq = q + 1
 ·obtain ⟨x, hx, hs⟩ := he
  obtain ⟨c, k, h1, h2, h3⟩ := hT.nw x.1.ep
  refine wholeR_not h1 h2 fun y hy hys => ?_
  obtain ⟨a1, a2, a3, _⟩ := freshT_ok hT hL hx
  obtain ⟨b1, b2, b3, _⟩ := freshT_ok hT hL hy
  have hxe := ok_range a3
  have hye := ok_range b3
  have hxm := (fresh_mem hT hL x).1 hx
  have hym := (fresh_mem hT hL y).1 hy
  have e : y.1.ep = x.1.ep := by
   by_cases g1 : y.1.ep < x.1.ep
   ·exact absurd ⟨x, hxm.1, g1, by omega⟩ hym.2
   ·by_cases g2 : x.1.ep < y.1.ep
    ·exact absurd ⟨y, hym.1, g2, by omega⟩ hxm.2
    ·omega
  exact h3 _ _ b1 b2 e hys
 ·refine wholeR_not (c := 1) (k := 0) (by omega) (by omega) fun x hx hs => absurd ⟨x, hx, hs⟩ he
theorem truth_sq (hT : Truth n P T q h at_) (hL : Lays P T L) : sqI L = q := by
 have hle : flrI L ≤ q := foldmax_le (fun x : Fnd => x.1.fl) L 0 hT.q0 fun x hx => by
  have h1 := (hL.iff x.1 x.2).1 hx
  have := hT.tag _ _ h1.1 h1.2
  omega
 have hge := le_foldmax (fun x : Fnd => x.1.fl) L 0
 have hge0 : 0 ≤ flrI L := hge.1
 have hge1 : q - 1 ≤ flrI L := by
  by_cases h0 : 0 < q
  ·obtain ⟨c, hc, hcn, hl⟩ := hT.last h0
   obtain ⟨t, h3, h4, h5, h6, h7⟩ := hl.all 0 hc
   have hP : 0 < P := by have := hT.hP; omega
   have hm := (hL.iff t _).2 ⟨Nat.mod_lt _ hP, h3⟩
   have h8 := hge.2 _ hm
   have h9 := hT.tag _ _ (Nat.mod_lt _ hP) h3
   have h10 : t.fl ≤ flrI L := h8
   omega
  ·omega
 unfold sqI
 by_cases he : flrI L = q
 ·rw [he, truth_not hT hL]; simp
 ·have e : flrI L + 1 = q := by omega
  rw [e, truth_whole hT hL (by omega)]; simp
theorem truth_at (hT : Truth n P T q h at_) (hL : Lays P T L) {k : Nat} (hk : k < n) : (whereL (freshL L) q n).getD k 0 = match at_ (k : Int) with | some p => (p : Int) | none => -1 := by
 rw [whereL_get _ _ _ _ hk fun x hx => (ok_range (freshT_ok hT hL hx).2.2.1).2.2.2.2.2.2.2.2.2.1]
 unfold atR
 cases ha : at_ (k : Int) with
 | none =>
  simp only
  rw [afold_other]
  intro y hy h1 h2
  obtain ⟨p', t', h3, _⟩ := (fresh_com hT hL hy h2).live
  rw [h1, ha] at h3; cases h3
 | some p =>
  simp only
  obtain ⟨h1, h2, h3, t, h4, h5, h6⟩ := hT.live _ _ ha
  have hm := com_fresh hT hL h1 h4 h6
  refine afold_max (x := (t, p)) h5 h6.sq (freshL L) _ hm ?_ fun y hy h7 h8 => ?_
  ·have := ok_range (hT.tag _ _ h1 h4).1
   show (0 : Int) < t.sq
   omega
  ·obtain ⟨p', t', g1, g2, g3⟩ := (fresh_com hT hL hy h8).live
   rw [h7, ha] at g1
   obtain rfl : p = p' := by simpa using g1
   rw [h4] at g2
   obtain rfl : t = t' := by simpa using g2
   rcases g3 with g3 | g3
   ·left
    obtain ⟨b1, b2, _⟩ := freshT_ok hT hL hy
    rw [← g3, h4] at b2
    obtain rfl : t = y.1 := by simpa using b2
    exact Prod.ext rfl g3.symm
   ·exact .inr g3
theorem mod_back {P h c i : Nat} (hP : h < P) (hc : c ≤ P) (hi : i < c) : ((((h + P - c + i) % P : Nat) : Int) + ((c : Int) - (i : Int))) % (P : Int) = (h : Int) := by
 have e : (((h + P - c + i) % P : Nat) : Int) + ((c : Int) - (i : Int)) = (((h + P - c + i) % P + (c - i) : Nat) : Int) := by omega
 rw [e, ← Int.natCast_emod]
 congr 1
 rw [Nat.mod_add_mod]
 have e2 : h + P - c + i + (c - i) = h + P := by omega
 rw [e2, Nat.add_mod_right, Nat.mod_eq_of_lt hP]
theorem truth_head (hT : Truth n P T q h at_) (hL : Lays P T L) : headI (freshL L) q P = (h : Int) := by
 by_cases h0 : 0 < q
 ·obtain ⟨c, hc, hcn, hl⟩ := hT.last h0
  have hP := hT.hP
  have hn := hT.nP
  refine hfold (freshL L) (0, -1) (fun x hx hs => ?_) (.inr ⟨rfl, ?_⟩)
  ·obtain ⟨h1, h2, _⟩ := freshT_ok hT hL hx
   obtain ⟨i, hi, hp⟩ := hl.one _ _ h1 h2 (fresh_com hT hL hx (by omega)) hs
   obtain ⟨t, h3, h4, h5, h6, h7⟩ := hl.all i hi
   rw [← hp, h2] at h3
   obtain rfl : x.1 = t := by simpa using h3
   rw [h5, h6, hp]
   exact ⟨mod_back hP (by omega) hi, by omega⟩
  ·obtain ⟨t, h3, h4, h5, h6, h7⟩ := hl.all 0 hc
   exact ⟨(t, _), com_fresh hT hL (Nat.mod_lt _ (by omega)) h3 h7, h4⟩
 ·have hq := hT.q0
  have e : q = 0 := by omega
  rw [headI_none fun x hx => by have := ok_range (freshT_ok hT hL hx).2.2.1; omega, hT.h0 e]; rfl
end
end Go.Proofs.YtdafdidmbeecfaaGreatDoor
namespace Go.SL
set_option linter.unusedVariables false
set_option linter.unusedSimpArgs false
theorem sub_modP {a b P : Nat} (ha : a < P) (hb : b < P) : (a + P - b) % P = if b ≤ a then a - b else a + P - b := by
 split
 ·have e : a + P - b = (a - b) + P := by omega
  rw [e, Nat.add_mod_right, Nat.mod_eq_of_lt (by omega)]
 ·exact Nat.mod_eq_of_lt (by omega)
theorem add_modP {h i P : Nat} (hh : h < P) (hi : i ≤ P) : (h + i) % P = if h + i < P then h + i else h + i - P := by
 split
 ·exact Nat.mod_eq_of_lt ‹_›
 ·rw [Nat.mod_eq_sub_mod (by omega), Nat.mod_eq_of_lt (by omega)]
structure Run (n P : Nat) (T : TM) (q : Int) (h : Nat) (at_ : Int → Option Nat) (E S : Int) : Prop where
 tr : Truth n P T q h at_
 ep : ∀ p t, p < P → T p = some t → t.ep ≤ E ∧ (t.ep = E → t.st = S ∧ Com P T q at_ p t)
 st : ∀ p t, p < P → T p = some t → Com P T q at_ p t → t.ep < E → t.sq < S
 S1 : S ≤ q + 1
theorem Truth.run {n P : Nat} {T : TM} {q : Int} {h : Nat} {at_ : Int → Option Nat} (hT : Truth n P T q h at_) {E : Int} (hE : ∀ p t, p < P → T p = some t → t.ep < E) : Run n P T q h at_ E (q + 1) :=
 ⟨hT, fun p t hp ht => ⟨Int.le_of_lt (hE p t hp ht), fun e => absurd (hE p t hp ht) (by omega)⟩, fun p t hp ht hc _ => by have := hc.sq; omega, Int.le_refl _⟩
structure Tgs (n P : Nat) (q : Int) (h : Nat) (at_ : Int → Option Nat) (E S : Int) (k : Nat) (A : Nat → Tg) : Prop where
 k0 : 0 < k
 kn : k ≤ n
 nP : 2 * n ≤ P
 ok : ∀ i, i < k → (A i).ok = true ∧ (A i).ep = E ∧ (A i).st = S ∧ (A i).sq = q + 1 ∧ (A i).fl = q ∧ (A i).ix = (i : Int) ∧ (A i).ct = (k : Int) ∧ (A i).id < n
 free : ∀ id p, at_ id = some p → ∀ i, i < k → p ≠ (h + i) % P
section
variable {n P : Nat} {T T' : TM} {q : Int} {h k : Nat} {at_ at' : Int → Option Nat} {E S : Int} {A : Nat → Tg}
structure Part (P : Nat) (T T' : TM) (h k : Nat) (A : Nat → Tg) : Prop where
 new : ∀ i, i < k → T' ((h + i) % P) = some (A i) ∨ T' ((h + i) % P) = T ((h + i) % P) ∨ T' ((h + i) % P) = none
 old : ∀ p, p < P → (∀ i, i < k → p ≠ (h + i) % P) → T' p = T p
theorem Part.tells (hp : Part P T T' h k A) {p : Nat} (h1 : p < P) {t : Tg} (h2 : T' p = some t) : T p = some t ∨ ∃ i, i < k ∧ p = (h + i) % P ∧ t = A i := by
 by_cases hi : ∃ i, i < k ∧ p = (h + i) % P
 ·obtain ⟨i, hi, rfl⟩ := hi
  rcases hp.new i hi with h3 | h3 | h3
  ·rw [h2] at h3
   exact .inr ⟨i, hi, rfl, by simpa using h3⟩
  ·exact .inl (h3 ▸ h2)
  ·rw [h2] at h3; cases h3
 ·exact .inl (by rw [← hp.old p h1 fun i hk e => hi ⟨i, hk, e⟩]; exact h2)
theorem live_old (hg : Tgs n P q h at_ E S k A) (hT : Truth n P T q h at_) (hp : Part P T T' h k A) {id : Int} {p : Nat} (ha : at_ id = some p) : T' p = T p :=
 hp.old p (hT.live _ _ ha).1 fun i hi => hg.free _ _ ha i hi
theorem com_fresh' (hg : Tgs n P q h at_ E S k A) (hR : Run n P T q h at_ E S) (hp : Part P T T' h k A) {p : Nat} {t : Tg} (h1 : p < P) (h2 : T p = some t) (hc : Com P T q at_ p t) :
  ∀ p' t', p' < P → T' p' = some t' → t.ep < t'.ep → t.sq < t'.st := by
 intro p' t' h3 h4 h5
 rcases hp.tells h3 h4 with h6 | ⟨i, hi, _, rfl⟩
 ·exact hc.fresh _ _ h3 h6 h5
 ·obtain ⟨_, e1, e2, _⟩ := hg.ok i hi
  rw [e2]
  exact hR.st _ _ h1 h2 hc (by omega)
theorem wit_old (hg : Tgs n P q h at_ E S k A) (hP : h < P) (hp : Part P T T' h k A) {p pw : Nat} (h1 : p < P) (h2 : pw < P) (h3 : (p + P - pw) % P < n) (h4 : (p + P - h) % P < (p + P - pw) % P) : T' pw = T pw := by
 refine hp.old pw h2 fun i hi e => ?_
 have := hg.nP; have := hg.kn
 rw [add_modP hP (by omega)] at e
 rw [sub_modP h1 h2] at h3 h4
 rw [sub_modP h1 hP] at h4
 split at e <;> split at h3 <;> split at h4 <;> omega
theorem truth_part (hg : Tgs n P q h at_ E S k A) (hR : Run n P T q h at_ E S) (hp : Part P T T' h k A) {i0 : Nat} (hi0 : i0 < k) (hm : T' ((h + i0) % P) ≠ some (A i0)) : Truth n P T' q h at_ := by
 have hT := hR.tr
 have hP := hT.hP
 have hk0 := hg.k0; have hkn := hg.kn; have hnP := hg.nP
 have hcom : ∀ p t, p < P → T p = some t → T' p = some t → Com P T q at_ p t → Com P T' q at_ p t := by
  intro p t h1 h2 h3 hc
  refine ⟨hc.sq, com_fresh' hg hR hp h1 h2 hc, ?_⟩
  obtain ⟨p', t', h4, h5, h6⟩ := hc.live
  exact ⟨p', t', h4, by rw [live_old hg hT hp h4]; exact h5, h6⟩
 have hlive : ∀ id p, at_ id = some p → p < P ∧ 0 ≤ id ∧ id < n ∧ ∃ t, T' p = some t ∧ t.id = id ∧ Com P T' q at_ p t := by
  intro id p ha
  obtain ⟨h1, h2, h3, t, h4, h5, h6⟩ := hT.live _ _ ha
  have h7 : T' p = some t := by rw [live_old hg hT hp ha]; exact h4
  exact ⟨h1, h2, h3, t, h7, h5, hcom _ _ h1 h4 h7 h6⟩
 refine ⟨hP, hT.nP, hT.q0, hT.h0, ?_, ?_, hlive, ?_, ?_⟩
 ·intro p t h1 h2
  rcases hp.tells h1 h2 with h3 | ⟨i, hi, _, rfl⟩
  ·exact hT.tag _ _ h1 h3
  ·obtain ⟨a, b, c, d, e, f, g, j⟩ := hg.ok i hi
   exact ⟨a, by omega, by omega, j⟩
 ·intro p t h1 h2
  rcases hp.tells h1 h2 with h3 | ⟨i, hi, e, rfl⟩
  ·rcases hT.cg _ _ h1 h3 with hc | hc
   ·exact .inl (hcom _ _ h1 h3 h2 hc)
   ·refine .inr ⟨hc.off, ?_⟩
    rcases hc.wit with h4 | ⟨pw, tw, h4, h5, h6, h7, h8, h9⟩
    ·exact .inl h4
    ·exact .inr ⟨pw, tw, h4, by rw [wit_old hg hP hp h1 h4 h8 h9]; exact h5, h6, h7, h8, h9⟩
  ·refine .inr ⟨?_, .inl (hg.ok i hi).2.2.2.1⟩
   rw [sub_modP h1 hP, e, add_modP hP (by omega)]
   split <;> split <;> omega
 ·intro h0
  obtain ⟨c, hc, hcn, hl⟩ := hT.last h0
  refine ⟨c, hc, hcn, fun i hi => ?_, fun p t h1 h2 h3 h4 => ?_⟩
  ·obtain ⟨t, h3, h4, h5, h6, h7⟩ := hl.all i hi
   obtain ⟨p', t', g1, g2, g3⟩ := h7.live
   have hlt : (h + P - c + i) % P < P := Nat.mod_lt _ (by omega)
   have hmax : ¬ t.sq < t'.sq := by
    obtain ⟨_, _, _, t2, g4, _, g5⟩ := hT.live _ _ g1
    rw [g2] at g4
    obtain rfl : t' = t2 := by simpa using g4
    have := g5.sq
    omega
   have e : p' = (h + P - c + i) % P := by rcases g3 with g3 | g3; exact g3; exact absurd g3 hmax
   have h8 : T' ((h + P - c + i) % P) = some t := by rw [← e, live_old hg hT hp g1, e]; exact h3
   exact ⟨t, h8, h4, h5, h6, hcom _ _ hlt h3 h8 h7⟩
  ·rcases hp.tells h1 h2 with h5 | ⟨i, hi, e, rfl⟩
   ·rcases hT.cg _ _ h1 h5 with hc | hc
    ·exact hl.one _ _ h1 h5 hc h4
    ·rcases hc.wit with h6 | ⟨pw, tw, h6, h7, h8, h9, h10, h11⟩
     ·omega
     ·have := h3.fresh pw tw h6 (by rw [wit_old hg hP hp h1 h6 h10 h11]; exact h7) h8
      omega
   ·have := (hg.ok i hi).2.2.2.1
    omega
 ·intro e
  by_cases he : e = E
  ·subst he
   refine ⟨(k : Int), (i0 : Int), by omega, by omega, fun p t h1 h2 h3 h4 => ?_⟩
   rcases hp.tells h1 h2 with h5 | ⟨i, hi, e, rfl⟩
   ·have := ((hR.ep _ _ h1 h5).2 h3).2.sq
    omega
   ·obtain ⟨_, _, _, _, _, f, g, _⟩ := hg.ok i hi
    refine ⟨g, fun e2 => hm ?_⟩
    have : i = i0 := by omega
    rw [← this, ← e]; exact h2
  ·obtain ⟨c, j, h1, h2, h3⟩ := hT.nw e
   refine ⟨c, j, h1, h2, fun p t h4 h5 h6 h7 => ?_⟩
   rcases hp.tells h4 h5 with h8 | ⟨i, hi, _, rfl⟩
   ·exact h3 _ _ h4 h8 h6 h7
   ·exact absurd ((hg.ok i hi).2.1.symm.trans h6).symm he
theorem truth_all (hg : Tgs n P q h at_ E S k A) (hR : Run n P T q h at_ E S) (hp : Part P T T' h k A) (hnew : ∀ i, i < k → T' ((h + i) % P) = some (A i))
  (hatn : ∀ i, i < k → at' (A i).id = some ((h + i) % P)) (hato : ∀ id, (∀ i, i < k → (A i).id ≠ id) → at' id = at_ id) : Run n P T' (q + 1) ((h + k) % P) at' E S := by
 have hT := hR.tr
 have hP := hT.hP
 have hk0 := hg.k0; have hkn := hg.kn; have hnP := hg.nP; have hS := hR.S1
 have hP0 : 0 < P := by omega
 have hh' : (h + k) % P < P := Nat.mod_lt _ hP0
 have hepE : ∀ p t, p < P → T' p = some t → t.ep ≤ E := by
  intro p t h1 h2
  rcases hp.tells h1 h2 with h3 | ⟨i, hi, _, rfl⟩
  ·exact (hR.ep _ _ h1 h3).1
  ·have := (hg.ok i hi).2.1; omega
 have hcn : ∀ i, i < k → Com P T' (q + 1) at' ((h + i) % P) (A i) := by
  intro i hi
  obtain ⟨a, b, c, d, e, f, g, j⟩ := hg.ok i hi
  refine ⟨by omega, fun p' t' h1 h2 h3 => ?_, ⟨_, _, hatn i hi, hnew i hi, .inl rfl⟩⟩
  have := hepE _ _ h1 h2
  omega
 have hlive' : ∀ id, at' id = at_ id ∨ ∃ i, i < k ∧ (A i).id = id := by
  intro id
  by_cases hi : ∃ i, i < k ∧ (A i).id = id
  ·exact .inr hi
  ·exact .inl (hato id fun i h1 h2 => hi ⟨i, h1, h2⟩)
 have hcom : ∀ p t, p < P → T p = some t → T' p = some t → Com P T q at_ p t → Com P T' (q + 1) at' p t := by
  intro p t h1 h2 h3 hc
  have hcs := hc.sq
  refine ⟨by omega, com_fresh' hg hR hp h1 h2 hc, ?_⟩
  rcases hlive' t.id with h4 | ⟨i, hi, h4⟩
  ·obtain ⟨p', t', h5, h6, h7⟩ := hc.live
   exact ⟨p', t', by rw [h4]; exact h5, by rw [live_old hg hT hp h5]; exact h6, h7⟩
  ·refine ⟨_, _, by rw [← h4]; exact hatn i hi, hnew i hi, .inr ?_⟩
   have := (hg.ok i hi).2.2.2.1
   omega
 have hA0 := hg.ok 0 hk0
 have hT0 : T' h = some (A 0) := by
  have := hnew 0 hk0
  rw [Nat.add_zero, Nat.mod_eq_of_lt hP] at this
  exact this
 -- a tag of old that is there still
 have hold : ∀ p t, p < P → T' p = some t → T p = some t → Gar n P T q h p t → (∃ i, i < k ∧ p = (h + i) % P ∧ t = A i) ∨ Gar n P T' (q + 1) ((h + k) % P) p t := by
  intro p t h1 h2 h3 hc
  by_cases hi : ∃ i, i < k ∧ p = (h + i) % P
  ·obtain ⟨i, hi, e⟩ := hi
   have := hnew i hi
   rw [← e, h2] at this
   exact .inl ⟨i, hi, e, by simpa using this⟩
  ·right
   have hoff := hc.off
   have hge : k ≤ (p + P - h) % P := by
    refine Nat.le_of_not_lt fun hlt => hi ⟨_, hlt, ?_⟩
    rw [add_modP hP (Nat.le_of_lt (Nat.mod_lt _ hP0)), sub_modP h1 hP]
    split <;> split <;> omega
   have hnewoff : (p + P - (h + k) % P) % P = (p + P - h) % P - k := by
    rw [sub_modP h1 hh', add_modP hP (by omega)]
    rw [sub_modP h1 hP] at hge hoff ⊢
    split <;> split at hge <;> split <;> omega
   refine ⟨by omega, .inr ?_⟩
   rcases hc.wit with h4 | ⟨pw, tw, h4, h5, h6, h7, h8, h9⟩
   ·have hlt : t.ep < E := by
     rcases Int.lt_or_eq_of_le (hR.ep _ _ h1 h3).1 with h5 | h5
     ·exact h5
     ·have := ((hR.ep _ _ h1 h3).2 h5).2.sq
      omega
    exact ⟨h, A 0, hP, hT0, by omega, by omega, hoff, by omega⟩
   ·exact ⟨pw, tw, h4, by rw [wit_old hg hP hp h1 h4 h8 h9]; exact h5, h6, h7, h8, by omega⟩
 refine ⟨⟨hh', hT.nP, by have := hT.q0; omega, fun e => by have := hT.q0; omega, ?_, ?_, ?_, ?_, ?_⟩, ?_, ?_, by omega⟩
 ·intro p t h1 h2
  rcases hp.tells h1 h2 with h3 | ⟨i, hi, _, rfl⟩
  ·obtain ⟨a, b, c, d⟩ := hT.tag _ _ h1 h3
   exact ⟨a, b, by omega, d⟩
  ·obtain ⟨a, b, c, d, e, f, g, j⟩ := hg.ok i hi
   exact ⟨a, by omega, by omega, j⟩
 ·intro p t h1 h2
  rcases hp.tells h1 h2 with h3 | ⟨i, hi, e, rfl⟩
  ·rcases hT.cg _ _ h1 h3 with hc | hc
   ·exact .inl (hcom _ _ h1 h3 h2 hc)
   ·rcases hold _ _ h1 h2 h3 hc with ⟨i, hi, e, rfl⟩ | h4
    ·exact .inl (e ▸ hcn i hi)
    ·exact .inr h4
  ·exact .inl (e ▸ hcn i hi)
 ·intro id p ha
  rcases hlive' id with h4 | ⟨i, hi, h4⟩
  ·rw [h4] at ha
   obtain ⟨h1, h2, h3, t, h5, h6, h7⟩ := hT.live _ _ ha
   have h8 : T' p = some t := by rw [live_old hg hT hp ha]; exact h5
   exact ⟨h1, h2, h3, t, h8, h6, hcom _ _ h1 h5 h8 h7⟩
  ·obtain ⟨a, b, c, d, e, f, g, j⟩ := hg.ok i hi
   have h5 := hatn i hi
   rw [h4, ha] at h5
   obtain rfl : p = (h + i) % P := by simpa using h5
   have := ok_range a
   exact ⟨Nat.mod_lt _ hP0, by omega, by omega, A i, hnew i hi, h4, hcn i hi⟩
 ·intro _
  have epl : ∀ i, i < k → ((h + k) % P + P - k + i) % P = (h + i) % P := by
   intro i hi
   rw [add_modP hP (by omega)]
   split
   ·have e : h + k + P - k + i = h + i + P := by omega
    rw [e, Nat.add_mod_right]
   ·have e : h + k - P + P - k + i = h + i := by omega
    rw [e]
  refine ⟨k, hk0, hkn, fun i hi => ?_, fun p t h1 h2 h3 h4 => ?_⟩
  ·obtain ⟨a, b, c, d, e, f, g, j⟩ := hg.ok i hi
   rw [epl i hi]
   exact ⟨A i, hnew i hi, d, f, g, hcn i hi⟩
  ·rcases hp.tells h1 h2 with h5 | ⟨i, hi, e, rfl⟩
   ·rcases hT.cg _ _ h1 h5 with hc | hc
    ·have := hc.sq; omega
    ·rcases hold _ _ h1 h2 h5 hc with ⟨i, hi, e, rfl⟩ | h6
     ·exact ⟨i, hi, by rw [epl i hi]; exact e⟩
     ·rcases h6.wit with h7 | ⟨pw, tw, h7, h8, h9, h10, _⟩
      ·omega
      ·have := h3.fresh _ _ h7 h8 h9
       omega
   ·exact ⟨i, hi, by rw [epl i hi]; exact e⟩
 ·intro e
  refine ⟨1, 0, by omega, by omega, fun p t h1 h2 h3 h4 => ?_⟩
  rcases hp.tells h1 h2 with h5 | ⟨i, hi, _, rfl⟩
  ·have := hT.tag _ _ h1 h5; omega
  ·have := (hg.ok i hi).2.2.2.1; omega
 ·intro p t h1 h2
  refine ⟨hepE p t h1 h2, fun e => ?_⟩
  rcases hp.tells h1 h2 with h3 | ⟨i, hi, e2, rfl⟩
  ·obtain ⟨h4, h5⟩ := (hR.ep _ _ h1 h3).2 e
   exact ⟨h4, hcom _ _ h1 h3 h2 h5⟩
  ·exact ⟨(hg.ok i hi).2.2.1, e2 ▸ hcn i hi⟩
 ·intro p t h1 h2 h3 h4
  have := h3.fresh h (A 0) hP hT0 (by omega)
  omega
end
end Go.SL
namespace Go.Proofs.YtdafdidmbeecfaaGreatDoor
set_option linter.unusedVariables false
set_option linter.unusedSimpArgs false
open Go.RowKit Go.SL
def tellsT (P : Nat) (D : Dev) : TM := fun p => if p < P ∧ (D.tells ((p : Int) + 1)).1 = 0 then (decodeF (D.tells ((p : Int) + 1)).2).map Prod.fst else none
theorem tellsT_at {P : Nat} {D D' : Dev} {p : Nat} (h : D.tells ((p : Int) + 1) = D'.tells ((p : Int) + 1)) : tellsT P D p = tellsT P D' p := by unfold tellsT; rw [h]
theorem tellsT_congr {P : Nat} {D D' : Dev} (h : ∀ p : Nat, p < P → D.tells ((p : Int) + 1) = D'.tells ((p : Int) + 1)) : tellsT P D = tellsT P D' := by
 funext p
 by_cases hp : p < P
 ·exact tellsT_at (h p hp)
 ·unfold tellsT; rw [if_neg (fun c => hp c.1), if_neg (fun c => hp c.1)]
theorem tellsT_enc {P : Nat} {D : Dev} {p : Nat} {t : Tg} {b : List UInt8} (hp : p < P) (h : D.tells ((p : Int) + 1) = (0, enc t ++ b)) (hf : t.Fit) (ho : t.ok = true) : tellsT P D p = some t := by
 unfold tellsT; rw [h]; simp [decodeF_enc hf ho, hp]
theorem fnds_mem {D : Dev} {n P : Nat} (h : ∀ p t, p < P → tellsT P D p = some t → t.id < n) : ∀ k, k ≤ P → ∀ t p, (t, p) ∈ fndsN (n : Int) D k ↔ p < k ∧ tellsT P D p = some t := by
 intro k
 induction k with
 | zero => intro _ t p; simp [fndsN]
 | succ k ih =>
  intro hk t p
  have hi := ih (by omega) t p
  rw [fndsN_succ]
  have hT : tellsT P D k = if (D.tells ((k : Int) + 1)).1 = 0 then (decodeF (D.tells ((k : Int) + 1)).2).map Prod.fst else none := by
   unfold tellsT
   have : k < P := by omega
   simp only [this, true_and]
  by_cases h0 : (D.tells ((k : Int) + 1)).1 = 0
  ·rw [if_pos h0] at hT ⊢
   cases hd : decodeF (D.tells ((k : Int) + 1)).2 with
   | none =>
    rw [hd] at hT
    rw [fndAdd_none, hi]
    refine ⟨fun ⟨a, b⟩ => ⟨by omega, b⟩, fun ⟨a, b⟩ => ⟨?_, b⟩⟩
    rcases Nat.lt_or_eq_of_le (Nat.lt_succ_iff.1 a) with h1 | h1
    ·exact h1
    ·rw [h1, hT] at b; cases b
   | some x =>
    rw [hd] at hT
    have hT' : tellsT P D k = some x.1 := hT
    rw [fndAdd_yes (h k x.1 (by omega) hT'), List.mem_append, hi]
    constructor
    ·rintro (⟨a, b⟩ | a)
     ·exact ⟨by omega, b⟩
     ·simp only [List.mem_singleton, Prod.mk.injEq] at a
      obtain ⟨rfl, rfl⟩ := a
      exact ⟨by omega, hT'⟩
    ·rintro ⟨a, b⟩
     rcases Nat.lt_or_eq_of_le (Nat.lt_succ_iff.1 a) with h1 | h1
     ·exact .inl ⟨h1, b⟩
     ·right
      rw [h1, hT'] at b
      have : x.1 = t := by simpa using b
      simp [this, h1]
  ·rw [if_neg h0] at hT ⊢
   rw [hi]
   refine ⟨fun ⟨a, b⟩ => ⟨by omega, b⟩, fun ⟨a, b⟩ => ⟨?_, b⟩⟩
   rcases Nat.lt_or_eq_of_le (Nat.lt_succ_iff.1 a) with h1 | h1
   ·exact h1
   ·rw [h1, hT] at b; cases b
theorem fnds_lays {D : Dev} {n P : Nat} (h : ∀ p t, p < P → tellsT P D p = some t → t.id < n) : Lays P (tellsT P D) (fndsN (n : Int) D P) := ⟨fnds_mem h P (Nat.le_refl _)⟩
def atOf (J : Jr) : Int → Option Nat := fun id => (told J.T.ps id).map Int.toNat
structure JT (n : Nat) (J : Jr) (D : Dev) (has : Has) : Prop where
 inv : JInv J D has
 jn : J.n = (n : Int)
 run : Run n J.P (tellsT J.P D) J.sq J.hd.toNat (atOf J) J.ep J.st
theorem JT.dev {n : Nat} {J : Jr} {D D' : Dev} {has : Has} (h : JT n J D has) (hi : JInv J D' has) (ht : ∀ p : Nat, p < J.P → D'.tells ((p : Int) + 1) = D.tells ((p : Int) + 1)) : JT n J D' has :=
 ⟨hi, h.jn, by rw [tellsT_congr ht]; exact h.run⟩
theorem JT.flushed {n : Nat} {J : Jr} {D : Dev} {has : Has} (h : JT n J D has) : JT n J D.flushed has :=
 h.dev h.inv.flushed fun p hp => flushed_tells h.inv.dok _ ⟨by omega, by have := h.inv.sec; omega⟩
def wrsL (J : Jr) (Z : List Wr) (k : Nat) : List (Int × List UInt8) := (List.range k).map fun i : Nat => ((J.hd + (i : Int)) % (J.P : Int) + 1, enc (J.tag i Z.length (Z.getD i Wr.nil).1) ++ (Z.getD i Wr.nil).2.2)
theorem wrsL_succ (J : Jr) (Z : List Wr) (k : Nat) : wrsL J Z (k + 1) = wrsL J Z k ++ [((J.hd + (k : Int)) % (J.P : Int) + 1, enc (J.tag k Z.length (Z.getD k Wr.nil).1) ++ (Z.getD k Wr.nil).2.2)] := by simp [wrsL, List.range_succ]
theorem writeN_eq (J : Jr) (D : Dev) (hP : 0 < J.P) (hc : D.Calm) (hs : (J.P : Int) + 1 ≤ D.sec.length) (Z : List Wr) (h480 : ∀ z ∈ Z, z.2.2.length = 480) : ∀ k, k ≤ Z.length → J.writeN D Z k = (0, { D with cw := addN D.cw k, wait := D.wait ++ wrsL J Z k }) := by
  intro k
  induction k with
  | zero => intro _; simp [Jr.writeN, wrsL, addN]
  | succ k ih =>
    intro hk
    have r1 := ih (by omega)
    have hm : Z.getD k Wr.nil ∈ Z := by rw [List.getD, List.getElem?_eq_getElem (by omega)]; exact List.getElem_mem _
    have hlen : (enc (J.tag k Z.length (Z.getD k Wr.nil).1) ++ (Z.getD k Wr.nil).2.2).length = 512 := by rw [List.length_append, enc_length, h480 _ hm]
    have hq0 : 0 ≤ (J.hd + (k : Int)) % (J.P : Int) := Int.emod_nonneg _ (by omega)
    have hq1 : (J.hd + (k : Int)) % (J.P : Int) < J.P := Int.emod_lt_of_pos _ (by omega)
    have r2 : ({ D with cw := addN D.cw k, wait := D.wait ++ wrsL J Z k } : Dev).Calm := ⟨hc.down, hc.armed⟩
    have hhas : ({ D with cw := addN D.cw k, wait := D.wait ++ wrsL J Z k } : Dev).has ((J.hd + (k : Int)) % (J.P : Int) + 1) := ⟨by omega, by show _ < (D.sec.length : Int); omega⟩
    have hw := r2.write hhas hlen
    have hst : J.writeN D Z (k + 1) = if (J.writeN D Z k).1 = 0 then
        (let R := (J.writeN D Z k).2.write ((J.hd + (k : Int)) % (J.P : Int) + 1) (enc (J.tag k Z.length (Z.getD k Wr.nil).1) ++ (Z.getD k Wr.nil).2.2)
         (if R.1 = 0 then 0 else 2, R.2)) else J.writeN D Z k := rfl
    rw [r1] at hst
    simp only [if_true] at hst
    rw [hw] at hst
    simp only [if_true] at hst
    rw [hst, wrsL_succ, ← List.append_assoc]
    rfl
end Go.Proofs.YtdafdidmbeecfaaGreatDoor
namespace Go.Proofs.YtdafdidmbeecfaaGreatDoor
set_option linter.unusedVariables false
set_option linter.unusedSimpArgs false
open Go.RowKit Go.SL
def devC (J : Jr) (D : Dev) (has : Has) (L : Bl) : Dev :=
 { D.flushed with cr := addN D.flushed.cr (movB J has L).length, cw := addN D.flushed.cw (L ++ movB J has L).length, wait := wrsL J (wrOf (L ++ movB J has L)) (L ++ movB J has L).length }
theorem commit_dev {J : Jr} {D : Dev} {has : Has} (h : JInv J D has) {L : Bl} (hb : Batch J.n L) (hsq : J.sq < 281474976710655) (hf : ¬ (J.P : Int) - J.us - J.fr < ((L ++ movB J has L).length : Int)) :
  DoneC J D has L (devC J D has L) := by
 obtain ⟨D', hd⟩ := commit_done h hb hsq hf
 have hm := jmoved_calm h.flushed L
 have hA := allB h hb
 have h480 : ∀ z ∈ wrOf (L ++ movB J has L), z.2.2.length = 480 := by
  intro z hz
  obtain ⟨x, hx, rfl⟩ := List.mem_map.1 hz
  exact (hA.b x hx).1
 have hwl : (wrOf (L ++ movB J has L)).length = (L ++ movB J has L).length := by simp [wrOf]
 have hw := writeN_eq J { D.flushed with cr := addN D.flushed.cr (movB J has L).length } h.ok.p0 (cr_calm h.flushed.calm _) h.flushed.sec (wrOf (L ++ movB J has L)) h480 (L ++ movB J has L).length (by rw [hwl]; exact Nat.le_refl _)
 have hrun : jcommit J D true L = (0, J.done (L ++ movB J has L) (J.cleaned L.length), devC J D has L) := by
  unfold jcommit
  rw [if_neg (by simp), if_neg (by omega), h.flush, if_neg (by simp)]
  unfold jcommit2
  rw [hm, if_neg (by simp), if_neg hf, hw, if_neg (by simp)]
  rfl
 have e : D' = devC J D has L := by
  have h1 := hd.run
  rw [hrun] at h1
  simp only [Prod.mk.injEq] at h1
  exact h1.2.2.symm
 exact e ▸ hd
theorem newest_wrs (J : Jr) (hP : 0 < J.P) (Z : List Wr) (a : Int) : ∀ k : Nat, k ≤ J.P → (∀ i : Nat, i < k → a = (J.hd + (i : Int)) % (J.P : Int) + 1 → newest (wrsL J Z k) a = some (enc (J.tag i Z.length (Z.getD i Wr.nil).1) ++ (Z.getD i Wr.nil).2.2)) ∧
  ((∀ i : Nat, i < k → a ≠ (J.hd + (i : Int)) % (J.P : Int) + 1) → newest (wrsL J Z k) a = none) := by
 intro k
 induction k with
 | zero => intro _; exact ⟨fun i hi => absurd hi (Nat.not_lt_zero i), fun _ => rfl⟩
 | succ k ih =>
  intro hk
  obtain ⟨h1, h2⟩ := ih (by omega)
  rw [wrsL_succ]
  refine ⟨fun i hi e => ?_, fun h => ?_⟩
  ·rw [newest_snoc]
   rcases Nat.lt_or_eq_of_le (Nat.lt_succ_iff.1 hi) with h3 | h3
   ·have hne : (J.hd + (k : Int)) % (J.P : Int) ≠ (J.hd + (i : Int)) % (J.P : Int) := emod_ne (by omega) (by omega)
    rw [if_neg (by simp only; omega)]
    exact h1 i h3 e
   ·subst h3
    rw [if_pos e.symm]
  ·rw [newest_snoc, if_neg (fun e => h k (by omega) e.symm)]
   exact h2 fun i hi => h i (by omega)
theorem place_cast {J : Jr} (hJ : J.Ok) (i : Nat) : (((J.hd.toNat + i) % J.P : Nat) : Int) = (J.hd + (i : Int)) % (J.P : Int) := by
 have := hJ.hd0
 rw [Int.natCast_emod, Int.natCast_add]
 congr 2
 omega
theorem place_inj {J : Jr} (hJ : J.Ok) {p i : Nat} (h : (p : Int) + 1 = (J.hd + (i : Int)) % (J.P : Int) + 1) : p = (J.hd.toNat + i) % J.P := by
 have := place_cast hJ i
 omega
theorem nd_inj {α : Type} {l : List α} (h : l.Nodup) {i j : Nat} (hi : i < l.length) (hj : j < l.length) (e : l[i] = l[j]) : i = j := by
 have h' := List.pairwise_iff_getElem.1 h
 rcases Nat.lt_trichotomy i j with h1 | h1 | h1
 ·exact absurd e (h' i j hi hj h1)
 ·exact h1
 ·exact absurd e.symm (h' j i hj hi h1)
theorem findIdx_nd {L : Bl} (hn : (L.map Prod.fst).Nodup) {i : Nat} (hi : i < L.length) : L.findIdx? (fun y => y.1 == (L.getD i (0, [])).1) = some i := by
 cases hf : L.findIdx? (fun y => y.1 == (L.getD i (0, [])).1) with
 | none =>
  exact absurd (List.mem_map.2 ⟨L.getD i (0, []), by rw [List.getD, List.getElem?_eq_getElem hi]; exact List.getElem_mem _, rfl⟩) (findIdx_none_mem.1 hf)
 | some j =>
  obtain ⟨h1, h2, _⟩ := kget_idx hf
  have e : (L.map Prod.fst)[j]'(by simpa using h1) = (L.map Prod.fst)[i]'(by simpa using hi) := by
   simp only [List.getElem_map]
   simpa [List.getD, List.getElem?_eq_getElem h1, List.getElem?_eq_getElem hi] using h2
  exact congrArg some (nd_inj hn _ _ e)
def tagA (J : Jr) (A : Bl) (i : Nat) : Tg := J.tag i A.length (A.getD i (0, [])).1
section
variable {n : Nat} {J : Jr} {D : Dev} {has : Has} {L : Bl}
theorem batch_tags (h : JT n J D has) (hb : Batch J.n L) (hsq : J.sq < 281474976710655) (hP : 2 * n ≤ J.P) (hf : ¬ (J.P : Int) - J.us - J.fr < ((L ++ movB J has L).length : Int)) :
  Tgs n J.P J.sq J.hd.toNat (atOf J) J.ep J.st (L ++ movB J has L).length (tagA J (L ++ movB J has L)) := by
 have hA := allB h.inv hb
 have hfr0 := h.inv.ok.fr0
 have hjn := h.jn
 have hlen : 1 ≤ (L ++ movB J has L).length := by rw [List.length_append]; have := hb.n0; omega
 have hml : (L ++ movB J has L).length ≤ 72 := by
  rw [List.length_append]
  have := movB_len J has L h.inv.ok.us0
  have := Jr.cleaned_range h.inv.ok.us0 L.length
  have := hb.n1
  omega
 generalize L ++ movB J has L = A at hA hf hlen hml ⊢
 have hnum := h.inv.nums.numbers hsq
 have hn3840 := h.inv.nums.n1
 refine ⟨by omega, ?_, hP, fun i hi => ?_, fun id p ha i hi e => ?_⟩
 ·have := nodup_below (n := n) hA.nd (fun x hx => by
   obtain ⟨y, hy, rfl⟩ := List.mem_map.1 hx
   have := hA.b y hy
   omega)
  rwa [List.length_map] at this
 ·have hm : A.getD i (0, []) ∈ A := by rw [List.getD, List.getElem?_eq_getElem hi]; exact List.getElem_mem _
  have hr := hA.b _ hm
  exact ⟨Jr.tag_ok hnum hi hml hr.2.1 (by omega), rfl, rfl, rfl, rfl, rfl, rfl, by show (A.getD i (0, [])).1 < (n : Int); omega⟩
 ·unfold atOf at ha
  cases ht : told J.T.ps id with
  | none => rw [ht] at ha; cases ha
  | some q =>
   rw [ht] at ha
   obtain rfl : q.toNat = p := by simpa using ha
   obtain ⟨a, a1, a2, a3⟩ := h.inv.win _ _ (h.inv.con.pq _ _ ht)
   have hp := h.inv.place ht
   have h1 : (J.hd + (i : Int)) % (J.P : Int) ≠ a % (J.P : Int) := emod_ne (by omega) (by omega)
   have h2 := place_cast h.inv.ok i
   omega
theorem devC_tells (h : JT n J D has) (hb : Batch J.n L) (hf : ¬ (J.P : Int) - J.us - J.fr < ((L ++ movB J has L).length : Int)) :
  (∀ i : Nat, i < (L ++ movB J has L).length → (devC J D has L).tells ((J.hd + (i : Int)) % (J.P : Int) + 1) = (0, enc (tagA J (L ++ movB J has L) i) ++ ((L ++ movB J has L).getD i (0, [])).2)) ∧
  ∀ p : Nat, p < J.P → (∀ i : Nat, i < (L ++ movB J has L).length → p ≠ (J.hd.toNat + i) % J.P) → (devC J D has L).tells ((p : Int) + 1) = D.tells ((p : Int) + 1) := by
 have hA := allB h.inv hb
 have hfr0 := h.inv.ok.fr0
 have hus0 := h.inv.ok.us0
 have hwl : (wrOf (L ++ movB J has L)).length = (L ++ movB J has L).length := by simp [wrOf]
 have hk : (L ++ movB J has L).length ≤ J.P := by omega
 have hsec := h.inv.sec
 refine ⟨fun i hi => ?_, fun p hp hne => ?_⟩
 ·have h1 := (newest_wrs J h.inv.ok.p0 (wrOf (L ++ movB J has L)) ((J.hd + (i : Int)) % (J.P : Int) + 1) _ hk).1 i hi rfl
  have hm : (L ++ movB J has L).getD i (0, []) ∈ L ++ movB J has L := by rw [List.getD, List.getElem?_eq_getElem hi]; exact List.getElem_mem _
  have e : (devC J D has L).tells ((J.hd + (i : Int)) % (J.P : Int) + 1) = (0, padTo 512 (enc (J.tag i (wrOf (L ++ movB J has L)).length ((wrOf (L ++ movB J has L)).getD i Wr.nil).1) ++ ((wrOf (L ++ movB J has L)).getD i Wr.nil).2.2)) := by
   unfold Dev.tells
   show (match newest (wrsL J (wrOf (L ++ movB J has L)) (L ++ movB J has L).length) _ with | some l => _ | none => _) = _
   rw [h1]
  rw [e, hwl, (plain_get _ _).1, (plain_get _ _).2, plain_wrOf]
  rw [padTo_self (by rw [List.length_append, enc_length, (hA.b _ hm).1])]
  rfl
 ·have h1 := (newest_wrs J h.inv.ok.p0 (wrOf (L ++ movB J has L)) ((p : Int) + 1) _ hk).2 fun i hi e => hne i hi (place_inj h.inv.ok e)
  have e : (devC J D has L).tells ((p : Int) + 1) = D.flushed.tells ((p : Int) + 1) := by
   unfold Dev.tells
   show (match newest (wrsL J (wrOf (L ++ movB J has L)) (L ++ movB J has L).length) _ with | some l => _ | none => _) = _
   rw [h1]
   rfl
  rw [e]
  exact flushed_tells h.inv.dok _ ⟨by omega, by omega⟩
theorem at_done (h : JT n J D has) (hb : Batch J.n L) (hf : ¬ (J.P : Int) - J.us - J.fr < ((L ++ movB J has L).length : Int)) (c : Int) :
  (∀ i, i < (L ++ movB J has L).length → atOf (J.done (L ++ movB J has L) c) (tagA J (L ++ movB J has L) i).id = some ((J.hd.toNat + i) % J.P)) ∧
  ∀ id, (∀ i, i < (L ++ movB J has L).length → (tagA J (L ++ movB J has L) i).id ≠ id) → atOf (J.done (L ++ movB J has L) c) id = atOf J id := by
 have hA := allB h.inv hb
 obtain ⟨p1, p2, p3⟩ := commit_putK h.inv hb hf
 rw [List.take_length] at p2
 generalize L ++ movB J has L = A at hA p2 hf ⊢
 refine ⟨fun i hi => ?_, fun id hid => ?_⟩
 ·show (told (J.putN A A.length).ps (A.getD i (0, [])).1).map Int.toNat = _
  rw [p2, findIdx_nd hA.nd hi]
  show some ((J.hd + (i : Int)) % (J.P : Int)).toNat = _
  rw [← place_cast h.inv.ok i]; rfl
 ·show (told (J.putN A A.length).ps id).map Int.toNat = _
  have hno : A.findIdx? (fun y => y.1 == id) = none := by
   rw [findIdx_none_mem]
   intro hm
   obtain ⟨y, hy, rfl⟩ := List.mem_map.1 hm
   obtain ⟨i, hi, e⟩ := List.getElem_of_mem hy
   refine hid i hi ?_
   show (A.getD i (0, [])).1 = y.1
   rw [List.getD, List.getElem?_eq_getElem hi, ← e]; rfl
  rw [p2, hno]; rfl
theorem devC_part (h : JT n J D has) (hb : Batch J.n L) (hsq : J.sq < 281474976710655) (hf : ¬ (J.P : Int) - J.us - J.fr < ((L ++ movB J has L).length : Int)) (hP : 2 * n ≤ J.P) :
  Part J.P (tellsT J.P D) (tellsT J.P (devC J D has L)) J.hd.toNat (L ++ movB J has L).length (tagA J (L ++ movB J has L)) ∧
  ∀ i, i < (L ++ movB J has L).length → tellsT J.P (devC J D has L) ((J.hd.toNat + i) % J.P) = some (tagA J (L ++ movB J has L) i) := by
 have hg := batch_tags h hb hsq hP hf
 have hnum := h.inv.nums.numbers hsq
 obtain ⟨t1, t2⟩ := devC_tells h hb hf
 have hnew : ∀ i, i < (L ++ movB J has L).length → tellsT J.P (devC J D has L) ((J.hd.toNat + i) % J.P) = some (tagA J (L ++ movB J has L) i) := by
  intro i hi
  refine tellsT_enc (Nat.mod_lt _ h.inv.ok.p0) (b := ((L ++ movB J has L).getD i (0, [])).2) ?_ (Jr.tag_fit hnum _ _ _) (hg.ok i hi).1
  rw [place_cast h.inv.ok i]; exact t1 i hi
 exact ⟨⟨fun i hi => .inl (hnew i hi), fun p hp hne => tellsT_at (t2 p hp hne)⟩, hnew⟩
theorem jt_commit (h : JT n J D has) (hb : Batch J.n L) (hsq : J.sq < 281474976710655) (hf : ¬ (J.P : Int) - J.us - J.fr < ((L ++ movB J has L).length : Int)) (hP : 2 * n ≤ J.P) :
  JT n (J.done (L ++ movB J has L) (J.cleaned L.length)) (devC J D has L) (updB has L) := by
 have hd := commit_dev h.inv hb hsq hf
 obtain ⟨hp, hnew⟩ := devC_part h hb hsq hf hP
 obtain ⟨a1, a2⟩ := at_done h hb hf (J.cleaned L.length)
 have hr := truth_all (batch_tags h hb hsq hP hf) h.run hp hnew a1 a2
 refine ⟨hd.inv, h.jn, ?_⟩
 have e : (J.done (L ++ movB J has L) (J.cleaned L.length)).hd.toNat = (J.hd.toNat + (L ++ movB J has L).length) % J.P := by
  show ((J.hd + ((L ++ movB J has L).length : Int)) % (J.P : Int)).toNat = _
  rw [← place_cast h.inv.ok]; rfl
 rw [e]
 exact hr
end
end Go.Proofs.YtdafdidmbeecfaaGreatDoor
end

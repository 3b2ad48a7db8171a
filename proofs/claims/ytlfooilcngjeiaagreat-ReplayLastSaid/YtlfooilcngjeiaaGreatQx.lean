/- replay: the state that Scan tells of a device whose truth is known. replay: a crash behind a batch. ReplayAfter: Commit, and Scan, of a journal whose device tells the truth. -/
import Derived.Test.YtlfooilcngjeiaaGreatQu
import Derived.Test.YtlfooilcngjeiaaGreatGb
import Derived.Test.YtlfooilcngjeiaaGreatGd
namespace Go.Proofs.YtlfooilcngjeiaaGreat
set_option linter.unusedVariables false
set_option linter.unusedSimpArgs false
open Go.RowKit Go.SL
def farI (hd : Int) (P : Nat) (p : Int) : Int := if (hd - p) % (P : Int) = 0 then (P : Int) else (hd - p) % (P : Int)
theorem farI_range (hd : Int) {P : Nat} (hP : 0 < P) (p : Int) : 1 ≤ farI hd P p ∧ farI hd P p ≤ (P : Int) := by
  have h1 := Int.emod_nonneg (hd - p) (show (P : Int) ≠ 0 by omega)
  have h2 := Int.emod_lt_of_pos (hd - p) (show (0 : Int) < (P : Int) by omega)
  unfold farI; split <;> omega
theorem farI_back (hd : Int) {P : Nat} (hP : 0 < P) {p : Int} (h0 : 0 ≤ p) (h1 : p < (P : Int)) : (hd - farI hd P p) % (P : Int) = p := by
  have e := Int.emod_add_mul_ediv (hd - p) (P : Int)
  have e1 : ∃ k : Int, hd - farI hd P p = p + (P : Int) * k := by
    unfold farI
    split
    · exact ⟨(hd - p) / (P : Int) - 1, by rw [Int.mul_sub]; omega⟩
    · exact ⟨(hd - p) / (P : Int), by omega⟩
  obtain ⟨k, e1⟩ := e1
  rw [e1, Int.add_mul_emod_self_left, Int.emod_eq_of_lt h0 h1]
theorem farI_of (hd : Int) {P : Nat} (hP : 0 < P) {p a us : Int} (h1 : hd - us ≤ a) (h2 : a < hd) (h3 : us ≤ (P : Int)) (hp : p = a % (P : Int)) : farI hd P p = hd - a := by
  have e : (hd - p) % (P : Int) = (hd - a) % (P : Int) := by
    rw [hp, Int.sub_emod, Int.emod_emod_of_dvd _ (Int.dvd_refl _), ← Int.sub_emod]
  unfold farI
  rw [e]
  by_cases hlt : hd - a < (P : Int)
  · rw [Int.emod_eq_of_lt (by omega) hlt, if_neg (by omega)]
  · have e2 : hd - a = (P : Int) := by omega
    rw [e2, Int.emod_self, if_pos rfl]
theorem ustep_far (hd : Int) (P : Nat) (n p : Int) : ustep hd P n p = if p < 0 then n else max n (farI hd P p) := rfl
theorem used_fold (hd : Int) (P : Nat) : ∀ (l : List Int) (n : Int), n ≤ l.foldl (ustep hd P) n ∧ (∀ p ∈ l, 0 ≤ p → farI hd P p ≤ l.foldl (ustep hd P) n) ∧ ∀ M, n ≤ M → (∀ p ∈ l, 0 ≤ p → farI hd P p ≤ M) → l.foldl (ustep hd P) n ≤ M
  | [], n => ⟨Int.le_refl _, by simp, fun M h _ => h⟩
  | x :: l, n => by
    rw [List.foldl_cons]
    obtain ⟨h1, h2, h3⟩ := used_fold hd P l (ustep hd P n x)
    have hx := ustep_far hd P n x
    refine ⟨?_, fun p hp h0 => ?_, fun M hM hl => ?_⟩
    · split at hx <;> omega
    · rcases List.mem_cons.1 hp with rfl | hp
      · rw [if_neg (by omega)] at hx; omega
      · exact h2 p hp h0
    · refine h3 M ?_ fun p hp h0 => hl p (by simp [hp]) h0
      rw [hx]
      split
      · exact hM
      · have := hl x (by simp) (by omega); omega
/-- The journal that is behind a scan. -/
def _root_.Go.SL.Jr.seen (J : Jr) (ep us : Int) : Jr := { J with ep := ep, st := J.sq + 1, us := us, fr := 0 }
/-- A device, and a journal whose state it tells. -/
structure Told (n : Nat) (J : Jr) (D : Dev) (has : Has) : Prop where
  inv : JInv J D has
  jn : J.n = (n : Int)
  tr : Truth n J.P (tellsT J.P D) J.sq J.hd.toNat (atOf J)
theorem JT.told {n : Nat} {J : Jr} {D : Dev} {has : Has} (h : JT n J D has) : Told n J D has := ⟨h.inv, h.jn, h.run.tr⟩
section
variable {n : Nat} {J : Jr} {D : Dev} {has : Has}
theorem Told.lays (h : Told n J D has) : Lays J.P (tellsT J.P D) (fndsN (n : Int) D J.P) := fnds_lays fun p t hp ht => (h.tr.tag p t hp ht).2.2.2
theorem told_where (h : Told n J D has) : whereL (freshL (fndsN (n : Int) D J.P)) J.sq n = Jr.ats J := by
  have hps := h.inv.ok.ps
  have hjn := h.jn
  have hl : J.T.ps.length = n := by omega
  apply List.ext_getElem
  · rw [whereL_len, ats_length, hl]
  · intro k h1 h2
    rw [whereL_len] at h1
    have e1 := truth_at h.tr h.lays h1
    rw [List.getD, List.getElem?_eq_getElem (by rw [whereL_len]; exact h1), Option.getD_some] at e1
    have e2 : (Jr.ats J)[k] = (told J.T.ps (k : Int)).getD (-1) := by simp [Jr.ats]
    rw [e1, e2]
    unfold atOf
    cases ht : told J.T.ps (k : Int) with
    | none => rfl
    | some p =>
      have := h.inv.place ht
      show ((p.toNat : Nat) : Int) = p
      omega
def usSeen (n : Nat) (J : Jr) : Int := usedI (Jr.ats J) J.hd J.P
theorem us_range (h : Told n J D has) : 0 ≤ usSeen n J ∧ usSeen n J ≤ J.us ∧ ∀ p id, told J.T.os p = some id → farI J.hd J.P p ≤ usSeen n J := by
  obtain ⟨h1, h2, h3⟩ := used_fold J.hd J.P (Jr.ats J) 0
  have hmem : ∀ p ∈ Jr.ats J, 0 ≤ p → ∃ id, told J.T.ps id = some p := by
    intro p hp h0
    obtain ⟨k, hk, e⟩ := List.getElem_of_mem hp
    have e2 : (Jr.ats J)[k] = (told J.T.ps (k : Int)).getD (-1) := by simp [Jr.ats]
    rw [e] at e2
    cases ht : told J.T.ps (k : Int) with
    | none => rw [ht, Option.getD_none] at e2; omega
    | some q => rw [ht, Option.getD_some] at e2; exact ⟨k, by rw [ht, e2]⟩
  refine ⟨h1, h3 _ h.inv.ok.us0 fun p hp h0 => ?_, fun p id hp => h2 p ?_ ?_⟩
  · obtain ⟨id, ht⟩ := hmem p hp h0
    obtain ⟨a, a1, a2, a3⟩ := h.inv.win _ _ (h.inv.con.pq _ _ ht)
    rw [farI_of J.hd h.inv.ok.p0 a1 a2 h.inv.ok.us1 a3]; omega
  · have ht := h.inv.con.qp _ _ hp
    have hr := told_range ht
    have e2 : (Jr.ats J)[id.toNat]'(by rw [ats_length]; omega) = (told J.T.ps ((id.toNat : Nat) : Int)).getD (-1) := by simp [Jr.ats]
    have e3 : ((id.toNat : Nat) : Int) = id := by omega
    rw [e3, ht, Option.getD_some] at e2
    exact e2 ▸ List.getElem_mem _
  · exact (told_range hp).1
theorem seen_inv (h : Told n J D has) {ep : Int} (h0 : 1 ≤ ep) (h1 : ep < 4294967296) : JInv (J.seen ep (usSeen n J)) D has := by
  obtain ⟨u0, u1, u2⟩ := us_range h
  have hi := h.inv
  have ho := hi.ok
  have hn := hi.nums
  have hus1 := ho.us1
  refine ⟨⟨ho.p0, ho.p1, ho.T, ho.ps, ho.os, u0, by show usSeen n J ≤ (J.P : Int); omega, ho.hd0, ho.hd1, Int.le_refl _, by show (0 : Int) ≤ 48; decide⟩, ⟨h0, h1, by show 1 ≤ J.sq + 1; have := hn.sq0; omega, Int.le_refl _, hn.sq0, hn.sq1, hn.n1, hn.own⟩, hi.dok, hi.br, hi.calm, hi.sec, hi.con, by show usSeen n J + 0 ≤ (J.P : Int); omega, ?_, hi.dat, hi.non⟩
  intro p id hp
  have hr := farI_range J.hd ho.p0 p
  have hf := u2 p id hp
  have hr2 := told_range (show told J.T.os p = some id from hp)
  refine ⟨J.hd - farI J.hd J.P p, by show J.hd - usSeen n J ≤ _; omega, by show _ < J.hd; omega, (farI_back J.hd ho.p0 hr2.1 ?_).symm⟩
  have := ho.os
  omega
theorem scan_told (h : Told n J D has) (hsq : J.sq < 281474976710655) (he : epoI (fndsN (n : Int) D J.P) ≠ 4294967295) :
    scanSt (fndsN (n : Int) D J.P) J.P n = some (Jr.js (J.seen (epoI (fndsN (n : Int) D J.P) + 1) (usSeen n J))) := by
  have hs := truth_sq h.tr h.lays
  have hh := truth_head h.tr h.lays
  have hhd : ((J.hd.toNat : Nat) : Int) = J.hd := by have := h.inv.ok.hd0; omega
  unfold scanSt
  rw [hs, if_neg (by rintro (h1 | h1); exact he h1; omega), hh, told_where h, hhd]
  rfl
theorem epo_le (h : Told n J D has) {E : Int} (hE : ∀ p t, p < J.P → tellsT J.P D p = some t → t.ep ≤ E) (h0 : 0 ≤ E) : epoI (fndsN (n : Int) D J.P) ≤ E :=
  foldmax_le (fun x : Fnd => x.1.ep) _ 0 h0 fun x hx => by
    have h1 := (h.lays.iff x.1 x.2).1 hx
    exact hE _ _ h1.1 h1.2
theorem le_epo (h : Told n J D has) {p : Nat} {t : Tg} (hp : p < J.P) (ht : tellsT J.P D p = some t) : t.ep ≤ epoI (fndsN (n : Int) D J.P) :=
  (le_foldmax (fun x : Fnd => x.1.ep) (fndsN (n : Int) D J.P) 0).2 (t, p) ((h.lays.iff t p).2 ⟨hp, ht⟩)
end
end Go.Proofs.YtlfooilcngjeiaaGreat
namespace Go.Proofs.YtlfooilcngjeiaaGreat
set_option linter.unusedVariables false
set_option linter.unusedSimpArgs false
open Go.RowKit Go.SL
/-- The device without what waits. -/
def Dev.dry (D : Dev) : Dev := { D with wait := [] }
theorem dry_tells (D : Dev) (a : Int) : (Dev.dry D).tells a = if (kget D.torn a).isSome then (3, []) else (0, padTo 512 (D.sec.getD a.toNat [])) := rfl
theorem fate_tells (D : Dev) (f : Int) (x : Int × List UInt8) (hx : D.has x.1) (a : Int) (ha : D.has a) :
    (Dev.dry (D.fate f x)).tells a = if x.1 = a then (if f = 1 then (0, padTo 512 x.2) else if f = 2 then (3, []) else (Dev.dry D).tells a) else (Dev.dry D).tells a := by
  unfold Dev.fate
  by_cases h1 : f = 1
  · rw [if_pos h1, if_pos h1]
    have h := done_tells (Dev.dry D) x hx rfl a ha
    have e : Dev.dry (D.done x) = (Dev.dry D).done x := rfl
    rw [e, h]
  · rw [if_neg h1, if_neg h1]
    by_cases h2 : f = 2
    · rw [if_pos h2, if_pos h2, dry_tells, dry_tells]
      have e : (D.tear x).torn = SL.upd D.torn x.1 () := rfl
      have e2 : (D.tear x).sec = D.sec := rfl
      rw [e, e2, kget_upd]
      by_cases h3 : x.1 = a
      · rw [if_pos h3, if_pos h3.symm]; rfl
      · rw [if_neg h3, if_neg (show ¬ a = x.1 from fun q => h3 q.symm)]
    · rw [if_neg h2, if_neg h2]
      split <;> rfl
theorem fate_sec (D : Dev) (f : Int) (x : Int × List UInt8) : (D.fate f x).sec.length = D.sec.length := by
  unfold Dev.fate
  split
  · show (D.sec.set _ _).length = _; rw [List.length_set]
  · split <;> rfl
theorem fates_tells (D : Dev) (keep : List Int) (hw : ∀ x ∈ D.wait, D.has x.1) (hn : (D.wait.map Prod.fst).Nodup) (a : Int) (ha : D.has a) : ∀ k, k ≤ D.wait.length →
    (∀ i (hi : i < D.wait.length), i < k → a = D.wait[i].1 → (Dev.dry (D.fates keep k)).tells a = if keep.getD i 0 = 1 then (0, padTo 512 D.wait[i].2) else if keep.getD i 0 = 2 then (3, []) else (Dev.dry D).tells a) ∧
    ((∀ i (hi : i < D.wait.length), i < k → a ≠ D.wait[i].1) → (Dev.dry (D.fates keep k)).tells a = (Dev.dry D).tells a) := by
  intro k
  induction k with
  | zero => intro _; exact ⟨fun i _ hi => absurd hi (Nat.not_lt_zero i), fun _ => rfl⟩
  | succ k ih =>
    intro hk
    obtain ⟨h1, h2⟩ := ih (by omega)
    obtain ⟨f1, f2, f3⟩ := fates_keep D keep k
    have hg : D.wait[k]? = some D.wait[k] := List.getElem?_eq_getElem (by omega)
    have hst : D.fates keep (k + 1) = (D.fates keep k).fate (keep.getD k 0) D.wait[k] := by
      show (match D.wait[k]? with | some p => _ | none => _) = _
      rw [hg]
    have hx : (D.fates keep k).has D.wait[k].1 := by
      have := hw _ (List.getElem_mem (by omega : k < D.wait.length))
      unfold Dev.has at this ⊢
      rw [f3]; exact this
    have ha' : (D.fates keep k).has a := by unfold Dev.has at ha ⊢; rw [f3]; exact ha
    have ht := fate_tells (D.fates keep k) (keep.getD k 0) D.wait[k] hx a ha'
    rw [hst, ht]
    have hinj : ∀ i (hi : i < D.wait.length), i < k → D.wait[k].1 ≠ D.wait[i].1 := by
      intro i hi hik e
      have e2 : (D.wait.map Prod.fst)[k]'(by rw [List.length_map]; omega) = (D.wait.map Prod.fst)[i]'(by simpa using hi) := by simpa using e
      have := nd_inj hn _ _ e2
      omega
    refine ⟨fun i hi hik e => ?_, fun h => ?_⟩
    · rcases Nat.lt_or_eq_of_le (Nat.lt_succ_iff.1 hik) with h3 | h3
      · rw [if_neg (fun q => hinj i hi h3 (q.trans e))]
        exact h1 i hi h3 e
      · subst h3
        rw [if_pos e.symm]
        have hno := h2 fun j hj hjk q => hinj j hj hjk (e.symm.trans q)
        rw [hno]
    · rw [if_neg (fun q => h k (by omega) (by omega) q.symm)]
      exact h2 fun i hi hik => h i hi (by omega)
/-- A device behind a crash, started again. -/
def Dev.again (D : Dev) (keep : List Int) : Dev := { D.crash keep with down := false }
theorem again_calm (D : Dev) (keep : List Int) : (Dev.again D keep).Calm := ⟨rfl, rfl⟩
theorem again_tells (D : Dev) (keep : List Int) (a : Int) : (Dev.again D keep).tells a = (Dev.dry (D.fates keep D.wait.length)).tells a := rfl
/-- A device within a batch: the first m sectors wait. -/
structure Mid (J : Jr) (D : Dev) (has : Has) (L : Bl) (m : Nat) (E : Dev) : Prop where
  sec : E.sec = D.flushed.sec
  torn : E.torn = D.flushed.torn
  wait : E.wait = wrsL J (wrOf (L ++ movB J has L)) m
  m : m ≤ (L ++ movB J has L).length
theorem mid_devC (J : Jr) (D : Dev) (has : Has) (L : Bl) : Mid J D has L (L ++ movB J has L).length (devC J D has L) := ⟨rfl, rfl, rfl, Nat.le_refl _⟩
theorem flushed_len (D : Dev) : D.flushed.sec.length = D.sec.length := by
  show (({ D with cf := i64w (D.cf + 1) } : Dev).doneAll D.wait).sec.length = _
  generalize D.wait = l
  have : ∀ (l : List (Int × List UInt8)) (D : Dev), (D.doneAll l).sec.length = D.sec.length := by
    intro l
    induction l with
    | nil => intro D; rfl
    | cons x l ih =>
      intro D
      show (Dev.doneAll (D.done x) l).sec.length = _
      rw [ih, (D.done_sec x).1]
  exact this l _
section
variable {n : Nat} {J : Jr} {D E : Dev} {has : Has} {L : Bl} {m : Nat} {keep : List Int}
theorem Mid.dry (h : Mid J D has L m E) (a : Int) : (Dev.dry E).tells a = D.flushed.tells a := by
  rw [dry_tells, h.sec, h.torn]; rfl
theorem Mid.len (h : Mid J D has L m E) : E.wait.length = m := by rw [h.wait]; simp [wrsL]
theorem Mid.get (h : Mid J D has L m E) (i : Nat) (hi : i < E.wait.length) :
    E.wait[i] = ((J.hd + (i : Int)) % (J.P : Int) + 1, enc (J.tag i (wrOf (L ++ movB J has L)).length ((wrOf (L ++ movB J has L)).getD i Wr.nil).1) ++ ((wrOf (L ++ movB J has L)).getD i Wr.nil).2.2) := by
  have : ∀ (l : List (Int × List UInt8)) (e : E.wait = l) (hi' : i < l.length), E.wait[i] = l[i] := by intro l e hi'; subst e; rfl
  rw [this _ h.wait (by rw [← h.wait]; exact hi)]
  simp [wrsL]
theorem Mid.nd (h : Mid J D has L m E) (hI : JInv J D has) (hm : m ≤ J.P) : (E.wait.map Prod.fst).Nodup := by
  rw [h.wait]
  unfold wrsL
  rw [List.map_map, List.nodup_iff_pairwise_ne, List.pairwise_map]
  refine List.Pairwise.imp_of_mem ?_ (List.nodup_iff_pairwise_ne.1 (List.nodup_range (n := m)))
  intro a b ha hb hne e
  have ha' := List.mem_range.1 ha
  have hb' := List.mem_range.1 hb
  have e2 : (J.hd + (a : Int)) % (J.P : Int) + 1 = (J.hd + (b : Int)) % (J.P : Int) + 1 := e
  have e3 : (J.hd + (a : Int)) % (J.P : Int) = (J.hd + (b : Int)) % (J.P : Int) := by omega
  rcases Nat.lt_or_gt_of_ne hne with h1 | h1
  · exact emod_ne (a := J.hd + (b : Int)) (b := J.hd + (a : Int)) (by omega) (by omega) e3.symm
  · exact emod_ne (a := J.hd + (a : Int)) (b := J.hd + (b : Int)) (by omega) (by omega) e3
/-- What the sectors tell behind a crash within a batch. -/
theorem mid_tells (h : Mid J D has L m E) (hI : JInv J D has) (hb : Batch J.n L) (hf : ¬ (J.P : Int) - J.us - J.fr < ((L ++ movB J has L).length : Int)) :
    (∀ i : Nat, i < m → (Dev.again E keep).tells ((J.hd + (i : Int)) % (J.P : Int) + 1) = if keep.getD i 0 = 1 then (0, enc (tagA J (L ++ movB J has L) i) ++ ((L ++ movB J has L).getD i (0, [])).2) else if keep.getD i 0 = 2 then (3, []) else D.tells ((J.hd + (i : Int)) % (J.P : Int) + 1)) ∧
    ∀ a : Int, D.has a → (∀ i : Nat, i < m → a ≠ (J.hd + (i : Int)) % (J.P : Int) + 1) → (Dev.again E keep).tells a = D.tells a := by
  have hA := allB hI hb
  have hfr0 := hI.ok.fr0
  have hus0 := hI.ok.us0
  have hp0 := hI.ok.p0
  have hmk := h.m
  have hmP : m ≤ J.P := by omega
  have hwl : (wrOf (L ++ movB J has L)).length = (L ++ movB J has L).length := by simp [wrOf]
  have hsec := hI.sec
  have hlen := h.len
  have hsl : E.sec.length = D.sec.length := by rw [h.sec, flushed_len]
  have hr : ∀ i : Nat, 0 ≤ (J.hd + (i : Int)) % (J.P : Int) ∧ (J.hd + (i : Int)) % (J.P : Int) < (J.P : Int) := fun i => ⟨Int.emod_nonneg _ (by omega), Int.emod_lt_of_pos _ (by omega)⟩
  have hw : ∀ x ∈ E.wait, E.has x.1 := by
    intro x hx
    obtain ⟨i, hi, e⟩ := List.getElem_of_mem hx
    rw [h.get i hi] at e
    subst e
    have := hr i
    exact ⟨by show (0 : Int) ≤ _ + 1; omega, by show _ + 1 < (E.sec.length : Int); omega⟩
  have hnd := h.nd hI hmP
  refine ⟨fun i hi => ?_, fun a ha hne => ?_⟩
  · have hr' := hr i
    have hi' : i < E.wait.length := by omega
    have ha : D.has ((J.hd + (i : Int)) % (J.P : Int) + 1) := ⟨by omega, by omega⟩
    have hEa : E.has ((J.hd + (i : Int)) % (J.P : Int) + 1) := ⟨by omega, by omega⟩
    have h1 := (fates_tells E keep hw hnd _ hEa E.wait.length (Nat.le_refl _)).1 i hi' hi' (by rw [h.get i hi'])
    have hm : (L ++ movB J has L).getD i (0, []) ∈ L ++ movB J has L := by rw [List.getD, List.getElem?_eq_getElem (by omega)]; exact List.getElem_mem _
    rw [again_tells, h1, h.dry, flushed_tells hI.dok _ ha, h.get i hi']
    simp only
    rw [hwl, (plain_get _ _).1, (plain_get _ _).2, plain_wrOf, padTo_self (by rw [List.length_append, enc_length, (hA.b _ hm).1])]
    rfl
  · have hEa : E.has a := ⟨ha.1, by have := ha.2; omega⟩
    have h1 := (fates_tells E keep hw hnd _ hEa E.wait.length (Nat.le_refl _)).2 fun i hi _ e => hne i (by omega) (by rw [e, h.get i hi])
    rw [again_tells, h1, h.dry, flushed_tells hI.dok _ ha]
theorem mid_part (h : Mid J D has L m E) (hT : JT n J D has) (hb : Batch J.n L) (hsq : J.sq < 281474976710655) (hf : ¬ (J.P : Int) - J.us - J.fr < ((L ++ movB J has L).length : Int)) (hP : 2 * n ≤ J.P) :
    Part J.P (tellsT J.P D) (tellsT J.P (Dev.again E keep)) J.hd.toNat (L ++ movB J has L).length (tagA J (L ++ movB J has L)) ∧
    (∀ i, i < (L ++ movB J has L).length → (tellsT J.P (Dev.again E keep) ((J.hd.toNat + i) % J.P) = some (tagA J (L ++ movB J has L) i) ↔ i < m ∧ keep.getD i 0 = 1)) := by
  have hg := batch_tags hT hb hsq hP hf
  have hnum := hT.inv.nums.numbers hsq
  obtain ⟨t1, t2⟩ := mid_tells (keep := keep) h hT.inv hb hf
  have hsec := hT.inv.sec
  have hp0 := hT.inv.ok.p0
  have hmk := h.m
  have hfr0 := hT.inv.ok.fr0
  have hus0 := hT.inv.ok.us0
  have hr : ∀ i : Nat, 0 ≤ (J.hd + (i : Int)) % (J.P : Int) ∧ (J.hd + (i : Int)) % (J.P : Int) < (J.P : Int) := fun i => ⟨Int.emod_nonneg _ (by omega), Int.emod_lt_of_pos _ (by omega)⟩
  have hold : ∀ i, i < (L ++ movB J has L).length → tellsT J.P D ((J.hd.toNat + i) % J.P) ≠ some (tagA J (L ++ movB J has L) i) := by
    intro i hi e
    have h1 := hT.run.ep _ _ (Nat.mod_lt _ hp0) e
    have h2 := (h1.2 (hg.ok i hi).2.1).2.sq
    have h3 := (hg.ok i hi).2.2.2.1
    omega
  have hcase : ∀ i, i < (L ++ movB J has L).length → (i < m ∧ keep.getD i 0 = 1 ∧ tellsT J.P (Dev.again E keep) ((J.hd.toNat + i) % J.P) = some (tagA J (L ++ movB J has L) i)) ∨
      (¬ (i < m ∧ keep.getD i 0 = 1) ∧ (tellsT J.P (Dev.again E keep) ((J.hd.toNat + i) % J.P) = tellsT J.P D ((J.hd.toNat + i) % J.P) ∨ tellsT J.P (Dev.again E keep) ((J.hd.toNat + i) % J.P) = none)) := by
    intro i hi
    have hpc := place_cast hT.inv.ok i
    by_cases him : i < m
    · have h1 := t1 i him
      rw [← hpc] at h1
      by_cases hk : keep.getD i 0 = 1
      · rw [if_pos hk] at h1
        exact .inl ⟨him, hk, tellsT_enc (Nat.mod_lt _ hp0) h1 (Jr.tag_fit hnum _ _ _) (hg.ok i hi).1⟩
      · rw [if_neg hk] at h1
        refine .inr ⟨fun c => hk c.2, ?_⟩
        by_cases hk2 : keep.getD i 0 = 2
        · rw [if_pos hk2] at h1
          right
          unfold tellsT
          rw [h1, if_neg (by simp)]
        · rw [if_neg hk2] at h1
          exact .inl (tellsT_at h1)
    · refine .inr ⟨fun c => him c.1, .inl (tellsT_at ?_)⟩
      have hpr := hr i
      refine t2 _ ⟨by omega, by omega⟩ fun k hk e => ?_
      have e2 : (J.hd + (i : Int)) % (J.P : Int) = (J.hd + (k : Int)) % (J.P : Int) := by omega
      exact emod_ne (a := J.hd + (i : Int)) (b := J.hd + (k : Int)) (by omega) (by omega) e2
  refine ⟨⟨fun i hi => ?_, fun p hp hne => ?_⟩, fun i hi => ⟨fun e => ?_, fun ⟨a, b⟩ => ?_⟩⟩
  · rcases hcase i hi with ⟨_, _, e⟩ | ⟨_, e | e⟩
    · exact .inl e
    · exact .inr (.inl e)
    · exact .inr (.inr e)
  · refine tellsT_at (t2 _ ⟨by omega, by omega⟩ fun i hi e => hne i (by omega) (place_inj hT.inv.ok e))
  · rcases hcase i hi with ⟨a, b, _⟩ | ⟨_, e1 | e1⟩
    · exact ⟨a, b⟩
    · exact absurd (e1 ▸ e) (hold i hi)
    · rw [e1] at e; cases e
  · rcases hcase i hi with ⟨_, _, e⟩ | ⟨c, _⟩
    · exact e
    · exact absurd ⟨a, b⟩ c
theorem again_ok (h : Mid J D has L m E) (hI : JInv J D has) : (Dev.again E keep).Ok ∧ (Dev.again E keep).sec.length = D.sec.length := by
  have hk := (fates_keep E keep E.wait.length).2.2
  have hsl : E.sec.length = D.sec.length := by rw [h.sec, flushed_len]
  have e : (Dev.again E keep).sec.length = D.sec.length := hk.trans hsl
  exact ⟨⟨by rw [e]; exact hI.dok.n, by simp [Dev.again, Dev.crash], by simp [Dev.again, Dev.crash], by simp [Dev.again, Dev.crash]⟩, e⟩
/-- A crash that does not keep all of the batch: the journal ahead of it. -/
theorem mid_lost (h : Mid J D has L m E) (hT : JT n J D has) (hb : Batch J.n L) (hsq : J.sq < 281474976710655) (hf : ¬ (J.P : Int) - J.us - J.fr < ((L ++ movB J has L).length : Int)) (hP : 2 * n ≤ J.P)
    {i0 : Nat} (h0 : i0 < (L ++ movB J has L).length) (h1 : ¬ (i0 < m ∧ keep.getD i0 0 = 1)) : Told n J (Dev.again E keep) has := by
  obtain ⟨hp, hn⟩ := mid_part (keep := keep) h hT hb hsq hf hP
  have hg := batch_tags hT hb hsq hP hf
  have ht := truth_part hg hT.run hp h0 fun e => h1 ((hn i0 h0).1 e)
  obtain ⟨_, t2⟩ := mid_tells (keep := keep) h hT.inv hb hf
  obtain ⟨o1, o2⟩ := again_ok (keep := keep) h hT.inv
  have hi := hT.inv
  have hp0 := hi.ok.p0
  have hmk := h.m
  refine ⟨⟨hi.ok, hi.nums, o1, hi.br, again_calm _ _, by rw [o2]; exact hi.sec, hi.con, hi.rm, hi.win, fun id p hp => ?_, hi.non⟩, hT.jn, ht⟩
  obtain ⟨t, b, a1, a2, a3, a4⟩ := hi.dat id p hp
  have hpl := hi.place hp
  refine ⟨t, b, a1, a2, ?_, a4⟩
  rw [t2 (p + 1) (hi.hasPlace hp) fun i hi2 e => ?_]
  · exact a3
  · have hfree := hg.free id p.toNat (by unfold atOf; rw [hp]; rfl) i (by omega)
    have := place_cast hi.ok i
    omega
/-- A crash that keeps all of the batch: the journal behind it. -/
theorem mid_kept (h : Mid J D has L (L ++ movB J has L).length E) (hT : JT n J D has) (hb : Batch J.n L) (hsq : J.sq < 281474976710655) (hf : ¬ (J.P : Int) - J.us - J.fr < ((L ++ movB J has L).length : Int)) (hP : 2 * n ≤ J.P)
    (h1 : ∀ i, i < (L ++ movB J has L).length → keep.getD i 0 = 1) : Told n (J.done (L ++ movB J has L) (J.cleaned L.length)) (Dev.again E keep) (updB has L) := by
  have hJT := jt_commit hT hb hsq hf hP
  obtain ⟨t1, t2⟩ := mid_tells (keep := keep) h hT.inv hb hf
  obtain ⟨o1, o2⟩ := again_ok (keep := keep) h hT.inv
  obtain ⟨m1, m2⟩ := mid_tells (E := devC J D has L) (keep := keep) (mid_devC J D has L) hT.inv hb hf
  obtain ⟨u1, u2⟩ := devC_tells hT hb hf
  have hsec := hT.inv.sec
  have hlC : (devC J D has L).sec.length = D.sec.length := flushed_len D
  have hall : ∀ a, (devC J D has L).has a → (Dev.again E keep).tells a = (devC J D has L).tells a := by
    intro a ha
    have haD : D.has a := ⟨ha.1, by have := ha.2; omega⟩
    by_cases hw : ∃ i : Nat, i < (L ++ movB J has L).length ∧ a = (J.hd + (i : Int)) % (J.P : Int) + 1
    · obtain ⟨i, hi, rfl⟩ := hw
      rw [t1 i hi, if_pos (h1 i hi), u1 i hi]
    · have hne : ∀ i : Nat, i < (L ++ movB J has L).length → a ≠ (J.hd + (i : Int)) % (J.P : Int) + 1 := fun i hi e => hw ⟨i, hi, e⟩
      rw [t2 a haD hne]
      have hfr0 := hT.inv.ok.fr0
      have hus0 := hT.inv.ok.us0
      have h3 := (newest_wrs J hT.inv.ok.p0 (wrOf (L ++ movB J has L)) a (L ++ movB J has L).length (by omega)).2 hne
      have e : (devC J D has L).tells a = D.flushed.tells a := by
        unfold Dev.tells
        show (match newest (wrsL J (wrOf (L ++ movB J has L)) (L ++ movB J has L).length) _ with | some l => _ | none => _) = _
        rw [h3]
        rfl
      rw [e, flushed_tells hT.inv.dok _ haD]
  have hj := hJT.inv.dev o1 (again_calm _ _) (o2.trans hlC.symm) hall
  refine (hJT.dev hj fun p hp => ?_).told
  have hp' : p < J.P := hp
  exact hall _ ⟨by omega, by omega⟩
end
end Go.Proofs.YtlfooilcngjeiaaGreat
namespace Go.Proofs.YtlfooilcngjeiaaGreat
set_option linter.unusedVariables false
set_option linter.unusedSimpArgs false
open Go.RowKit Go.SL
section
variable {n P B : Nat} {J : Jr} {D : Dev} {has : Has}
theorem jw_room (hW : JW n P B J D has) (hP : 5 * n + 240 ≤ 2 * P) {L : Bl} (hb : Batch (n : Int) L) : ¬ (J.P : Int) - J.us - J.fr < ((L ++ movB J has L).length : Int) :=
  never_full hW.inv hW.bound (by rw [hW.jn, hW.jP]; omega) (by rw [hW.jn]; exact hb)
/-- A truth that has a tag of this epoch. -/
def HasEp (P : Nat) (D : Dev) (e : Int) : Prop := ∃ p t, p < P ∧ tellsT P D p = some t ∧ t.ep = e
theorem jt_done (hW : JW n P B J D has) (hT : JT n J D has) (hP : 5 * n + 240 ≤ 2 * P) (hB : B ≤ 1000000) {L : Bl} (hb : Batch (n : Int) L) :
    jcommit J D true L = (0, J.done (L ++ movB J has L) (J.cleaned L.length), devC J D has L) ∧ JW n P (B + 1) (J.done (L ++ movB J has L) (J.cleaned L.length)) (devC J D has L) (updB has L) ∧
    JT n (J.done (L ++ movB J has L) (J.cleaned L.length)) (devC J D has L) (updB has L) ∧ HasEp P (devC J D has L) 1 := by
  obtain ⟨J', D', h1, h2, h3⟩ := jw_commit hW hP hB hb
  have hb' : Batch J.n L := by rw [hW.jn]; exact hb
  have hsq : J.sq < 281474976710655 := by have := hW.sq; omega
  have hf := jw_room hW hP hb
  have hd := commit_dev hW.inv hb' hsq hf
  rw [hd.run] at h1
  simp only [Prod.mk.injEq, true_and] at h1
  obtain ⟨rfl, rfl⟩ := h1
  have hjP := hW.jP
  have h2n : 2 * n ≤ J.P := by omega
  refine ⟨hd.run, h2, jt_commit hT hb' hsq hf h2n, ?_⟩
  obtain ⟨hp, hnew⟩ := devC_part hT hb' hsq hf h2n
  have hg := batch_tags hT hb' hsq h2n hf
  refine ⟨(J.hd.toNat + 0) % P, tagA J (L ++ movB J has L) 0, Nat.mod_lt _ (by have := hW.inv.ok.p0; omega), ?_, (hg.ok 0 hg.k0).2.1.trans hW.ep⟩
  rw [← hjP]; exact hnew 0 hg.k0
end
section
variable (w : World) (S : Hp) (j d : Nat) (J : Jr) (D : Dev) (F : Assn) (v : Value) (L : Wo) (has : Has) {n P B : Nat}
def CtQ (S : Hp) (j d n P B : Nat) (v : Value) (L : Wo) (J : Jr) (D : Dev) (has : Has) (F : Assn) (w : World) (e : Ending) (w' : World) : Prop :=
  ∃ S' J' D', Ext S S' ∧ e = .returned (.int .i64 0) ∧ J' = J.done (L.bl ++ movB J has L.bl) (J.cleaned L.bl.length) ∧ D' = devC J D has L.bl ∧ Sat w' (jrA j d J' * (devA S' d D' * (pool S' * (wrsA v L * F)))) ∧ Side w w' ∧ JW n P (B + 1) J' D' (updB has L.bl) ∧ JT n J' D' (updB has L.bl) ∧ HasEp P D' 1
theorem ct_any (h : Sat w (jrA j d J * (devA S d D * (pool S * (wrsA v L * F))))) (hW : JW n P B J D has) (hT : JT n J D has) (hP : 5 * n + 240 ≤ 2 * P) (hB : B ≤ 1000000) (h480 : ∀ x ∈ L, x.2.2.length = 480) (hb : Batch (n : Int) L.bl) :
    Calls Tryz.prog 9 #[ptV j, v] w (CtQ S j d n P B v L J D has F w) := by
  obtain ⟨h1, h2, h3, h4⟩ := jt_done hW hT hP hB hb
  have hl := hb.n1
  rw [bl_len] at hl
  have := commitW_any w S j d J D F v L has h hW.inv h480 (by omega) true ⟨fun _ => may_batch (by rw [hW.jn]; exact hb), fun _ => rfl⟩
  rw [h1] at this
  exact this.mono fun e w' ⟨S', a, b, c, dd⟩ => ⟨S', _, _, a, b, rfl, rfl, c, dd, h2, h3, h4⟩
/-- Scan of a device that tells the truth. -/
def StQ (S : Hp) (d n P B : Nat) (J : Jr) (D : Dev) (has : Has) (F : Assn) (w : World) (e : Ending) (w' : World) : Prop :=
  ∃ g r ep us, e = .returned (.tuple #[(Jr.js (J.seen ep us)).v (.slice (some ⟨g, 0, none⟩) n n), .int .i64 0]) ∧ (ep = epoI (fndsN (n : Int) D P) + 1) ∧ us = usSeen n J ∧ 0 ≤ us ∧ us ≤ J.us ∧
    Sat w' (pt g (.cells (ints (Jr.ats J)) 3 (0, 0)) * (devA S d { D with cr := r } * (pool S * F))) ∧ Side w w' ∧ r = addN D.cr P
theorem st_any (h : Sat w (devA S d D * (pool S * F))) (hT : Told n J D has) (hPJ : J.P = P) (hsq : J.sq < 281474976710655) (hn : 1 ≤ n) (he : epoI (fndsN (n : Int) D P) ≠ 4294967295) :
    Calls Tryz.prog 10 #[ptV d, .int .i64 (P : Int), .int .i64 (n : Int)] w (StQ S d n P B J D has F w) := by
  subst hPJ
  obtain ⟨u0, u1, _⟩ := us_range hT
  have hs := scan_told hT hsq he
  have hsec := hT.inv.sec
  have hn1 := hT.inv.nums.n1
  have hjn := hT.jn
  have hps := hT.inv.ok.ps
  have hr := scanR_calm hT.inv.calm (by have := hT.inv.ok.p0; omega) (by omega) hn (by omega) _ hs
  have hc := scan_any w S d D (J.P : Int) (n : Int) F h hT.inv.dok
  rw [hr] at hc
  refine hc.mono fun e w' ⟨v, he2, hsat, hside⟩ => ?_
  obtain ⟨g, hv, h2⟩ := stSome hsat
  have hl : (Jr.ats J).length = n := by rw [ats_length]; omega
  refine ⟨g, _, _, _, ?_, rfl, rfl, u0, u1, h2, hside, rfl⟩
  rw [he2, hv]
  show Ending.returned (.tuple #[(Jr.js (J.seen _ _)).v (.slice (some ⟨g, 0, none⟩) (Jr.ats J).length (Jr.ats J).length), _]) = _
  rw [hl]; rfl
end
theorem jw_scan {n P B : Nat} {J : Jr} {D : Dev} {has : Has} (h : JW n P B J D has) (hB : B ≤ 1000000) (hP : P ≤ 200) : JW n P (B + 2) J { D with cr := addN D.cr P } has := by
  have e1 := h.cr0; have e2 := h.cr1
  have e3 : addN D.cr P = D.cr + (P : Int) := addN_eq _ e1 (by omega)
  refine ⟨h.inv.cr _, h.bound, h.jn, h.jP, h.ep, h.st, by have := h.sq; omega, ?_, ?_, h.cw0, by have := h.cw1; show D.cw ≤ _; omega, h.cf0, by have := h.cf1; show D.cf ≤ _; omega⟩
  · show 0 ≤ addN D.cr P; omega
  · show addN D.cr P ≤ _; omega
theorem jt_scan {n : Nat} {J : Jr} {D : Dev} {has : Has} (h : JT n J D has) (r : Int) : JT n J { D with cr := r } has := h.dev (h.inv.cr r) fun _ _ => rfl
theorem epo_one {n P B : Nat} {J : Jr} {D : Dev} {has : Has} (hW : JW n P B J D has) (hT : JT n J D has) (he : HasEp P D 1) : epoI (fndsN (n : Int) D P) = 1 := by
  have hjP := hW.jP
  subst hjP
  have h1 := epo_le hT.told (E := 1) (fun p t hp ht => by have := (hT.run.ep p t hp ht).1; have := hW.ep; omega) (by decide)
  obtain ⟨p, t, hp, ht, he⟩ := he
  have h2 := le_epo hT.told hp ht
  omega
end Go.Proofs.YtlfooilcngjeiaaGreat

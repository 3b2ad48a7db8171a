/- Steps towards the statement StoreC. -/
import Derived.Test.YtdafdidmbeecfaaGreatDoorStoreCP31
import Derived.Test.YtdafdidmbeecfaaGreatDoorStoreCP33
section
namespace Go.Proofs.YtdafdidmbeecfaaGreatDoor
set_option linter.unusedVariables false
set_option linter.unusedSimpArgs false
open Go.RowKit Go.SL
def farI (hd : Int) (P : Nat) (p : Int) : Int := if (hd - p) % (P : Int) = 0 then (P : Int) else (hd - p) % (P : Int)
theorem farI_range (hd : Int) {P : Nat} (hP : 0 < P) (p : Int) : 1 ≤ farI hd P p ∧ farI hd P p ≤ (P : Int) := by
 have h1 := Int.emod_nonneg (hd - p) (show (P : Int) ≠ 0 by omega)
 have h2 := Int.emod_lt_of_pos (hd - p) (show (0 : Int) < (P : Int) by omega)
 unfold farI; split <;> omega
theorem farI_back (hd : Int) {P : Nat} (hP : 0 < P) {p : Int} (h0 : 0 ≤ p) (h1 : p < (P : Int)) : (hd - farI hd P p) % (P : Int) = p := by
 have e := Int.emod_add_mul_ediv (hd - p) (P : Int)
 have e1 : ∃ k : Int, hd - farI hd P p = p + (P : Int) * k := by
  unfold farI
  split
  ·exact ⟨(hd - p) / (P : Int) - 1, by rw [Int.mul_sub]; omega⟩
  ·exact ⟨(hd - p) / (P : Int), by omega⟩
 obtain ⟨k, e1⟩ := e1
 rw [e1, Int.add_mul_emod_self_left, Int.emod_eq_of_lt h0 h1]
theorem farI_of (hd : Int) {P : Nat} (hP : 0 < P) {p a us : Int} (h1 : hd - us ≤ a) (h2 : a < hd) (h3 : us ≤ (P : Int)) (hp : p = a % (P : Int)) : farI hd P p = hd - a := by
 have e : (hd - p) % (P : Int) = (hd - a) % (P : Int) := by
  rw [hp, Int.sub_emod, Int.emod_emod_of_dvd _ (Int.dvd_refl _), ← Int.sub_emod]
 unfold farI
 rw [e]
 by_cases hlt : hd - a < (P : Int)
 ·rw [Int.emod_eq_of_lt (by omega) hlt, if_neg (by omega)]
 ·have e2 : hd - a = (P : Int) := by omega
  rw [e2, Int.emod_self, if_pos rfl]
theorem ustep_far (hd : Int) (P : Nat) (n p : Int) : ustep hd P n p = if p < 0 then n else max n (farI hd P p) := rfl
theorem used_fold (hd : Int) (P : Nat) : ∀ (l : List Int) (n : Int), n ≤ l.foldl (ustep hd P) n ∧ (∀ p ∈ l, 0 ≤ p → farI hd P p ≤ l.foldl (ustep hd P) n) ∧ ∀ M, n ≤ M → (∀ p ∈ l, 0 ≤ p → farI hd P p ≤ M) → l.foldl (ustep hd P) n ≤ M
 | [], n => ⟨Int.le_refl _, by simp, fun M h _ => h⟩
 | x :: l, n => by
  rw [List.foldl_cons]
  obtain ⟨h1, h2, h3⟩ := used_fold hd P l (ustep hd P n x)
  have hx := ustep_far hd P n x
  refine ⟨?_, fun p hp h0 => ?_, fun M hM hl => ?_⟩
  ·split at hx <;> omega
  ·rcases List.mem_cons.1 hp with rfl | hp
   ·rw [if_neg (by omega)] at hx; omega
   ·exact h2 p hp h0
  ·refine h3 M ?_ fun p hp h0 => hl p (by simp [hp]) h0
   rw [hx]
   split
   ·exact hM
   ·have := hl x (by simp) (by omega); omega
def _root_.Go.SL.Jr.seen (J : Jr) (ep us : Int) : Jr := { J with ep := ep, st := J.sq + 1, us := us, fr := 0 }
structure Told (n : Nat) (J : Jr) (D : Dev) (has : Has) : Prop where
 inv : JInv J D has
 jn : J.n = (n : Int)
 tr : Truth n J.P (tellsT J.P D) J.sq J.hd.toNat (atOf J)
theorem JT.told {n : Nat} {J : Jr} {D : Dev} {has : Has} (h : JT n J D has) : Told n J D has := ⟨h.inv, h.jn, h.run.tr⟩
section
variable {n : Nat} {J : Jr} {D : Dev} {has : Has}
theorem Told.lays (h : Told n J D has) : Lays J.P (tellsT J.P D) (fndsN (n : Int) D J.P) := fnds_lays fun p t hp ht => (h.tr.tag p t hp ht).2.2.2
theorem told_where (h : Told n J D has) : whereL (freshL (fndsN (n : Int) D J.P)) J.sq n = Jr.ats J := by
 have hps := h.inv.ok.ps
 have hjn := h.jn
 have hl : J.T.ps.length = n := by omega
 apply List.ext_getElem
 ·rw [whereL_len, ats_length, hl]
 ·intro k h1 h2
  rw [whereL_len] at h1
  have e1 := truth_at h.tr h.lays h1
  rw [List.getD, List.getElem?_eq_getElem (by rw [whereL_len]; exact h1), Option.getD_some] at e1
  have e2 : (Jr.ats J)[k] = (told J.T.ps (k : Int)).getD (-1) := by simp [Jr.ats]
  rw [e1, e2]
  unfold atOf
  cases ht : told J.T.ps (k : Int) with
  | none => rfl
  | some p =>
   have := h.inv.place ht
   show ((p.toNat : Nat) : Int) = p
   omega
def usSeen (n : Nat) (J : Jr) : Int := usedI (Jr.ats J) J.hd J.P
theorem us_range (h : Told n J D has) : 0 ≤ usSeen n J ∧ usSeen n J ≤ J.us ∧ ∀ p id, told J.T.os p = some id → farI J.hd J.P p ≤ usSeen n J := by
 obtain ⟨h1, h2, h3⟩ := used_fold J.hd J.P (Jr.ats J) 0
 have hmem : ∀ p ∈ Jr.ats J, 0 ≤ p → ∃ id, told J.T.ps id = some p := by
  intro p hp h0
  obtain ⟨k, hk, e⟩ := List.getElem_of_mem hp
  have e2 : (Jr.ats J)[k] = (told J.T.ps (k : Int)).getD (-1) := by simp [Jr.ats]
  rw [e] at e2
  cases ht : told J.T.ps (k : Int) with
  | none => rw [ht, Option.getD_none] at e2; omega
  | some q => rw [ht, Option.getD_some] at e2; exact ⟨k, by rw [ht, e2]⟩
 refine ⟨h1, h3 _ h.inv.ok.us0 fun p hp h0 => ?_, fun p id hp => h2 p ?_ ?_⟩
 ·obtain ⟨id, ht⟩ := hmem p hp h0
  obtain ⟨a, a1, a2, a3⟩ := h.inv.win _ _ (h.inv.con.pq _ _ ht)
  rw [farI_of J.hd h.inv.ok.p0 a1 a2 h.inv.ok.us1 a3]; omega
 ·have ht := h.inv.con.qp _ _ hp
  have hr := told_range ht
  have e2 : (Jr.ats J)[id.toNat]'(by rw [ats_length]; omega) = (told J.T.ps ((id.toNat : Nat) : Int)).getD (-1) := by simp [Jr.ats]
  have e3 : ((id.toNat : Nat) : Int) = id := by omega
  rw [e3, ht, Option.getD_some] at e2
  exact e2 ▸ List.getElem_mem _
 ·exact (told_range hp).1
theorem seen_inv (h : Told n J D has) {ep : Int} (h0 : 1 ≤ ep) (h1 : ep < 4294967296) : JInv (J.seen ep (usSeen n J)) D has := by
 obtain ⟨u0, u1, u2⟩ := us_range h
 have hi := h.inv
 have ho := hi.ok
 have hn := hi.nums
 have hus1 := ho.us1
 refine ⟨⟨ho.p0, ho.p1, ho.T, ho.ps, ho.os, u0, by show usSeen n J ≤ (J.P : Int); omega, ho.hd0, ho.hd1, Int.le_refl _, by show (0 : Int) ≤ 48; decide⟩, ⟨h0, h1, by show 1 ≤ J.sq + 1; have := hn.sq0; omega, Int.le_refl _, hn.sq0, hn.sq1, hn.n1, hn.own⟩, hi.dok, hi.br, hi.calm, hi.sec, hi.con, by show usSeen n J + 0 ≤ (J.P : Int); omega, ?_, hi.dat, hi.non⟩
 intro p id hp
 have hr := farI_range J.hd ho.p0 p
 have hf := u2 p id hp
 have hr2 := told_range (show told J.T.os p = some id from hp)
 refine ⟨J.hd - farI J.hd J.P p, by show J.hd - usSeen n J ≤ _; omega, by show _ < J.hd; omega, (farI_back J.hd ho.p0 hr2.1 ?_).symm⟩
 have := ho.os
 omega
theorem scan_told (h : Told n J D has) (hsq : J.sq < 281474976710655) (he : epoI (fndsN (n : Int) D J.P) ≠ 4294967295) :
  scanSt (fndsN (n : Int) D J.P) J.P n = some (Jr.js (J.seen (epoI (fndsN (n : Int) D J.P) + 1) (usSeen n J))) := by
 have hs := truth_sq h.tr h.lays
 have hh := truth_head h.tr h.lays
 have hhd : ((J.hd.toNat : Nat) : Int) = J.hd := by have := h.inv.ok.hd0; omega
 unfold scanSt
 rw [hs, if_neg (by rintro (h1 | h1); exact he h1; omega), hh, told_where h, hhd]
 rfl
theorem epo_le (h : Told n J D has) {E : Int} (hE : ∀ p t, p < J.P → tellsT J.P D p = some t → t.ep ≤ E) (h0 : 0 ≤ E) : epoI (fndsN (n : Int) D J.P) ≤ E :=
 foldmax_le (fun x : Fnd => x.1.ep) _ 0 h0 fun x hx => by
  have h1 := (h.lays.iff x.1 x.2).1 hx
  exact hE _ _ h1.1 h1.2
theorem le_epo (h : Told n J D has) {p : Nat} {t : Tg} (hp : p < J.P) (ht : tellsT J.P D p = some t) : t.ep ≤ epoI (fndsN (n : Int) D J.P) :=
 (le_foldmax (fun x : Fnd => x.1.ep) (fndsN (n : Int) D J.P) 0).2 (t, p) ((h.lays.iff t p).2 ⟨hp, ht⟩)
end
end Go.Proofs.YtdafdidmbeecfaaGreatDoor
namespace Go.Proofs.YtdafdidmbeecfaaGreatDoor
set_option linter.unusedVariables false
set_option linter.unusedSimpArgs false
open Go.RowKit Go.SL
def Dev.dry (D : Dev) : Dev := { D with wait := [] }
theorem dry_tells (D : Dev) (a : Int) : (Dev.dry D).tells a = if (kget D.torn a).isSome then (3, []) else (0, padTo 512 (D.sec.getD a.toNat [])) := rfl
theorem fate_tells (D : Dev) (f : Int) (x : Int × List UInt8) (hx : D.has x.1) (a : Int) (ha : D.has a) :
  (Dev.dry (D.fate f x)).tells a = if x.1 = a then (if f = 1 then (0, padTo 512 x.2) else if f = 2 then (3, []) else (Dev.dry D).tells a) else (Dev.dry D).tells a := by
 unfold Dev.fate
 by_cases h1 : f = 1
 ·rw [if_pos h1, if_pos h1]
  have h := done_tells (Dev.dry D) x hx rfl a ha
  have e : Dev.dry (D.done x) = (Dev.dry D).done x := rfl
  rw [e, h]
 ·rw [if_neg h1, if_neg h1]
  by_cases h2 : f = 2
  ·rw [if_pos h2, if_pos h2, dry_tells, dry_tells]
   have e : (D.tear x).torn = SL.upd D.torn x.1 () := rfl
   have e2 : (D.tear x).sec = D.sec := rfl
   rw [e, e2, kget_upd]
   by_cases h3 : x.1 = a
   ·rw [if_pos h3, if_pos h3.symm]; rfl
   ·rw [if_neg h3, if_neg (show ¬ a = x.1 from fun q => h3 q.symm)]
  ·rw [if_neg h2, if_neg h2]
   split <;> rfl
theorem fate_sec (D : Dev) (f : Int) (x : Int × List UInt8) : (D.fate f x).sec.length = D.sec.length := by
 unfold Dev.fate
 split
 ·show (D.sec.set _ _).length = _; rw [List.length_set]
 ·split <;> rfl
theorem fates_tells (D : Dev) (keep : List Int) (hw : ∀ x ∈ D.wait, D.has x.1) (hn : (D.wait.map Prod.fst).Nodup) (a : Int) (ha : D.has a) : ∀ k, k ≤ D.wait.length →
  (∀ i (hi : i < D.wait.length), i < k → a = D.wait[i].1 → (Dev.dry (D.fates keep k)).tells a = if keep.getD i 0 = 1 then (0, padTo 512 D.wait[i].2) else if keep.getD i 0 = 2 then (3, []) else (Dev.dry D).tells a) ∧
  ((∀ i (hi : i < D.wait.length), i < k → a ≠ D.wait[i].1) → (Dev.dry (D.fates keep k)).tells a = (Dev.dry D).tells a) := by
 intro k
 induction k with
 | zero => intro _; exact ⟨fun i _ hi => absurd hi (Nat.not_lt_zero i), fun _ => rfl⟩
 | succ k ih =>
  intro hk
  obtain ⟨h1, h2⟩ := ih (by omega)
  obtain ⟨f1, f2, f3⟩ := fates_keep D keep k
  have hg : D.wait[k]? = some D.wait[k] := List.getElem?_eq_getElem (by omega)
  have hst : D.fates keep (k + 1) = (D.fates keep k).fate (keep.getD k 0) D.wait[k] := by
   show (match D.wait[k]? with | some p => _ | none => _) = _
   rw [hg]
  have hx : (D.fates keep k).has D.wait[k].1 := by
   have := hw _ (List.getElem_mem (by omega : k < D.wait.length))
   unfold Dev.has at this ⊢
   rw [f3]; exact this
  have ha' : (D.fates keep k).has a := by unfold Dev.has at ha ⊢; rw [f3]; exact ha
  have ht := fate_tells (D.fates keep k) (keep.getD k 0) D.wait[k] hx a ha'
  rw [hst, ht]
  have hinj : ∀ i (hi : i < D.wait.length), i < k → D.wait[k].1 ≠ D.wait[i].1 := by
   intro i hi hik e
   have e2 : (D.wait.map Prod.fst)[k]'(by rw [List.length_map]; omega) = (D.wait.map Prod.fst)[i]'(by simpa using hi) := by simpa using e
   have := nd_inj hn _ _ e2
   omega
  refine ⟨fun i hi hik e => ?_, fun h => ?_⟩
  ·rcases Nat.lt_or_eq_of_le (Nat.lt_succ_iff.1 hik) with h3 | h3
   ·rw [if_neg (fun q => hinj i hi h3 (q.trans e))]
    exact h1 i hi h3 e
   ·subst h3
    rw [if_pos e.symm]
    have hno := h2 fun j hj hjk q => hinj j hj hjk (e.symm.trans q)
    rw [hno]
  ·rw [if_neg (fun q => h k (by omega) (by omega) q.symm)]
   exact h2 fun i hi hik => h i hi (by omega)
def Dev.again (D : Dev) (keep : List Int) : Dev := { D.crash keep with down := false }
theorem again_calm (D : Dev) (keep : List Int) : (Dev.again D keep).Calm := ⟨rfl, rfl⟩
theorem again_tells (D : Dev) (keep : List Int) (a : Int) : (Dev.again D keep).tells a = (Dev.dry (D.fates keep D.wait.length)).tells a := rfl
structure Mid (J : Jr) (D : Dev) (has : Has) (L : Bl) (m : Nat) (E : Dev) : Prop where
 sec : E.sec = D.flushed.sec
 torn : E.torn = D.flushed.torn
 wait : E.wait = wrsL J (wrOf (L ++ movB J has L)) m
 m : m ≤ (L ++ movB J has L).length
theorem mid_devC (J : Jr) (D : Dev) (has : Has) (L : Bl) : Mid J D has L (L ++ movB J has L).length (devC J D has L) := ⟨rfl, rfl, rfl, Nat.le_refl _⟩
theorem flushed_len (D : Dev) : D.flushed.sec.length = D.sec.length := by
 show (({ D with cf := i64w (D.cf + 1) } : Dev).doneAll D.wait).sec.length = _
 generalize D.wait = l
 have : ∀ (l : List (Int × List UInt8)) (D : Dev), (D.doneAll l).sec.length = D.sec.length := by
  intro l
  induction l with
  | nil => intro D; rfl
  | cons x l ih =>
   intro D
   show (Dev.doneAll (D.done x) l).sec.length = _
   rw [ih, (D.done_sec x).1]
 exact this l _
section
variable {n : Nat} {J : Jr} {D E : Dev} {has : Has} {L : Bl} {m : Nat} {keep : List Int}
theorem Mid.dry (h : Mid J D has L m E) (a : Int) : (Dev.dry E).tells a = D.flushed.tells a := by
 rw [dry_tells, h.sec, h.torn]; rfl
theorem Mid.len (h : Mid J D has L m E) : E.wait.length = m := by rw [h.wait]; simp [wrsL]
theorem Mid.get (h : Mid J D has L m E) (i : Nat) (hi : i < E.wait.length) :
  E.wait[i] = ((J.hd + (i : Int)) % (J.P : Int) + 1, enc (J.tag i (wrOf (L ++ movB J has L)).length ((wrOf (L ++ movB J has L)).getD i Wr.nil).1) ++ ((wrOf (L ++ movB J has L)).getD i Wr.nil).2.2) := by
 have : ∀ (l : List (Int × List UInt8)) (e : E.wait = l) (hi' : i < l.length), E.wait[i] = l[i] := by intro l e hi'; subst e; rfl
 rw [this _ h.wait (by rw [← h.wait]; exact hi)]
 simp [wrsL]
theorem Mid.nd (h : Mid J D has L m E) (hI : JInv J D has) (hm : m ≤ J.P) : (E.wait.map Prod.fst).Nodup := by
 rw [h.wait]
 unfold wrsL
 rw [List.map_map, List.nodup_iff_pairwise_ne, List.pairwise_map]
 refine List.Pairwise.imp_of_mem ?_ (List.nodup_iff_pairwise_ne.1 (List.nodup_range (n := m)))
 intro a b ha hb hne e
 have ha' := List.mem_range.1 ha
 have hb' := List.mem_range.1 hb
 have e2 : (J.hd + (a : Int)) % (J.P : Int) + 1 = (J.hd + (b : Int)) % (J.P : Int) + 1 := e
 have e3 : (J.hd + (a : Int)) % (J.P : Int) = (J.hd + (b : Int)) % (J.P : Int) := by omega
 rcases Nat.lt_or_gt_of_ne hne with h1 | h1
 ·exact emod_ne (a := J.hd + (b : Int)) (b := J.hd + (a : Int)) (by omega) (by omega) e3.symm
 ·exact emod_ne (a := J.hd + (a : Int)) (b := J.hd + (b : Int)) (by omega) (by omega) e3
theorem mid_tells (h : Mid J D has L m E) (hI : JInv J D has) (hb : Batch J.n L) (hf : ¬ (J.P : Int) - J.us - J.fr < ((L ++ movB J has L).length : Int)) :
  (∀ i : Nat, i < m → (Dev.again E keep).tells ((J.hd + (i : Int)) % (J.P : Int) + 1) = if keep.getD i 0 = 1 then (0, enc (tagA J (L ++ movB J has L) i) ++ ((L ++ movB J has L).getD i (0, [])).2) else if keep.getD i 0 = 2 then (3, []) else D.tells ((J.hd + (i : Int)) % (J.P : Int) + 1)) ∧
  ∀ a : Int, D.has a → (∀ i : Nat, i < m → a ≠ (J.hd + (i : Int)) % (J.P : Int) + 1) → (Dev.again E keep).tells a = D.tells a := by
 have hA := allB hI hb
 have hfr0 := hI.ok.fr0
 have hus0 := hI.ok.us0
 have hp0 := hI.ok.p0
 have hmk := h.m
 have hmP : m ≤ J.P := by omega
 have hwl : (wrOf (L ++ movB J has L)).length = (L ++ movB J has L).length := by simp [wrOf]
 have hsec := hI.sec
 have hlen := h.len
 have hsl : E.sec.length = D.sec.length := by rw [h.sec, flushed_len]
 have hr : ∀ i : Nat, 0 ≤ (J.hd + (i : Int)) % (J.P : Int) ∧ (J.hd + (i : Int)) % (J.P : Int) < (J.P : Int) := fun i => ⟨Int.emod_nonneg _ (by omega), Int.emod_lt_of_pos _ (by omega)⟩
 have hw : ∀ x ∈ E.wait, E.has x.1 := by
  intro x hx
  obtain ⟨i, hi, e⟩ := List.getElem_of_mem hx
  rw [h.get i hi] at e
  subst e
  have := hr i
  exact ⟨by show (0 : Int) ≤ _ + 1; omega, by show _ + 1 < (E.sec.length : Int); omega⟩
 have hnd := h.nd hI hmP
 refine ⟨fun i hi => ?_, fun a ha hne => ?_⟩
 ·have hr' := hr i
  have hi' : i < E.wait.length := by omega
  have ha : D.has ((J.hd + (i : Int)) % (J.P : Int) + 1) := ⟨by omega, by omega⟩
  have hEa : E.has ((J.hd + (i : Int)) % (J.P : Int) + 1) := ⟨by omega, by omega⟩
  have h1 := (fates_tells E keep hw hnd _ hEa E.wait.length (Nat.le_refl _)).1 i hi' hi' (by rw [h.get i hi'])
  have hm : (L ++ movB J has L).getD i (0, []) ∈ L ++ movB J has L := by rw [List.getD, List.getElem?_eq_getElem (by omega)]; exact List.getElem_mem _
  rw [again_tells, h1, h.dry, flushed_tells hI.dok _ ha, h.get i hi']
  simp only
  rw [hwl, (plain_get _ _).1, (plain_get _ _).2, plain_wrOf, padTo_self (by rw [List.length_append, enc_length, (hA.b _ hm).1])]
  rfl
 ·have hEa : E.has a := ⟨ha.1, by have := ha.2; omega⟩
  have h1 := (fates_tells E keep hw hnd _ hEa E.wait.length (Nat.le_refl _)).2 fun i hi _ e => hne i (by omega) (by rw [e, h.get i hi])
  rw [again_tells, h1, h.dry, flushed_tells hI.dok _ ha]
theorem mid_part (h : Mid J D has L m E) (hT : JT n J D has) (hb : Batch J.n L) (hsq : J.sq < 281474976710655) (hf : ¬ (J.P : Int) - J.us - J.fr < ((L ++ movB J has L).length : Int)) (hP : 2 * n ≤ J.P) :
  Part J.P (tellsT J.P D) (tellsT J.P (Dev.again E keep)) J.hd.toNat (L ++ movB J has L).length (tagA J (L ++ movB J has L)) ∧
  (∀ i, i < (L ++ movB J has L).length → (tellsT J.P (Dev.again E keep) ((J.hd.toNat + i) % J.P) = some (tagA J (L ++ movB J has L) i) ↔ i < m ∧ keep.getD i 0 = 1)) := by
 have hg := batch_tags hT hb hsq hP hf
 have hnum := hT.inv.nums.numbers hsq
 obtain ⟨t1, t2⟩ := mid_tells (keep := keep) h hT.inv hb hf
 have hsec := hT.inv.sec
 have hp0 := hT.inv.ok.p0
 have hmk := h.m
 have hfr0 := hT.inv.ok.fr0
 have hus0 := hT.inv.ok.us0
 have hr : ∀ i : Nat, 0 ≤ (J.hd + (i : Int)) % (J.P : Int) ∧ (J.hd + (i : Int)) % (J.P : Int) < (J.P : Int) := fun i => ⟨Int.emod_nonneg _ (by omega), Int.emod_lt_of_pos _ (by omega)⟩
 have hold : ∀ i, i < (L ++ movB J has L).length → tellsT J.P D ((J.hd.toNat + i) % J.P) ≠ some (tagA J (L ++ movB J has L) i) := by
  intro i hi e
  have h1 := hT.run.ep _ _ (Nat.mod_lt _ hp0) e
  have h2 := (h1.2 (hg.ok i hi).2.1).2.sq
  have h3 := (hg.ok i hi).2.2.2.1
  omega
 have hcase : ∀ i, i < (L ++ movB J has L).length → (i < m ∧ keep.getD i 0 = 1 ∧ tellsT J.P (Dev.again E keep) ((J.hd.toNat + i) % J.P) = some (tagA J (L ++ movB J has L) i)) ∨
   (¬ (i < m ∧ keep.getD i 0 = 1) ∧ (tellsT J.P (Dev.again E keep) ((J.hd.toNat + i) % J.P) = tellsT J.P D ((J.hd.toNat + i) % J.P) ∨ tellsT J.P (Dev.again E keep) ((J.hd.toNat + i) % J.P) = none)) := by
  intro i hi
  have hpc := place_cast hT.inv.ok i
  by_cases him : i < m
  ·have h1 := t1 i him
   rw [← hpc] at h1
   by_cases hk : keep.getD i 0 = 1
   ·rw [if_pos hk] at h1
    exact .inl ⟨him, hk, tellsT_enc (Nat.mod_lt _ hp0) h1 (Jr.tag_fit hnum _ _ _) (hg.ok i hi).1⟩
   ·rw [if_neg hk] at h1
    refine .inr ⟨fun c => hk c.2, ?_⟩
    by_cases hk2 : keep.getD i 0 = 2
    ·rw [if_pos hk2] at h1
     right
     unfold tellsT
     rw [h1, if_neg (by simp)]
    ·rw [if_neg hk2] at h1
     exact .inl (tellsT_at h1)
  ·refine .inr ⟨fun c => him c.1, .inl (tellsT_at ?_)⟩
   have hpr := hr i
   refine t2 _ ⟨by omega, by omega⟩ fun k hk e => ?_
   have e2 : (J.hd + (i : Int)) % (J.P : Int) = (J.hd + (k : Int)) % (J.P : Int) := by omega
   exact emod_ne (a := J.hd + (i : Int)) (b := J.hd + (k : Int)) (by omega) (by omega) e2
 refine ⟨⟨fun i hi => ?_, fun p hp hne => ?_⟩, fun i hi => ⟨fun e => ?_, fun ⟨a, b⟩ => ?_⟩⟩
 ·rcases hcase i hi with ⟨_, _, e⟩ | ⟨_, e | e⟩
  ·exact .inl e
  ·exact .inr (.inl e)
  ·exact .inr (.inr e)
 ·refine tellsT_at (t2 _ ⟨by omega, by omega⟩ fun i hi e => hne i (by omega) (place_inj hT.inv.ok e))
 ·rcases hcase i hi with ⟨a, b, _⟩ | ⟨_, e1 | e1⟩
  ·exact ⟨a, b⟩
  ·exact absurd (e1 ▸ e) (hold i hi)
  ·rw [e1] at e; cases e
 ·rcases hcase i hi with ⟨_, _, e⟩ | ⟨c, _⟩
  ·exact e
  ·exact absurd ⟨a, b⟩ c
theorem again_ok (h : Mid J D has L m E) (hI : JInv J D has) : (Dev.again E keep).Ok ∧ (Dev.again E keep).sec.length = D.sec.length := by
 have hk := (fates_keep E keep E.wait.length).2.2
 have hsl : E.sec.length = D.sec.length := by rw [h.sec, flushed_len]
 have e : (Dev.again E keep).sec.length = D.sec.length := hk.trans hsl
 exact ⟨⟨by rw [e]; exact hI.dok.n, by simp [Dev.again, Dev.crash], by simp [Dev.again, Dev.crash], by simp [Dev.again, Dev.crash]⟩, e⟩
theorem mid_lost (h : Mid J D has L m E) (hT : JT n J D has) (hb : Batch J.n L) (hsq : J.sq < 281474976710655) (hf : ¬ (J.P : Int) - J.us - J.fr < ((L ++ movB J has L).length : Int)) (hP : 2 * n ≤ J.P)
  {i0 : Nat} (h0 : i0 < (L ++ movB J has L).length) (h1 : ¬ (i0 < m ∧ keep.getD i0 0 = 1)) : Told n J (Dev.again E keep) has := by
 obtain ⟨hp, hn⟩ := mid_part (keep := keep) h hT hb hsq hf hP
 have hg := batch_tags hT hb hsq hP hf
 have ht := truth_part hg hT.run hp h0 fun e => h1 ((hn i0 h0).1 e)
 obtain ⟨_, t2⟩ := mid_tells (keep := keep) h hT.inv hb hf
 obtain ⟨o1, o2⟩ := again_ok (keep := keep) h hT.inv
 have hi := hT.inv
 have hp0 := hi.ok.p0
 have hmk := h.m
 refine ⟨⟨hi.ok, hi.nums, o1, hi.br, again_calm _ _, by rw [o2]; exact hi.sec, hi.con, hi.rm, hi.win, fun id p hp => ?_, hi.non⟩, hT.jn, ht⟩
 obtain ⟨t, b, a1, a2, a3, a4⟩ := hi.dat id p hp
 have hpl := hi.place hp
 refine ⟨t, b, a1, a2, ?_, a4⟩
 rw [t2 (p + 1) (hi.hasPlace hp) fun i hi2 e => ?_]
 ·exact a3
 ·have hfree := hg.free id p.toNat (by unfold atOf; rw [hp]; rfl) i (by omega)
  have := place_cast hi.ok i
  omega
theorem mid_kept (h : Mid J D has L (L ++ movB J has L).length E) (hT : JT n J D has) (hb : Batch J.n L) (hsq : J.sq < 281474976710655) (hf : ¬ (J.P : Int) - J.us - J.fr < ((L ++ movB J has L).length : Int)) (hP : 2 * n ≤ J.P)
  (h1 : ∀ i, i < (L ++ movB J has L).length → keep.getD i 0 = 1) : Told n (J.done (L ++ movB J has L) (J.cleaned L.length)) (Dev.again E keep) (updB has L) := by
 have hJT := jt_commit hT hb hsq hf hP
 obtain ⟨t1, t2⟩ := mid_tells (keep := keep) h hT.inv hb hf
 obtain ⟨o1, o2⟩ := again_ok (keep := keep) h hT.inv
 obtain ⟨m1, m2⟩ := mid_tells (E := devC J D has L) (keep := keep) (mid_devC J D has L) hT.inv hb hf
 obtain ⟨u1, u2⟩ := devC_tells hT hb hf
 have hsec := hT.inv.sec
 have hlC : (devC J D has L).sec.length = D.sec.length := flushed_len D
 have hall : ∀ a, (devC J D has L).has a → (Dev.again E keep).tells a = (devC J D has L).tells a := by
  intro a ha
  have haD : D.has a := ⟨ha.1, by have := ha.2; omega⟩
  by_cases hw : ∃ i : Nat, i < (L ++ movB J has L).length ∧ a = (J.hd + (i : Int)) % (J.P : Int) + 1
  ·obtain ⟨i, hi, rfl⟩ := hw
   rw [t1 i hi, if_pos (h1 i hi), u1 i hi]
  ·have hne : ∀ i : Nat, i < (L ++ movB J has L).length → a ≠ (J.hd + (i : Int)) % (J.P : Int) + 1 := fun i hi e => hw ⟨i, hi, e⟩
   rw [t2 a haD hne]
   have hfr0 := hT.inv.ok.fr0
   have hus0 := hT.inv.ok.us0
   have h3 := (newest_wrs J hT.inv.ok.p0 (wrOf (L ++ movB J has L)) a (L ++ movB J has L).length (by omega)).2 hne
   have e : (devC J D has L).tells a = D.flushed.tells a := by
    unfold Dev.tells
    show (match newest (wrsL J (wrOf (L ++ movB J has L)) (L ++ movB J has L).length) _ with | some l => _ | none => _) = _
    rw [h3]
    rfl
   rw [e, flushed_tells hT.inv.dok _ haD]
 have hj := hJT.inv.dev o1 (again_calm _ _) (o2.trans hlC.symm) hall
 refine (hJT.dev hj fun p hp => ?_).told
 have hp' : p < J.P := hp
 exact hall _ ⟨by omega, by omega⟩
end
end Go.Proofs.YtdafdidmbeecfaaGreatDoor
end
section
namespace Go.Proofs.YtdafdidmbeecfaaGreatDoor
set_option linter.unusedVariables false
set_option linter.unusedSimpArgs false
open Go.RowKit Go.SL
theorem seen_bound {n : Nat} {J : Jr} {D : Dev} {has : Has} (h : Told n J D has) (hb : JBound J) (ep : Int) : JBound (J.seen ep (usSeen n J)) := by
 obtain ⟨u0, u1, _⟩ := us_range h
 have hp0 := h.inv.ok.p0
 intro k hk
 have hk' : (k : Int) ≤ usSeen n J := hk
 have hJus : (J.seen ep (usSeen n J)).us = usSeen n J := rfl
 obtain ⟨c, hc⟩ : ∃ c : Nat, (c : Int) = J.us - usSeen n J := ⟨(J.us - usSeen n J).toNat, by omega⟩
 have hcnt := cnt_mono (T := J.T) (T' := J.T) (P := J.P) (f := Jr.tail J) (f' := Jr.tail (J.seen ep (usSeen n J))) (c := c) k fun i hi hx => by
  have e : ((Jr.tail (J.seen ep (usSeen n J)) + i) % J.P : Nat) = (Jr.tail J + (c + i)) % J.P := by
   have e1 : ((Jr.tail (J.seen ep (usSeen n J)) : Nat) : Int) = (J.hd - usSeen n J) % (J.P : Int) := Int.toNat_of_nonneg (Int.emod_nonneg _ (show (J.P : Int) ≠ 0 by omega))
   have e2 : ((Jr.tail J : Nat) : Int) = (J.hd - J.us) % (J.P : Int) := Int.toNat_of_nonneg (Int.emod_nonneg _ (show (J.P : Int) ≠ 0 by omega))
   have e3 : (((Jr.tail (J.seen ep (usSeen n J)) + i) % J.P : Nat) : Int) = (((Jr.tail J + (c + i)) % J.P : Nat) : Int) := by
    rw [Int.natCast_emod, Int.natCast_emod, Int.natCast_add, Int.natCast_add, Int.natCast_add, e1, e2, Int.emod_add_emod, Int.emod_add_emod]
    congr 1; omega
   omega
  rw [← e]; exact hx
 have h2 := hb (c + k) (by omega)
 show 2 * usSeen n J - (k : Int) + 2 * (cntN J.T J.P (Jr.tail (J.seen ep (usSeen n J))) k : Int) ≤ 5 * J.n
 omega
def _root_.Go.SL.Jr.opened (n : Nat) (J : Jr) (ep : Int) : Jr := Jr.ofS J.P (Jr.js (J.seen ep (usSeen n J)))
section
variable {n P B : Nat} {J : Jr} {D : Dev} {has : Has} {ep : Int}
theorem opened_inv (h : Told n J D has) (hn : 1 ≤ n) (h0 : 1 ≤ ep) (h1 : ep < 4294967296) : JInv (J.opened n ep) D has := made_inv (seen_inv h h0 h1) (by show 1 ≤ J.n; rw [h.jn]; omega)
theorem opened_told (h : Told n J D has) (h0 : 1 ≤ ep) (h1 : ep < 4294967296) : ∀ x, told (J.opened n ep).T.ps x = told J.T.ps x := made_told (J := J.seen ep (usSeen n J)) (seen_inv h h0 h1)
theorem opened_n (h : Told n J D has) : (J.opened n ep).n = (n : Int) := by
 show ((Jr.ats J).length : Int) = _
 rw [ats_length, h.inv.ok.ps, h.jn]
theorem opened_bound (h : Told n J D has) (hb : JBound J) (h0 : 1 ≤ ep) (h1 : ep < 4294967296) : JBound (J.opened n ep) := made_bound (seen_inv h h0 h1) (seen_bound h hb ep)
theorem opened_jt (h : Told n J D has) (hn : 1 ≤ n) (hE : ∀ p t, p < J.P → tellsT J.P D p = some t → t.ep < ep) (h0 : 1 ≤ ep) (h1 : ep < 4294967296) : JT n (J.opened n ep) D has := by
 refine ⟨opened_inv h hn h0 h1, opened_n h, ?_⟩
 have e : atOf (J.opened n ep) = atOf J := by
  funext id
  unfold atOf
  rw [opened_told h h0 h1]
 rw [e]
 exact h.tr.run hE
end
structure Numb (B : Nat) (D : Dev) : Prop where
 cr0 : 0 ≤ D.cr
 cr1 : D.cr ≤ 30000 * (B : Int)
 cw0 : 0 ≤ D.cw
 cw1 : D.cw ≤ 30000 * (B : Int)
 cf0 : 0 ≤ D.cf
 cf1 : D.cf ≤ 10 * (B : Int)
theorem Numb.more {B B' : Nat} {D : Dev} (h : Numb B D) (hB : B ≤ B') : Numb B' D := ⟨h.cr0, by have := h.cr1; omega, h.cw0, by have := h.cw1; omega, h.cf0, by have := h.cf1; omega⟩
structure Mnt (n P B : Nat) (Sp : List UInt8) (J : Jr) (D : Dev) (has : Has) : Prop where
 told : Told n J D has
 bound : JBound J
 jP : J.P = P
 sq : J.sq ≤ (B : Int)
 ep : ∀ p t, p < P → tellsT P D p = some t → t.ep ≤ (B : Int)
 sup : D.tells 0 = (0, Sp)
structure Sj (n P B : Nat) (Sp : List UInt8) (J : Jr) (D : Dev) (has : Has) : Prop where
 jt : JT n J D has
 bound : JBound J
 jP : J.P = P
 sq : J.sq ≤ (B : Int)
 ep : J.ep ≤ (B : Int)
 sup : D.tells 0 = (0, Sp)
section
variable {n P B : Nat} {Sp : List UInt8} {J : Jr} {D E : Dev} {has : Has} {L : Bl} {m : Nat} {keep : List Int}
theorem Sj.more {B' : Nat} (h : Sj n P B Sp J D has) (hB : B ≤ B') : Sj n P B' Sp J D has := ⟨h.jt, h.bound, h.jP, by have := h.sq; omega, by have := h.ep; omega, h.sup⟩
theorem Mnt.more {B' : Nat} (h : Mnt n P B Sp J D has) (hB : B ≤ B') : Mnt n P B' Sp J D has := ⟨h.told, h.bound, h.jP, by have := h.sq; omega, fun p t h1 h2 => by have := h.ep p t h1 h2; omega, h.sup⟩
theorem Sj.eps (h : Sj n P B Sp J D has) : ∀ p t, p < P → tellsT P D p = some t → t.ep ≤ (B : Int) := fun p t h1 h2 => by
 have hP := h.jP
 subst hP
 have := (h.jt.run.ep p t h1 h2).1
 have := h.ep
 omega
theorem Sj.mnt (h : Sj n P B Sp J D has) : Mnt n P B Sp J D has := ⟨h.jt.told, h.bound, h.jP, h.sq, h.eps, h.sup⟩
theorem Sj.dev (h : Sj n P B Sp J D has) (hi : JInv J E has) (ht : ∀ a, D.has a → E.tells a = D.tells a) : Sj n P B Sp J E has := by
 have hsec := h.jt.inv.sec
 exact ⟨h.jt.dev hi fun p hp => ht _ ⟨by omega, by omega⟩, h.bound, h.jP, h.sq, h.ep, by rw [ht 0 ⟨by omega, by omega⟩]; exact h.sup⟩
theorem Sj.cr (h : Sj n P B Sp J D has) (r : Int) : Sj n P B Sp J { D with cr := r } has := h.dev (h.jt.inv.cr r) fun _ _ => rfl
theorem Sj.flushed (h : Sj n P B Sp J D has) : Sj n P B Sp J D.flushed has := h.dev h.jt.inv.flushed fun a ha => flushed_tells h.jt.inv.dok a ha
theorem Mnt.dev (h : Mnt n P B Sp J D has) (hi : JInv J E has) (ht : ∀ a, D.has a → E.tells a = D.tells a) : Mnt n P B Sp J E has := by
 have hsec := h.told.inv.sec
 have hP := h.jP
 subst hP
 have e : tellsT J.P E = tellsT J.P D := tellsT_congr fun p hp => ht _ ⟨by omega, by omega⟩
 exact ⟨⟨hi, h.told.jn, by rw [e]; exact h.told.tr⟩, h.bound, rfl, h.sq, by rw [e]; exact h.ep, by rw [ht 0 ⟨by omega, by omega⟩]; exact h.sup⟩
theorem Mnt.cr (h : Mnt n P B Sp J D has) (r : Int) : Mnt n P B Sp J { D with cr := r } has := h.dev (h.told.inv.cr r) fun _ _ => rfl
theorem Mnt.flushed (h : Mnt n P B Sp J D has) : Mnt n P B Sp J D.flushed has := h.dev h.told.inv.flushed fun a ha => flushed_tells h.told.inv.dok a ha
theorem Mnt.epo (h : Mnt n P B Sp J D has) : epoI (fndsN (n : Int) D P) ≤ (B : Int) ∧ 0 ≤ epoI (fndsN (n : Int) D P) := by
 have hP := h.jP
 subst hP
 exact ⟨epo_le h.told h.ep (by omega), (le_foldmax (fun x : Fnd => x.1.ep) (fndsN (n : Int) D J.P) 0).1⟩
theorem Mnt.opened (h : Mnt n P B Sp J D has) (hn : 1 ≤ n) (hB : B ≤ 1000000) : Sj n P (B + 1) Sp (J.opened n (epoI (fndsN (n : Int) D P) + 1)) D has := by
 obtain ⟨e1, e2⟩ := h.epo
 have hP := h.jP
 subst hP
 refine ⟨opened_jt h.told hn (fun p t hp ht => by have := le_epo h.told hp ht; omega) (by omega) (by omega), opened_bound h.told h.bound (by omega) (by omega), rfl, by show J.sq ≤ _; have := h.sq; omega, ?_, h.sup⟩
 show epoI (fndsN (n : Int) D J.P) + 1 ≤ _
 omega
theorem Sj.room (h : Sj n P B Sp J D has) (hP : 5 * n + 240 ≤ 2 * P) (hb : Batch (n : Int) L) : ¬ (J.P : Int) - J.us - J.fr < ((L ++ movB J has L).length : Int) :=
 never_full h.jt.inv h.bound (by rw [h.jt.jn, h.jP]; omega) (by rw [h.jt.jn]; exact hb)
theorem devC_tells0 (h : JInv J D has) (hf : ¬ (J.P : Int) - J.us - J.fr < ((L ++ movB J has L).length : Int)) : (devC J D has L).tells 0 = D.tells 0 := by
 have hfr0 := h.ok.fr0
 have hus0 := h.ok.us0
 have hp0 := h.ok.p0
 have hsec := h.sec
 have h1 := (newest_wrs J h.ok.p0 (wrOf (L ++ movB J has L)) 0 (L ++ movB J has L).length (by omega)).2 fun i hi e => by
  have := Int.emod_nonneg (J.hd + (i : Int)) (show (J.P : Int) ≠ 0 by omega)
  omega
 have e : (devC J D has L).tells 0 = D.flushed.tells 0 := by
  unfold Dev.tells
  show (match newest (wrsL J (wrOf (L ++ movB J has L)) (L ++ movB J has L).length) _ with | some l => _ | none => _) = _
  rw [h1]
  rfl
 rw [e]
 exact flushed_tells h.dok _ ⟨by omega, by omega⟩
theorem Sj.commit (h : Sj n P B Sp J D has) (hP : 5 * n + 240 ≤ 2 * P) (hB : B ≤ 1000000) (hb : Batch (n : Int) L) :
  jcommit J D true L = (0, J.done (L ++ movB J has L) (J.cleaned L.length), devC J D has L) ∧ Sj n P (B + 1) Sp (J.done (L ++ movB J has L) (J.cleaned L.length)) (devC J D has L) (updB has L) := by
 have hb' : Batch J.n L := by rw [h.jt.jn]; exact hb
 have hsq : J.sq < 281474976710655 := by have := h.sq; omega
 have hf := h.room hP hb
 have h2n : 2 * n ≤ J.P := by rw [h.jP]; omega
 refine ⟨(commit_dev h.jt.inv hb' hsq hf).run, jt_commit h.jt hb' hsq hf h2n, bound_done h.jt.inv h.bound hb' hf, h.jP, ?_, by show J.ep ≤ _; have := h.ep; omega, ?_⟩
 ·show J.sq + 1 ≤ _; have := h.sq; omega
 ·rw [devC_tells0 h.jt.inv hf]; exact h.sup
theorem mid_tells0 (h : Mid J D has L m E) (hI : JInv J D has) (hb : Batch J.n L) (hf : ¬ (J.P : Int) - J.us - J.fr < ((L ++ movB J has L).length : Int)) : (Dev.again E keep).tells 0 = D.tells 0 := by
 have hsec := hI.sec
 have hp0 := hI.ok.p0
 refine (mid_tells h hI hb hf).2 0 ⟨by omega, by omega⟩ fun i hi e => ?_
 have := Int.emod_nonneg (J.hd + (i : Int)) (show (J.P : Int) ≠ 0 by omega)
 omega
theorem mid_eps (h : Mid J D has L m E) (hS : Sj n P B Sp J D has) (hP : 5 * n + 240 ≤ 2 * P) (hB : B ≤ 1000000) (hb : Batch (n : Int) L) : ∀ p t, p < P → tellsT P (Dev.again E keep) p = some t → t.ep ≤ (B : Int) := by
 have hb' : Batch J.n L := by rw [hS.jt.jn]; exact hb
 have hsq : J.sq < 281474976710655 := by have := hS.sq; omega
 have hf := hS.room hP hb
 have hjP := hS.jP
 subst hjP
 obtain ⟨hp, _⟩ := mid_part (keep := keep) h hS.jt hb' hsq hf (by omega)
 have hg := batch_tags hS.jt hb' hsq (by omega) hf
 intro p t h1 h2
 rcases hp.tells h1 h2 with h3 | ⟨i, hi, _, rfl⟩
 ·exact hS.eps p t h1 h3
 ·rw [(hg.ok i hi).2.1]; exact hS.ep
theorem mid_crash (h : Mid J D has L m E) (hS : Sj n P B Sp J D has) (hP : 5 * n + 240 ≤ 2 * P) (hB : B ≤ 1000000) (hb : Batch (n : Int) L) :
  (∃ J', Mnt n P (B + 1) Sp J' (Dev.again E keep) has) ∨ (∃ J', Mnt n P (B + 1) Sp J' (Dev.again E keep) (updB has L)) := by
 have hb' : Batch J.n L := by rw [hS.jt.jn]; exact hb
 have hsq : J.sq < 281474976710655 := by have := hS.sq; omega
 have hf := hS.room hP hb
 have h2n : 2 * n ≤ J.P := by rw [hS.jP]; omega
 have heps := mid_eps (keep := keep) h hS hP hB hb
 have h0 := mid_tells0 (keep := keep) h hS.jt.inv hb' hf
 by_cases hall : ∀ i, i < (L ++ movB J has L).length → i < m ∧ keep.getD i 0 = 1
 ·have hlen : 1 ≤ (L ++ movB J has L).length := by rw [List.length_append]; have := hb.n0; omega
  have hm : m = (L ++ movB J has L).length := by
   have h1 := h.m
   have := (hall ((L ++ movB J has L).length - 1) (by omega)).1
   omega
  subst hm
  have hk := mid_kept (keep := keep) h hS.jt hb' hsq hf h2n fun i hi => (hall i hi).2
  refine .inr ⟨_, hk, bound_done hS.jt.inv hS.bound hb' hf, hS.jP, ?_, fun p t h1 h2 => by have := heps p t h1 h2; omega, by rw [h0]; exact hS.sup⟩
  show J.sq + 1 ≤ _; have := hS.sq; omega
 ·have : ∃ i, i < (L ++ movB J has L).length ∧ ¬ (i < m ∧ keep.getD i 0 = 1) := Classical.byContradiction fun c => hall fun i hi => Classical.byContradiction fun d => c ⟨i, hi, d⟩
  obtain ⟨i0, h1, h2⟩ := this
  have hl := mid_lost (keep := keep) h hS.jt hb' hsq hf h2n h1 h2
  exact .inl ⟨_, hl, hS.bound, hS.jP, by have := hS.sq; omega, fun p t h1 h2 => by have := heps p t h1 h2; omega, by rw [h0]; exact hS.sup⟩
end
end Go.Proofs.YtdafdidmbeecfaaGreatDoor
end
section
namespace Go.SL
set_option linter.unusedVariables false
set_option linter.unusedSimpArgs false
open Go.RowKit
abbrev Ar := Option (Nat × List Int)
def Dev.wth (D : Dev) (o : Ar) : Dev := match o with
 | none => D
 | some (N, K) => { D with armed := true, left := (N : Int), keep := K }
def arDec (o : Ar) : Ar := o.map fun x => (x.1 - 1, x.2)
def arHit (o : Ar) : Prop := ∃ K, o = some (0, K)
def arK (o : Ar) : List Int := match o with | some (_, K) => K | none => []
def arOk (o : Ar) : Prop := ∀ N K, o = some (N, K) → N ≤ 1000000 ∧ K.length ≤ 4611686018427387904
instance (o : Ar) : Decidable (arHit o) := match o with
 | none => isFalse fun ⟨_, h⟩ => by cases h
 | some (0, K) => isTrue ⟨K, rfl⟩
 | some (N + 1, K) => isFalse fun ⟨_, h⟩ => by injection h with h; injection h with h _; cases h
theorem arOk_none : arOk none := fun _ _ h => by cases h
theorem arOk.dec {o : Ar} (h : arOk o) : arOk (arDec o) := fun N K e => by
 cases o with
 | none => cases e
 | some x =>
  obtain ⟨M, K'⟩ := x
  injection e with e; injection e with e1 e2
  have := h M K' rfl
  simp only at e1 e2
  subst e2
  exact ⟨by omega, this.2⟩
section
variable {D : Dev} {o : Ar}
theorem wth_sec (D : Dev) (o : Ar) : (D.wth o).sec = D.sec := by cases o <;> rfl
theorem wth_wait (D : Dev) (o : Ar) : (D.wth o).wait = D.wait := by cases o <;> rfl
theorem wth_down (D : Dev) (o : Ar) : (D.wth o).down = D.down := by cases o <;> rfl
theorem wth_cr (D : Dev) (o : Ar) : (D.wth o).cr = D.cr := by cases o <;> rfl
theorem wth_cw (D : Dev) (o : Ar) : (D.wth o).cw = D.cw := by cases o <;> rfl
theorem wth_tells (D : Dev) (o : Ar) (a : Int) : (D.wth o).tells a = D.tells a := by cases o <;> rfl
theorem wth_has (D : Dev) (o : Ar) (a : Int) : (D.wth o).has a ↔ D.has a := by unfold Dev.has; rw [wth_sec]
theorem wth_ok (h : D.Ok) (ho : arOk o) : (D.wth o).Ok := by
 refine ⟨by rw [wth_sec]; exact h.n, fun x hx => (wth_has D o _).2 (h.wait x (by rw [wth_wait] at hx; exact hx)), by rw [wth_wait]; exact h.many, ?_⟩
 cases o with
 | none => exact h.keep
 | some x => exact (ho x.1 x.2 rfl).2
theorem wth_done (D : Dev) (o : Ar) (x : Int × List UInt8) : (D.wth o).done x = (D.done x).wth o := by cases o <;> rfl
theorem wth_doneAll (o : Ar) (l : List (Int × List UInt8)) : ∀ D : Dev, (D.wth o).doneAll l = (D.doneAll l).wth o := by
 induction l with
 | nil => intro D; rfl
 | cons x l ih =>
  intro D
  show Dev.doneAll ((D.wth o).done x) l = _
  rw [wth_done, ih]; rfl
theorem wth_fate (D : Dev) (o : Ar) (f : Int) (x : Int × List UInt8) : (D.wth o).fate f x = (D.fate f x).wth o := by
 unfold Dev.fate
 split
 ·exact wth_done D o x
 ·split
  ·cases o <;> rfl
  ·rfl
theorem wth_fates (D : Dev) (o : Ar) (K : List Int) : ∀ k, (D.wth o).fates K k = (D.fates K k).wth o := by
 intro k
 induction k with
 | zero => rfl
 | succ k ih =>
  show (match (D.wth o).wait[k]? with | some p => ((D.wth o).fates K k).fate (K.getD k 0) p | none => (D.wth o).fates K k) = (match D.wait[k]? with | some p => (D.fates K k).fate (K.getD k 0) p | none => D.fates K k).wth o
  rw [wth_wait, ih]
  cases D.wait[k]? with
  | none => rfl
  | some p => exact wth_fate _ _ _ _
theorem wth_crash (D : Dev) (o : Ar) (K : List Int) : (D.wth o).crash K = D.crash K := by
 unfold Dev.crash
 rw [wth_wait, wth_fates]
 cases o <;> rfl
theorem wth_flushed (D : Dev) (o : Ar) : (D.wth o).flushed = D.flushed.wth o := by
 have e : ({ D.wth o with cf := i64w ((D.wth o).cf + 1) } : Dev) = ({ D with cf := i64w (D.cf + 1) } : Dev).wth o := by cases o <;> rfl
 have e2 : (D.wth o).flushed = { (({ D.wth o with cf := i64w ((D.wth o).cf + 1) } : Dev)).doneAll (D.wth o).wait with wait := [] } := rfl
 have e3 : D.flushed = { (({ D with cf := i64w (D.cf + 1) } : Dev)).doneAll D.wait with wait := [] } := rfl
 rw [e2, e3, e, wth_wait, wth_doneAll]
 generalize (({ D with cf := i64w (D.cf + 1) } : Dev)).doneAll D.wait = E
 cases o <;> rfl
theorem wth_hit (h : D.Calm) (hh : arHit o) : (D.wth o).begins = 2 ∧ (D.wth o).begun = D.crash (arK o) := by
 obtain ⟨K, rfl⟩ := hh
 have e : (D.wth (some (0, K))).strike = D.crash K := by
  have hc : (!(D.wth (some (0, K))).down && (D.wth (some (0, K))).armed && (D.wth (some (0, K))).left == 0) = true := by
   show (!D.down && true && ((0 : Nat) : Int) == 0) = true
   rw [h.down]; rfl
  unfold Dev.strike
  rw [if_pos hc]
  exact wth_crash D _ K
 unfold Dev.begins Dev.begun
 rw [e]
 exact ⟨rfl, rfl⟩
theorem wth_go (h : D.Calm) (ho : arOk o) (hh : ¬ arHit o) : (D.wth o).begins = 0 ∧ (D.wth o).begun = D.wth (arDec o) := by
 cases o with
 | none => exact ⟨h.begins, h.begun⟩
 | some x =>
  obtain ⟨N, K⟩ := x
  have hN := (ho N K rfl).1
  have hN0 : N ≠ 0 := fun e => hh ⟨K, by rw [e]⟩
  have e : (D.wth (some (N, K))).strike = D.wth (some (N, K)) := by
   have hc : (!(D.wth (some (N, K))).down && (D.wth (some (N, K))).armed && (D.wth (some (N, K))).left == 0) = false := by
    have : ((N : Int) == 0) = false := by simp; omega
    show (!D.down && true && (N : Int) == 0) = false
    rw [this]; simp
   unfold Dev.strike
   rw [hc]; rfl
  unfold Dev.begins Dev.begun
  rw [e, wth_down, h.down]
  refine ⟨rfl, ?_⟩
  show (if false = true then _ else if true = true then ({ D.wth (some (N, K)) with left := i64w ((N : Int) - 1) } : Dev) else _) = _
  rw [if_neg (by decide), if_pos rfl]
  have e2 : i64w ((N : Int) - 1) = ((N - 1 : Nat) : Int) := by simp only [i64w, wrap64]; omega
  rw [e2]; rfl
theorem wth_flush_hit (h : D.Calm) (hh : arHit o) : (D.wth o).flush = (2, D.crash (arK o)) := by
 obtain ⟨e1, e2⟩ := wth_hit h hh
 unfold Dev.flush
 rw [e1, e2, if_neg (by decide)]
theorem wth_flush_go (h : D.Calm) (ho : arOk o) (hh : ¬ arHit o) : (D.wth o).flush = (0, D.flushed.wth (arDec o)) := by
 obtain ⟨e1, e2⟩ := wth_go h ho hh
 unfold Dev.flush
 rw [e1, e2, if_pos rfl, wth_flushed]
theorem wth_read_hit (h : D.Calm) (hh : arHit o) {a : Int} (ha : D.has a) : (D.wth o).read a = ((2, []), D.crash (arK o)) := by
 obtain ⟨e1, e2⟩ := wth_hit h hh
 unfold Dev.read
 rw [if_pos ((wth_has D o a).2 ha), e1, e2, if_neg (by decide)]
theorem wth_read_go (h : D.Calm) (ho : arOk o) (hh : ¬ arHit o) {a : Int} (ha : D.has a) : (D.wth o).read a = (D.tells a, ({ D with cr := i64w (D.cr + 1) } : Dev).wth (arDec o)) := by
 obtain ⟨e1, e2⟩ := wth_go h ho hh
 unfold Dev.read
 rw [if_pos ((wth_has D o a).2 ha), e1, e2, if_pos rfl, wth_tells, wth_cr]
 cases arDec o <;> rfl
theorem wth_write_hit (h : D.Calm) (hh : arHit o) {a : Int} (ha : D.has a) {l : List UInt8} (hl : l.length = 512) : (D.wth o).write a l = (2, D.crash (arK o)) := by
 obtain ⟨e1, e2⟩ := wth_hit h hh
 unfold Dev.write
 rw [if_pos ⟨(wth_has D o a).2 ha, hl⟩, e1, e2, if_neg (by decide)]
theorem wth_write_go (h : D.Calm) (ho : arOk o) (hh : ¬ arHit o) {a : Int} (ha : D.has a) {l : List UInt8} (hl : l.length = 512) : (D.wth o).write a l = (0, ({ D with cw := i64w (D.cw + 1), wait := D.wait ++ [(a, l)] } : Dev).wth (arDec o)) := by
 obtain ⟨e1, e2⟩ := wth_go h ho hh
 unfold Dev.write
 rw [if_pos ⟨(wth_has D o a).2 ha, hl⟩, e1, e2, if_pos rfl, wth_wait, wth_cw]
 cases arDec o <;> rfl
end
end Go.SL
namespace Go.Proofs.YtdafdidmbeecfaaGreatDoor
set_option linter.unusedVariables false
set_option linter.unusedSimpArgs false
open Go.RowKit Go.SL
section
variable {n P B : Nat} {Sp : List UInt8} {J : Jr} {D : Dev} {has : Has} {L : Bl} {o : Ar}
theorem ld_bad {J : Jr} {D D' : Dev} {id p c : Int} {l : List UInt8} (hr : D.read (p % (J.P : Int) + 1) = ((c, l), D')) (hc : c ≠ 0) : J.load D id p = ((2, []), { J with br := true }, D') := by
 unfold Jr.load
 simp only
 rw [if_neg (by rw [hr]; exact hc), hr]
theorem ld_hit (h : JInv J D has) (hh : arHit o) {id p : Int} (hp : told J.T.ps id = some p) : J.load (D.wth o) id p = ((2, []), { J with br := true }, D.crash (arK o)) := by
 have hpl := h.place hp
 have ha := h.hasPlace hp
 have e : p % (J.P : Int) + 1 = p + 1 := by rw [Int.emod_eq_of_lt hpl.1 hpl.2]
 exact ld_bad (by rw [e]; exact wth_read_hit h.calm hh ha) (by decide)
theorem ld_go (h : JInv J D has) (ho : arOk o) (hh : ¬ arHit o) {id p : Int} (hp : told J.T.ps id = some p) : J.load (D.wth o) id p = ((0, (has id).getD (zs 480)), J, ({ D with cr := i64w (D.cr + 1) } : Dev).wth (arDec o)) := by
 have hpl := h.place hp
 have ha := h.hasPlace hp
 have e : p % (J.P : Int) + 1 = p + 1 := by rw [Int.emod_eq_of_lt hpl.1 hpl.2]
 obtain ⟨t, b, h1, h2, h3, h4, h5, h6⟩ := h.dat id p hp
 have hr := wth_read_go h.calm ho hh ha
 rw [h3] at hr
 rw [h1]
 exact load_of (by rw [e]; exact hr) (decodeF_enc h6 h5 b) h4
theorem moves_stop (own : KV) : ∀ (X : List (Int × Int)) (s : Mv), s.1.1 ≠ 0 → X.foldl (Jr.moveStep own) s = s
 | [], s, _ => rfl
 | x :: X, s, h => by
  rw [List.foldl_cons]
  have e : Jr.moveStep own s x = s := if_pos h
  rw [e]; exact moves_stop own X s h
theorem moves_armed (h : JInv J D has) (own : KV) (X : List (Int × Int)) (hX : ∀ x ∈ X, told J.T.ps x.1 = some x.2) (ho : arOk o) :
  (∃ o', arOk o' ∧ (o = none → o' = none) ∧ arK o' = arK o ∧ J.moves (D.wth o) own X = ((0, mvL has own X), J, ({ D with cr := addN D.cr (mvL has own X).length } : Dev).wth o')) ∨
  (∃ r J', J'.br = true ∧ J.moves (D.wth o) own X = ((2, []), J', ({ D with cr := r } : Dev).crash (arK o)) ∧ o ≠ none) := by
 have : ∀ (X : List (Int × Int)), (∀ x ∈ X, told J.T.ps x.1 = some x.2) → ∀ (acc : Bl) (r : Int) (o : Ar), arOk o →
   (∃ o', arOk o' ∧ (o = none → o' = none) ∧ arK o' = arK o ∧ X.foldl (Jr.moveStep own) ((0, acc), J, ({ D with cr := r } : Dev).wth o) = ((0, acc ++ mvL has own X), J, ({ D with cr := addN r (mvL has own X).length } : Dev).wth o')) ∨
   (∃ r' J', J'.br = true ∧ X.foldl (Jr.moveStep own) ((0, acc), J, ({ D with cr := r } : Dev).wth o) = ((2, []), J', ({ D with cr := r' } : Dev).crash (arK o)) ∧ o ≠ none) := by
  intro X
  induction X with
  | nil => intro _ acc r o ho; exact .inl ⟨o, ho, id, rfl, by simp [mvL, addN]⟩
  | cons x X ih =>
   intro hX acc r o ho
   rw [List.foldl_cons]
   have hx := hX x List.mem_cons_self
   have hX' := fun y hy => hX y (List.mem_cons_of_mem _ hy)
   cases hk : kget own x.1 with
   | some v =>
    have e1 : Jr.moveStep own ((0, acc), J, ({ D with cr := r } : Dev).wth o) x = ((0, acc), J, ({ D with cr := r } : Dev).wth o) := by
     unfold Jr.moveStep
     simp [hk]
    have e2 : mvL has own (x :: X) = mvL has own X := by simp [mvL, hk]
    rw [e1, e2]; exact ih hX' acc r o ho
   | none =>
    have e2 : mvL has own (x :: X) = (x.1, (has x.1).getD (zs 480)) :: mvL has own X := by simp [mvL, hk]
    by_cases hh : arHit o
    ·have hl := ld_hit (h.cr r) hh hx
     have e1 : Jr.moveStep own ((0, acc), J, ({ D with cr := r } : Dev).wth o) x = ((2, []), { J with br := true }, ({ D with cr := r } : Dev).crash (arK o)) := by
      unfold Jr.moveStep
      simp only [hk]
      rw [hl]
      simp
     rw [e1, moves_stop own X _ (show ((2 : Int) ≠ 0) by decide)]
     exact .inr ⟨r, { J with br := true }, rfl, rfl, fun e => by obtain ⟨K, hK⟩ := hh; rw [e] at hK; cases hK⟩
    ·have hl := ld_go (h.cr r) ho hh hx
     have e1 : Jr.moveStep own ((0, acc), J, ({ D with cr := r } : Dev).wth o) x = ((0, acc ++ [(x.1, (has x.1).getD (zs 480))]), J, ({ D with cr := i64w (r + 1) } : Dev).wth (arDec o)) := by
      unfold Jr.moveStep
      simp only [hk]
      rw [hl]
      simp
     have hK : arK (arDec o) = arK o := by cases o <;> rfl
     have hn : arDec o = none ↔ o = none := by cases o <;> simp [arDec]
     rw [e1, e2]
     rcases ih hX' (acc ++ [(x.1, (has x.1).getD (zs 480))]) (i64w (r + 1)) (arDec o) ho.dec with ⟨o', a, b, c, d⟩ | ⟨r', J', z, a, b⟩
     ·refine .inl ⟨o', a, fun e => b (hn.2 e), c.trans hK, ?_⟩
      rw [d, addN_one, List.length_cons]
      simp
     ·exact .inr ⟨r', J', z, by rw [a, hK], fun e => b (hn.2 e)⟩
 rcases this X hX [] D.cr o ho with ⟨o', a, b, c, d⟩ | ⟨r, J', z, a, b⟩
 ·exact .inl ⟨o', a, b, c, d⟩
 ·exact .inr ⟨r, J', z, a, b⟩
theorem writeN_armed (J : Jr) (D : Dev) (hP : 0 < J.P) (hc : D.Calm) (hs : (J.P : Int) + 1 ≤ D.sec.length) (Z : List Wr) (h480 : ∀ z ∈ Z, z.2.2.length = 480) (ho : arOk o) : ∀ k, k ≤ Z.length →
    (∃ o', arOk o' ∧ (o = none → o' = none) ∧ arK o' = arK o ∧ J.writeN (D.wth o) Z k = (0, ({ D with cw := addN D.cw k, wait := D.wait ++ wrsL J Z k } : Dev).wth o')) ∨
    (∃ c m, m < k ∧ o ≠ none ∧ J.writeN (D.wth o) Z k = (2, ({ D with cw := c, wait := D.wait ++ wrsL J Z m } : Dev).crash (arK o))) := by
  intro k
  induction k with
  | zero => intro _; exact .inl ⟨o, ho, id, rfl, by simp [Jr.writeN, wrsL, addN]⟩
  | succ k ih =>
    intro hk
    have hm : Z.getD k Wr.nil ∈ Z := by rw [List.getD, List.getElem?_eq_getElem (by omega)]; exact List.getElem_mem _
    have hlen : (enc (J.tag k Z.length (Z.getD k Wr.nil).1) ++ (Z.getD k Wr.nil).2.2).length = 512 := by rw [List.length_append, enc_length, h480 _ hm]
    have hq0 : 0 ≤ (J.hd + (k : Int)) % (J.P : Int) := Int.emod_nonneg _ (by omega)
    have hq1 : (J.hd + (k : Int)) % (J.P : Int) < J.P := Int.emod_lt_of_pos _ (by omega)
    have hst : J.writeN (D.wth o) Z (k + 1) = if (J.writeN (D.wth o) Z k).1 = 0 then
        (let R := (J.writeN (D.wth o) Z k).2.write ((J.hd + (k : Int)) % (J.P : Int) + 1) (enc (J.tag k Z.length (Z.getD k Wr.nil).1) ++ (Z.getD k Wr.nil).2.2)
         (if R.1 = 0 then 0 else 2, R.2)) else J.writeN (D.wth o) Z k := rfl
    rcases ih (by omega) with ⟨o', a, b, c, d⟩ | ⟨c, m, a, b, d⟩
    · have r2 : ({ D with cw := addN D.cw k, wait := D.wait ++ wrsL J Z k } : Dev).Calm := ⟨hc.down, hc.armed⟩
      have hhas : ({ D with cw := addN D.cw k, wait := D.wait ++ wrsL J Z k } : Dev).has ((J.hd + (k : Int)) % (J.P : Int) + 1) := ⟨by omega, by show _ < (D.sec.length : Int); omega⟩
      rw [d] at hst
      simp only [if_true] at hst
      by_cases hh : arHit o'
      · have hw := wth_write_hit r2 hh hhas hlen
        rw [hw] at hst
        refine .inr ⟨addN D.cw k, k, Nat.lt_succ_self k, fun e => (by obtain ⟨K, hK⟩ := hh; rw [b e] at hK; cases hK), ?_⟩
        rw [hst, c]; rfl
      · have hw := wth_write_go r2 a hh hhas hlen
        rw [hw] at hst
        simp only [if_true] at hst
        refine .inl ⟨arDec o', a.dec, fun e => by rw [b e]; rfl, ?_, ?_⟩
        · rw [← c]; cases o' <;> rfl
        · rw [hst, wrsL_succ, ← List.append_assoc]
          rfl
    · rw [d] at hst
      simp only [show ((2 : Int) = 0) = False by simp, if_false] at hst
      exact .inr ⟨c, m, by omega, b, hst⟩
theorem wth_none (D : Dev) : D.wth none = D := rfl
theorem scanN_armed (Bn : Int) {D : Dev} (h : D.Calm) {P : Nat} (hP : P + 1 ≤ D.sec.length) (ho : arOk o) : ∀ k, k ≤ P →
  (∃ o', arOk o' ∧ (o = none → o' = none) ∧ arK o' = arK o ∧ scanN Bn (D.wth o) k = ((0 : Int), fndsN Bn D k, ({ D with cr := addN D.cr k } : Dev).wth o')) ∨
  (∃ r, o ≠ none ∧ scanN Bn (D.wth o) k = ((2 : Int), [], ({ D with cr := r } : Dev).crash (arK o))) := by
 intro k
 induction k with
 | zero => intro _; exact .inl ⟨o, ho, id, rfl, rfl⟩
 | succ k ih =>
  intro hk
  have hhas : ({ D with cr := addN D.cr k } : Dev).has ((k : Int) + 1) := by show 0 ≤ (k : Int) + 1 ∧ (k : Int) + 1 < (D.sec.length : Int); omega
  have hcalm := cr_calm h (addN D.cr k)
  rcases ih (by omega) with ⟨o', a, b, c, d⟩ | ⟨r, a, b⟩
  ·by_cases hh : arHit o'
   ·have hr := wth_read_hit hcalm hh hhas
    refine .inr ⟨addN D.cr k, fun e => (by obtain ⟨K, hK⟩ := hh; rw [b e] at hK; cases hK), ?_⟩
    rw [scanN_succ, d]
    unfold scanS
    rw [if_pos rfl]
    simp only [hr]
    rw [if_neg (show ¬ (2 : Int) = 3 by decide), if_neg (show ¬ (2 : Int) = 0 by decide), c]
   ·have hr := wth_read_go hcalm a hh hhas
    have ht : ({ D with cr := addN D.cr k } : Dev).tells ((k : Int) + 1) = D.tells ((k : Int) + 1) := rfl
    refine .inl ⟨arDec o', a.dec, fun e => (by rw [b e]; rfl), ?_, ?_⟩
    ·rw [← c]; cases o' <;> rfl
    ·rw [scanN_succ, d, fndsN_succ]
     unfold scanS
     simp only [hr, if_true, ht]
     rcases tells_code D ((k : Int) + 1) with h0 | h0
     ·rw [if_neg (by rw [h0]; decide), if_pos h0, if_pos h0]
      rfl
     ·rw [if_pos h0, if_neg (by rw [h0]; decide)]
      rfl
  ·refine .inr ⟨r, a, ?_⟩
   rw [scanN_succ, b]
   unfold scanS
   rw [if_neg (show ¬ (2 : Int) = 0 by decide)]
theorem scanR_armed {D : Dev} (h : D.Calm) {P Bn : Nat} (hP0 : 1 ≤ P) (hP : P + 1 ≤ D.sec.length) (hB0 : 1 ≤ Bn) (hB : Bn ≤ 3840) (st : Js) (hst : scanSt (fndsN Bn D P) P Bn = some st) (ho : arOk o) :
  (∃ o', arOk o' ∧ (o = none → o' = none) ∧ arK o' = arK o ∧ scanR (D.wth o) P Bn = ((0 : Int), some st, ({ D with cr := addN D.cr P } : Dev).wth o')) ∨
  (∃ r, o ≠ none ∧ scanR (D.wth o) P Bn = ((2 : Int), none, ({ D with cr := r } : Dev).crash (arK o))) := by
 have hs : ((D.wth o).sec.length : Int) = D.sec.length := by rw [wth_sec]
 rcases scanN_armed (Bn : Int) h hP ho P (Nat.le_refl _) with ⟨o', a, b, c, d⟩ | ⟨r, a, b⟩
 ·refine .inl ⟨o', a, b, c, ?_⟩
  unfold scanR
  rw [if_pos (by rw [hs]; omega), Int.toNat_natCast, Int.toNat_natCast, d, if_pos rfl, hst]
 ·refine .inr ⟨r, a, ?_⟩
  unfold scanR
  rw [if_pos (by rw [hs]; omega), Int.toNat_natCast, Int.toNat_natCast, b, if_neg (show ¬ (2 : Int) = 0 by decide)]
theorem Sj.commitA (h : Sj n P B Sp J D has) (hP : 5 * n + 240 ≤ 2 * P) (hB : B ≤ 1000000) (hb : Batch (n : Int) L) (ho : arOk o) :
  (∃ o', arOk o' ∧ (o = none → o' = none) ∧ arK o' = arK o ∧ jcommit J (D.wth o) true L = (0, J.done (L ++ movB J has L) (J.cleaned L.length), (devC J D has L).wth o')) ∨
  (∃ E J', o ≠ none ∧ (E = D ∨ ∃ m, Mid J D has L m E) ∧ jcommit J (D.wth o) true L = (2, J', E.crash (arK o)) ∧ J'.br = true) := by
 have hI := h.jt.inv
 have hb' : Batch J.n L := by rw [h.jt.jn]; exact hb
 have hsq : J.sq < 281474976710655 := by have := h.sq; omega
 have hf := h.room hP hb
 have hA := allB hI hb'
 have h480 : ∀ z ∈ wrOf (L ++ movB J has L), z.2.2.length = 480 := by
  intro z hz
  obtain ⟨x, hx, rfl⟩ := List.mem_map.1 hz
  exact (hA.b x hx).1
 have hwl : (wrOf (L ++ movB J has L)).length = (L ++ movB J has L).length := by simp [wrOf]
 have hnone : ∀ {o : Ar}, arHit o → o ≠ none := fun ⟨K, hK⟩ e => by rw [e] at hK; cases hK
 have hs1 : ∀ E, jcommit J E true L = if (J.flush E).1 ≠ 0 then J.flush E else jcommit2 J (J.flush E).2.2 L := fun E => by
  unfold jcommit
  rw [if_neg (by simp), if_neg (by omega)]
 by_cases hh : arHit o
 ·have hfl : J.flush (D.wth o) = (2, { J with br := true }, D.crash (arK o)) := by
   unfold Jr.flush
   rw [hI.br, wth_flush_hit hI.calm hh]
   rfl
  exact .inr ⟨D, _, hnone hh, .inl rfl, by rw [hs1, hfl, if_pos (by simp)], rfl⟩
 ·have hK1 : arK (arDec o) = arK o := by cases o <;> rfl
  have hn1 : arDec o = none ↔ o = none := by cases o <;> simp [arDec]
  have hfl : J.flush (D.wth o) = (0, J, D.flushed.wth (arDec o)) := by
   unfold Jr.flush
   rw [hI.br, wth_flush_go hI.calm ho hh]
   rfl
  have hF := hI.flushed
  have hc2 : jcommit J (D.wth o) true L = jcommit2 J (D.flushed.wth (arDec o)) L := by rw [hs1, hfl, if_neg (by simp)]
  rw [hc2]
  have hmv : jmoved J (D.flushed.wth (arDec o)) L = J.moves (D.flushed.wth (arDec o)) (ownN (wrOf L) L.length) (ownersN J.T J.P (Jr.tail J) (J.cleaned L.length).toNat) := rfl
  have hmb : mvL has (ownN (wrOf L) L.length) (ownersN J.T J.P (Jr.tail J) (J.cleaned L.length).toNat) = movB J has L := rfl
  rcases moves_armed hF (ownN (wrOf L) L.length) (ownersN J.T J.P (Jr.tail J) (J.cleaned L.length).toNat) (owners_ps hI _) ho.dec with ⟨o2, a1, a2, a3, a4⟩ | ⟨r, J', z, a1, a2⟩
  ·rw [← hmv, hmb] at a4
   have hcalm := cr_calm hF.calm (addN D.flushed.cr (movB J has L).length)
   rcases writeN_armed J { D.flushed with cr := addN D.flushed.cr (movB J has L).length } hI.ok.p0 hcalm hF.sec (wrOf (L ++ movB J has L)) h480 a1 (L ++ movB J has L).length (by rw [hwl]; exact Nat.le_refl _) with ⟨o3, b1, b2, b3, b4⟩ | ⟨c, m, b1, b2, b3⟩
   ·refine .inl ⟨o3, b1, fun e => b2 (a2 (hn1.2 e)), b3.trans (a3.trans hK1), ?_⟩
    unfold jcommit2
    rw [a4]
    simp only [ne_eq, not_true_eq_false, if_false]
    rw [if_neg hf, b4]
    simp only [ne_eq, not_true_eq_false, if_false]
    rfl
   ·refine .inr ⟨{ D.flushed with cr := addN D.flushed.cr (movB J has L).length, cw := c, wait := wrsL J (wrOf (L ++ movB J has L)) m }, { J with br := true }, fun e => b2 (a2 (hn1.2 e)), .inr ⟨m, rfl, rfl, rfl, by omega⟩, ?_, rfl⟩
    unfold jcommit2
    rw [a4]
    simp only [ne_eq, not_true_eq_false, if_false]
    rw [if_neg hf, b3, if_pos (by simp), ← hK1, ← a3]
    rfl
  ·rw [← hmv] at a1
   refine .inr ⟨{ D.flushed with cr := r }, J', fun e => a2 (hn1.2 e), .inr ⟨0, rfl, rfl, rfl, Nat.zero_le _⟩, ?_, ?_⟩
   ·unfold jcommit2
    rw [a1, if_pos (by simp), hK1]
   ·exact z
end
end Go.Proofs.YtdafdidmbeecfaaGreatDoor
end

/- Steps towards the statement StoreC. -/
import Derived.Test.YtdafdidmbeecfaaGreatDoorStoreCP12
import Derived.Test.YtdafdidmbeecfaaGreatDoorStoreCP25
import Derived.Test.YtdafdidmbeecfaaGreatDoorStoreCP26
section
namespace Go.SL
set_option linter.unusedVariables false
set_option linter.unusedSimpArgs false
open Go.RowKit
theorem encN_len (t : Tg) (k : Nat) : (encN t k).length = offN k := by
 induction k with
 | zero => rfl
 | succ k ih => rw [encN_succ, List.length_append, ih, leN_length, offN_succ]
theorem enc_split (t : Tg) (k : Nat) (hk : k < 9) : ∃ rest, enc t = encN t k ++ (leN (t.field k) (fsize k) ++ rest) := by
 obtain ⟨m, hm⟩ : ∃ m, 9 = k + 1 + m := ⟨8 - k, by omega⟩
 unfold enc
 rw [hm]
 clear hm
 induction m with
 | zero => exact ⟨[], by rw [Nat.add_zero, encN_succ, List.append_nil]⟩
 | succ m ih =>
  obtain ⟨r, hr⟩ := ih
  exact ⟨r ++ leN (t.field (k + 1 + m)) (fsize (k + 1 + m)), by rw [← Nat.add_assoc, encN_succ, hr]; simp only [List.append_assoc]⟩
theorem leV_enc (t : Tg) (b : List UInt8) (k : Nat) (hk : k < 9) : leV ((enc t ++ b).drop (offN k)) (fsize k) = t.field k % (256 : Int) ^ fsize k := by
 obtain ⟨r, hr⟩ := enc_split t k hk
 rw [hr, List.append_assoc, ← encN_len t k, List.drop_left, List.append_assoc, leV_leN _ _ _ _ (Nat.le_refl _)]
theorem decT_enc {t : Tg} (hf : t.Fit) (ho : t.ok = true) (b : List UInt8) : decT (enc t ++ b) 9 = t := by
 have h : ∀ k, k < 9 → decT (enc t ++ b) (k + 1) = (decT (enc t ++ b) k).set (t.field k % (256 : Int) ^ fsize k) k := fun k hk => by
  rw [decT, leV_enc t b k hk]
 rw [h 8 (by omega), h 7 (by omega), h 6 (by omega), h 5 (by omega), h 4 (by omega), h 3 (by omega), h 2 (by omega), h 1 (by omega), h 0 (by omega)]
 simp only [Tg.ok, Bool.and_eq_true, decide_eq_true_eq, and_assoc] at ho
 obtain ⟨o1, o2, o3, o4, o5, o6, o7, o8, o9, o10, o11⟩ := ho
 obtain ⟨f1, f2, f3, f4, f5, f6, f7, f8⟩ := hf
 obtain ⟨ep, st, sq, fl, ix, ct, id⟩ := t
 simp only at o1 o2 o3 o4 o5 o6 o7 o8 o9 o10 o11 f1 f2 f3 f4 f5 f6 f7 f8
 simp only [decT, Tg.set, Tg.field, fsize, u64w, Tg.zero, wrap64]
 congr 1 <;> omega
theorem decodeF_enc {t : Tg} (hf : t.Fit) (ho : t.ok = true) (b : List UInt8) : decodeF (enc t ++ b) = some (t, b) := by
 have hd := decT_enc hf ho b
 have e : (enc t ++ b).drop 32 = b := by rw [← enc_length t, List.drop_left]
 unfold decodeF
 rw [hd, e, if_pos ⟨ho, rfl⟩]
end Go.SL
namespace Go.SL
set_option linter.unusedVariables false
set_option linter.unusedSimpArgs false
open Go.RowKit
structure Dev.Calm (D : Dev) : Prop where
 down : D.down = false
 armed : D.armed = false
theorem Dev.Calm.strike {D : Dev} (h : D.Calm) : D.strike = D := by
 unfold Dev.strike
 rw [h.armed]; simp
theorem Dev.Calm.begun {D : Dev} (h : D.Calm) : D.begun = D := by
 unfold Dev.begun
 rw [h.strike, h.down, h.armed]; simp
theorem Dev.Calm.begins {D : Dev} (h : D.Calm) : D.begins = 0 := by
 unfold Dev.begins
 rw [h.strike, h.down]; simp
theorem Dev.Calm.read {D : Dev} (h : D.Calm) {a : Int} (ha : D.has a) : D.read a = (D.tells a, { D with cr := i64w (D.cr + 1) }) := by
 unfold Dev.read
 rw [if_pos ha, if_pos h.begins, h.begun]
theorem Dev.Calm.write {D : Dev} (h : D.Calm) {a : Int} (ha : D.has a) {l : List UInt8} (hl : l.length = 512) : D.write a l = (0, { D with cw := i64w (D.cw + 1), wait := D.wait ++ [(a, l)] }) := by
 unfold Dev.write
 rw [if_pos ⟨ha, hl⟩, if_pos h.begins, h.begun]
theorem Dev.Calm.flush {D : Dev} (h : D.Calm) : D.flush = (0, D.flushed) := by
 unfold Dev.flush
 rw [if_pos h.begins, h.begun]
theorem doneAll_same (D : Dev) (l : List (Int × List UInt8)) : (D.doneAll l).down = D.down ∧ (D.doneAll l).armed = D.armed ∧ (D.doneAll l).cr = D.cr ∧ (D.doneAll l).cw = D.cw ∧ (D.doneAll l).cf = D.cf ∧ (D.doneAll l).left = D.left ∧ (D.doneAll l).keep = D.keep ∧ (D.doneAll l).wait = D.wait := by
 unfold Dev.doneAll
 induction l generalizing D with
 | nil => exact ⟨rfl, rfl, rfl, rfl, rfl, rfl, rfl, rfl⟩
 | cons x l ih => rw [List.foldl_cons]; exact ih _
theorem newest_nil (a : Int) : newest [] a = none := rfl
theorem newest_snoc (l : List (Int × List UInt8)) (x : Int × List UInt8) (a : Int) : newest (l ++ [x]) a = if x.1 = a then some x.2 else newest l a := by
 unfold newest
 rw [List.reverse_append, List.reverse_cons, List.reverse_nil, List.nil_append, List.singleton_append, List.find?_cons]
 by_cases h : x.1 = a
 ·rw [if_pos h]; simp [h]
 ·rw [if_neg h]
  have : (x.1 == a) = false := by simpa using h
  rw [this]
theorem newest_cons (l : List (Int × List UInt8)) (x : Int × List UInt8) (a : Int) : newest (x :: l) a = match newest l a with | some y => some y | none => if x.1 = a then some x.2 else none := by
 unfold newest
 rw [List.reverse_cons, List.find?_append]
 cases h : l.reverse.find? (fun x => x.1 == a) with
 | some y => simp
 | none =>
  by_cases e : x.1 = a
  ·simp [e]
  ·have : (x.1 == a) = false := by simpa using e
   simp [e]
theorem kget_cons {α : Type} (p : Int × α) (M : List (Int × α)) (y : Int) : kget (p :: M) y = if p.1 = y then some p.2 else kget M y := by
 unfold kget
 rw [List.find?_cons]
 by_cases h : p.1 = y
 ·simp [h]
 ·have : (p.1 == y) = false := by simpa using h
  rw [this, if_neg h]
theorem kget_del {α : Type} (M : List (Int × α)) (x y : Int) : kget (del M x) y = if y = x then none else kget M y := by
 induction M with
 | nil => simp [del, kget]
 | cons p M ih =>
  have e : del (p :: M) x = if p.1 = x then del M x else p :: del M x := by
   unfold del
   rw [List.filter_cons]
   by_cases h : p.1 = x
   ·simp [h]
   ·have : (p.1 == x) = false := by simpa using h
    simp [this, h]
  rw [e]
  by_cases h : p.1 = x
  ·rw [if_pos h, ih, kget_cons]
   by_cases h2 : y = x
   ·rw [if_pos h2, if_pos h2]
   ·rw [if_neg h2, if_neg h2, if_neg (by rw [h]; exact fun q => h2 q.symm)]
  ·rw [if_neg h, kget_cons, kget_cons, ih]
   by_cases h2 : p.1 = y
   ·rw [if_pos h2, if_pos h2, if_neg (by rw [← h2]; exact h)]
   ·rw [if_neg h2, if_neg h2]
theorem done_tells (D : Dev) (x : Int × List UInt8) (hx : D.has x.1) (hw : D.wait = []) (a : Int) (ha : D.has a) : (D.done x).tells a = if x.1 = a then (0, padTo 512 x.2) else D.tells a := by
 have hwd : (D.done x).wait = [] := (D.done_sec x).2.1.trans hw
 have ht : kget (D.done x).torn a = if a = x.1 then none else kget D.torn a := kget_del D.torn x.1 a
 have hs : (D.done x).sec = D.sec.set x.1.toNat x.2 := rfl
 unfold Dev.tells
 simp only [hwd, hw, newest_nil, ht, hs]
 clear ht hs hwd
 obtain ⟨a0, a1⟩ := ha
 obtain ⟨x0, x1⟩ := hx
 obtain ⟨k, rfl⟩ := Int.eq_ofNat_of_zero_le a0
 obtain ⟨j, hj⟩ := Int.eq_ofNat_of_zero_le x0
 rw [hj, Int.toNat_natCast, Int.toNat_natCast]
 by_cases e : j = k
 ·subst e
  rw [if_pos rfl, if_pos rfl]
  have : j < D.sec.length := by omega
  simp [List.getD, List.getElem?_set, this]
 ·have e' : ¬ (k : Int) = (j : Int) := by omega
  have e'' : ¬ (j : Int) = (k : Int) := by omega
  rw [if_neg e', if_neg e'']
  have hset : (D.sec.set j x.2).getD k [] = D.sec.getD k [] := by
   simp only [List.getD, List.getElem?_set]
   rw [if_neg e]
  rw [hset]
theorem done_has (D : Dev) (x : Int × List UInt8) (a : Int) : (D.done x).has a ↔ D.has a := by unfold Dev.has; rw [(D.done_sec x).1]
theorem doneAll_tells (l : List (Int × List UInt8)) : ∀ (D : Dev), D.wait = [] → (∀ x ∈ l, D.has x.1) → ∀ a, D.has a → (D.doneAll l).tells a = match newest l a with | some y => (0, padTo 512 y) | none => D.tells a := by
 induction l with
 | nil => intro D _ _ a _; rfl
 | cons x l ih =>
  intro D hw hl a ha
  have h1 := ih (D.done x) ((D.done_sec x).2.1.trans hw) (fun y hy => (done_has D x _).2 (hl y (List.mem_cons_of_mem _ hy))) a ((done_has D x a).2 ha)
  show (Dev.doneAll (D.done x) l).tells a = _
  rw [h1, newest_cons]
  cases hn : newest l a with
  | some y => rfl
  | none =>
   simp only
   rw [done_tells D x (hl x List.mem_cons_self) hw a ha]
   split <;> rfl
theorem flushed_tells {D : Dev} (hD : D.Ok) (a : Int) (ha : D.has a) : D.flushed.tells a = D.tells a := by
 have h := doneAll_tells D.wait { D with cf := i64w (D.cf + 1), wait := [] } rfl (fun x hx => hD.wait x hx) a ha
 have e : D.flushed = ({ D with cf := i64w (D.cf + 1), wait := [] } : Dev).doneAll D.wait := by
  unfold Dev.flushed Dev.doneAll
  have : ∀ (l : List (Int × List UInt8)) (A B : Dev), A.sec = B.sec → A.torn = B.torn → A.cr = B.cr → A.cw = B.cw → A.cf = B.cf → A.down = B.down → A.armed = B.armed → A.left = B.left → A.keep = B.keep → B.wait = [] →
    ({ l.foldl Dev.done A with wait := [] } : Dev) = l.foldl Dev.done B := by
   intro l
   induction l with
   | nil =>
    intro A B h1 h2 h3 h4 h5 h6 h7 h8 h9 h10
    obtain ⟨a1, a2, a3, a4, a5, a6, a7, a8, a9, a10⟩ := A
    obtain ⟨b1, b2, b3, b4, b5, b6, b7, b8, b9, b10⟩ := B
    simp only at h1 h2 h3 h4 h5 h6 h7 h8 h9 h10
    subst h1 h2 h3 h4 h5 h6 h7 h8 h9 h10
    rfl
   | cons x l ih =>
    intro A B h1 h2 h3 h4 h5 h6 h7 h8 h9 h10
    exact ih _ _ (by simp [Dev.done, h1]) (by simp [Dev.done, h2]) h3 h4 h5 h6 h7 h8 h9 h10
  exact this _ _ _ rfl rfl rfl rfl rfl rfl rfl rfl rfl rfl
 rw [e, h]
 unfold Dev.tells
 cases hn : newest D.wait a with
 | some y => rfl
 | none => rfl
theorem flushed_calm {D : Dev} (h : D.Calm) : D.flushed.Calm := by
 have := doneAll_same { D with cf := i64w (D.cf + 1) } D.wait
 exact ⟨this.1.trans h.down, this.2.1.trans h.armed⟩
theorem flushed_counts (D : Dev) : D.flushed.cr = D.cr ∧ D.flushed.cw = D.cw ∧ D.flushed.cf = i64w (D.cf + 1) ∧ D.flushed.sec.length = D.sec.length := by
 have := doneAll_same { D with cf := i64w (D.cf + 1) } D.wait
 exact ⟨this.2.2.1, this.2.2.2.1, this.2.2.2.2.1, (Dev.doneAll_sec _ _).1⟩
theorem write_tells (D : Dev) (a : Int) (l : List UInt8) (n : Int) (b : Int) : ({ D with cw := n, wait := D.wait ++ [(a, l)] } : Dev).tells b = if a = b then (0, padTo 512 l) else D.tells b := by
 unfold Dev.tells
 simp only [newest_snoc]
 by_cases h : a = b
 ·simp [h]
 ·simp [h]
end Go.SL
namespace Go.SL
set_option linter.unusedVariables false
set_option linter.unusedSimpArgs false
open Go.RowKit
structure Tb.Con (T : Tb) : Prop where
 pq : ∀ id p, told T.ps id = some p → told T.os p = some id
 qp : ∀ id p, told T.os p = some id → told T.ps id = some p
theorem told_range {l : List Int} {i v : Int} (h : told l i = some v) : 0 ≤ i ∧ i < l.length ∧ v ≠ -1 := by
 unfold told at h
 split at h
 ·rename_i hc
  injection h with h
  exact ⟨hc.1, hc.2.1, by rw [← h]; exact hc.2.2⟩
 ·cases h
theorem told_none {l : List Int} {i : Int} (h : told l i = none) (h0 : 0 ≤ i) (h1 : i < l.length) : l.getD i.toNat 0 = -1 := by
 unfold told at h
 split at h
 ·cases h
 ·rename_i hc
  exact Classical.byContradiction fun q => hc ⟨h0, h1, q⟩
theorem told_set {l : List Int} {i : Int} (h0 : 0 ≤ i) (h1 : i < l.length) (v x : Int) : told (l.set i.toNat v) x = if x = i then (if v = -1 then none else some v) else told l x := by
 obtain ⟨k, rfl⟩ := Int.eq_ofNat_of_zero_le h0
 have hk : k < l.length := by omega
 unfold told
 rw [List.length_set, Int.toNat_natCast]
 by_cases hx : x = (k : Int)
 ·subst hx
  rw [if_pos rfl, Int.toNat_natCast]
  have e : (l.set k v).getD k 0 = v := by simp [List.getD, List.getElem?_set, hk]
  rw [e]
  by_cases hv : v = -1
  ·rw [if_pos hv, if_neg (fun q => q.2.2 hv)]
  ·rw [if_neg hv, if_pos ⟨by omega, h1, hv⟩]
 ·rw [if_neg hx]
  by_cases hr : 0 ≤ x
  ·obtain ⟨j, rfl⟩ := Int.eq_ofNat_of_zero_le hr
   rw [Int.toNat_natCast]
   have hj : k ≠ j := by omega
   have e : (l.set k v).getD j 0 = l.getD j 0 := by simp only [List.getD, List.getElem?_set]; rw [if_neg hj]
   rw [e]
  ·rw [if_neg (fun q => hr q.1), if_neg (fun q => hr q.1)]
theorem Tb.drop_len (T : Tb) (id : Int) : (T.drop id).2.ps.length = T.ps.length ∧ (T.drop id).2.os.length = T.os.length := by
 unfold Tb.drop
 split <;> simp
section
variable {T : Tb}
theorem Tb.drop_ps (h : T.Con) (id : Int) (x : Int) : told (T.drop id).2.ps x = if x = id then none else told T.ps x := by
 unfold Tb.drop
 cases hd : told T.ps id with
 | none =>
  simp only
  split
  ·rename_i e; rw [e, hd]
  ·rfl
 | some p =>
  have hr := told_range hd
  simp only
  rw [told_set hr.1 hr.2.1]
  simp
theorem Tb.drop_os (h : T.Con) (id : Int) (q : Int) : told (T.drop id).2.os q = if told T.ps id = some q then none else told T.os q := by
 unfold Tb.drop
 cases hd : told T.ps id with
 | none => simp
 | some p =>
  have hr := told_range (h.pq _ _ hd)
  simp only
  rw [told_set hr.1 hr.2.1]
  by_cases e : q = p
  ·subst e; simp
  ·rw [if_neg e, if_neg (by intro q'; injection q' with q'; exact e q'.symm)]
theorem Tb.put_ps (h : T.Con) {id p : Int} (i0 : 0 ≤ id) (i1 : id < T.ps.length) (p0 : 0 ≤ p) (p1 : p < T.os.length) (hn : told T.os p = none) (x : Int) :
  told (T.put id p).2.ps x = if x = id then some p else told T.ps x := by
 have hg := told_none hn p0 p1
 unfold Tb.put
 rw [if_pos ⟨i0, i1, p0, p1, .inl hg⟩]
 simp only
 rw [told_set i0 (by rw [(Tb.drop_len T id).1]; exact i1), T.drop_ps h]
 by_cases e : x = id
 ·rw [if_pos e, if_pos e, if_neg (by omega)]
 ·rw [if_neg e, if_neg e, if_neg e]
theorem Tb.put_os (h : T.Con) {id p : Int} (i0 : 0 ≤ id) (i1 : id < T.ps.length) (p0 : 0 ≤ p) (p1 : p < T.os.length) (hn : told T.os p = none) (q : Int) :
  told (T.put id p).2.os q = if q = p then some id else if told T.ps id = some q then none else told T.os q := by
 have hg := told_none hn p0 p1
 unfold Tb.put
 rw [if_pos ⟨i0, i1, p0, p1, .inl hg⟩]
 simp only
 rw [told_set p0 (by rw [(Tb.drop_len T id).2]; exact p1), T.drop_os h]
 by_cases e : q = p
 ·rw [if_pos e, if_pos e, if_neg (by omega)]
 ·rw [if_neg e, if_neg e]
theorem Tb.put_con (h : T.Con) {id p : Int} (i0 : 0 ≤ id) (i1 : id < T.ps.length) (p0 : 0 ≤ p) (p1 : p < T.os.length) (hn : told T.os p = none) : (T.put id p).2.Con := by
 constructor
 ·intro x q hx
  rw [Tb.put_ps h i0 i1 p0 p1 hn] at hx
  rw [Tb.put_os h i0 i1 p0 p1 hn]
  by_cases e : x = id
  ·rw [if_pos e] at hx; injection hx with hx
   rw [if_pos hx.symm, e]
  ·rw [if_neg e] at hx
   have h1 := h.pq _ _ hx
   have hqp : q ≠ p := by rintro rfl; rw [hn] at h1; cases h1
   rw [if_neg hqp]
   have h2 : told T.ps id ≠ some q := by
    intro h3
    have h4 := h.pq _ _ h3
    rw [h1] at h4; injection h4 with h4; exact e h4
   rw [if_neg h2, h1]
 ·intro x q hx
  rw [Tb.put_os h i0 i1 p0 p1 hn] at hx
  rw [Tb.put_ps h i0 i1 p0 p1 hn]
  by_cases e : q = p
  ·rw [if_pos e] at hx; injection hx with hx
   rw [if_pos hx.symm, e]
  ·rw [if_neg e] at hx
   split at hx
   ·cases hx
   ·rename_i h1
    have h2 := h.qp _ _ hx
    have : x ≠ id := by rintro rfl; exact h1 h2
    rw [if_neg this, h2]
end
theorem Tb.fresh_told (b p : Nat) (i : Int) : told (Tb.fresh b p).ps i = none ∧ told (Tb.fresh b p).os i = none := by
 constructor
 ·unfold told
  rw [if_neg]
  rintro ⟨h0, h1, h2⟩
  apply h2
  simp only [Tb.fresh, List.length_replicate] at h1
  have : i.toNat < b := by omega
  simp [Tb.fresh, List.getD, List.getElem?_replicate, this]
 ·unfold told
  rw [if_neg]
  rintro ⟨h0, h1, h2⟩
  apply h2
  simp only [Tb.fresh, List.length_replicate] at h1
  have : i.toNat < p := by omega
  simp [Tb.fresh, List.getD, List.getElem?_replicate, this]
theorem Tb.fresh_con (b p : Nat) : (Tb.fresh b p).Con :=
 ⟨fun i q h => (by rw [(Tb.fresh_told b p i).1] at h; cases h), fun i q h => (by rw [(Tb.fresh_told b p q).2] at h; cases h)⟩
theorem emod_ne {a b P : Int} (h1 : b < a) (h2 : a < b + P) : a % P ≠ b % P := by
 intro h
 have := Int.emod_emod_of_dvd a (Int.dvd_refl P)
 have hs : (a - b) % P = 0 := Int.emod_eq_emod_iff_emod_sub_eq_zero.1 h
 rw [Int.emod_eq_of_lt (by omega) (by omega)] at hs
 omega
structure PutK (J : Jr) (L : Bl) (k : Nat) : Prop where
 con : (J.putN L k).Con
 ps : ∀ x, told (J.putN L k).ps x = match (L.take k).findIdx? (fun y => y.1 == x) with | some i => some ((J.hd + (i : Int)) % (J.P : Int)) | none => told J.T.ps x
 os : ∀ q x, told (J.putN L k).os q = some x → (∃ i : Nat, i < k ∧ q = (J.hd + (i : Int)) % (J.P : Int) ∧ (L.getD i (0, [])).1 = x) ∨ (told J.T.os q = some x ∧ x ∉ (L.take k).map Prod.fst)
theorem findIdx_snoc {α : Type} (l : List α) (a : α) (f : α → Bool) : (l ++ [a]).findIdx? f = match l.findIdx? f with | some i => some i | none => if f a then some l.length else none := by
 rw [List.findIdx?_append]
 cases h : l.findIdx? f with
 | some i => simp
 | none =>
  simp only [Option.none_or, List.findIdx?_cons, List.findIdx?_nil]
  split <;> simp
theorem findIdx_none_mem {L : Bl} {x : Int} : L.findIdx? (fun y => y.1 == x) = none ↔ x ∉ L.map Prod.fst := by
 rw [List.findIdx?_eq_none_iff]
 simp only [List.mem_map, not_exists, not_and, beq_eq_false_iff_ne, ne_eq]
theorem take_snoc {α : Type} (L : List α) (k : Nat) (d : α) (h : k < L.length) : L.take (k + 1) = L.take k ++ [L.getD k d] := by
 rw [List.take_succ_eq_append_getElem h, List.getD, List.getElem?_eq_getElem h]; rfl
theorem putK (J : Jr) (hJ : J.Ok) (hc : J.T.Con) (L : Bl) (hid : ∀ x ∈ L, 0 ≤ x.1 ∧ x.1 < J.n) (hnd : (L.map Prod.fst).Nodup) (hlen : (L.length : Int) ≤ J.P)
  (hfree : ∀ i : Nat, i < L.length → told J.T.os ((J.hd + (i : Int)) % (J.P : Int)) = none) : ∀ k, k ≤ L.length → PutK J L k := by
 have hps := hJ.ps
 have hos := hJ.os
 have hp0 := hJ.p0
 intro k
 induction k with
 | zero =>
  intro _
  exact ⟨hc, fun x => rfl, fun q x h => .inr ⟨h, by simp⟩⟩
 | succ k ih =>
  intro hk
  obtain ⟨c1, c2, c3⟩ := ih (by omega)
  have hkl : k < L.length := by omega
  have hm : L.getD k (0, []) ∈ L := by rw [List.getD, List.getElem?_eq_getElem hkl]; exact List.getElem_mem _
  obtain ⟨i0, i1⟩ := hid _ hm
  have hts := take_snoc L k (0, []) hkl
  have hst : J.putN L (k + 1) = ((J.putN L k).put (L.getD k (0, [])).1 ((J.hd + (k : Int)) % (J.P : Int))).2 := rfl
  have hlen1 := J.putN_len L k
  have q0 : 0 ≤ (J.hd + (k : Int)) % (J.P : Int) := Int.emod_nonneg _ (by omega)
  have q1 : (J.hd + (k : Int)) % (J.P : Int) < (J.putN L k).os.length := by rw [hlen1.2, hos]; exact Int.emod_lt_of_pos _ (by omega)
  have hn : told (J.putN L k).os ((J.hd + (k : Int)) % (J.P : Int)) = none := by
   cases h : told (J.putN L k).os ((J.hd + (k : Int)) % (J.P : Int)) with
   | none => rfl
   | some x =>
    rcases c3 _ _ h with ⟨i, hi, e, _⟩ | ⟨e, _⟩
    ·exact absurd e (emod_ne (by omega) (by omega))
    ·rw [hfree k hkl] at e; cases e
  have j1 : (L.getD k (0, [])).1 < ((J.putN L k).ps.length : Int) := by rw [hlen1.1, hps]; exact i1
  have hnot : (L.getD k (0, [])).1 ∉ (L.take k).map Prod.fst := by
   intro hx
   have hnd2 : ((L.take (k + 1)).map Prod.fst).Nodup := hnd.sublist ((List.take_sublist _ _).map _)
   rw [hts, List.map_append, List.nodup_append] at hnd2
   exact hnd2.2.2 _ hx _ (by simp) rfl
  have hpsK := Tb.put_ps c1 i0 j1 q0 q1 hn
  have hosK := Tb.put_os c1 i0 j1 q0 q1 hn
  have hconK := Tb.put_con c1 i0 j1 q0 q1 hn
  rw [← hst] at hpsK hosK hconK
  refine ⟨hconK, fun x => ?_, fun q x hx => ?_⟩
  ·rw [hpsK, hts, findIdx_snoc, c2]
   have hlk : (L.take k).length = k := by rw [List.length_take]; omega
   by_cases e : x = (L.getD k (0, [])).1
   ·rw [if_pos e, e, findIdx_none_mem.2 hnot]
    simp [hlk]
   ·rw [if_neg e]
    cases hf : (L.take k).findIdx? (fun y => y.1 == x) with
    | some i => rfl
    | none =>
     have : ((L.getD k (0, [])).1 == x) = false := by simp only [beq_eq_false_iff_ne, ne_eq]; exact fun q => e q.symm
     rw [this]; rfl
  ·rw [hosK] at hx
   by_cases e : q = (J.hd + (k : Int)) % (J.P : Int)
   ·rw [if_pos e] at hx
    injection hx with hx
    exact .inl ⟨k, by omega, e, hx⟩
   ·rw [if_neg e] at hx
    split at hx
    ·cases hx
    ·rename_i h1
     rcases c3 _ _ hx with ⟨i, hi, e', h'⟩ | ⟨h2, h3⟩
     ·exact .inl ⟨i, by omega, e', h'⟩
     ·refine .inr ⟨h2, ?_⟩
      rw [hts, List.map_append, List.mem_append]
      rintro (h4 | h4)
      ·exact h3 h4
      ·simp only [List.map_cons, List.map_nil, List.mem_singleton] at h4
       exact h1 (by rw [← h4]; exact c1.qp _ _ hx)
end Go.SL
namespace Go.Proofs.YtdafdidmbeecfaaGreatDoor
set_option linter.unusedVariables false
set_option linter.unusedSimpArgs false
open Go.RowKit Go.SL
abbrev Has := Int → Option (List UInt8)
structure JInv (J : Jr) (D : Dev) (has : Has) : Prop where
 ok : J.Ok
 nums : J.Nums
 dok : D.Ok
 br : J.br = false
 calm : D.Calm
 sec : (J.P : Int) + 1 ≤ D.sec.length
 con : J.T.Con
 rm : J.us + J.fr ≤ J.P
 win : ∀ p id, told J.T.os p = some id → ∃ a : Int, J.hd - J.us ≤ a ∧ a < J.hd ∧ p = a % (J.P : Int)
 dat : ∀ id p, told J.T.ps id = some p → ∃ t b, has id = some b ∧ b.length = 480 ∧ D.tells (p + 1) = (0, enc t ++ b) ∧ t.id = id ∧ t.ok = true ∧ t.Fit
 non : ∀ id, told J.T.ps id = none → has id = none
theorem JInv.place {J : Jr} {D : Dev} {has : Has} (h : JInv J D has) {id p : Int} (hp : told J.T.ps id = some p) : 0 ≤ p ∧ p < J.P := by
 have := told_range (h.con.pq _ _ hp)
 have e := h.ok.os
 exact ⟨this.1, by have := this.2.1; omega⟩
theorem JInv.hasPlace {J : Jr} {D : Dev} {has : Has} (h : JInv J D has) {id p : Int} (hp : told J.T.ps id = some p) : D.has (p + 1) := by
 have := h.place hp
 have := h.sec
 exact ⟨by omega, by omega⟩
theorem JInv.dev {J : Jr} {D D' : Dev} {has : Has} (h : JInv J D has) (hok : D'.Ok) (hc : D'.Calm) (hl : D'.sec.length = D.sec.length) (ht : ∀ a, D.has a → D'.tells a = D.tells a) : JInv J D' has :=
 ⟨h.ok, h.nums, hok, h.br, hc, by rw [hl]; exact h.sec, h.con, h.rm, h.win, fun id p hp => by
  obtain ⟨t, b, h1, h2, h3, h4⟩ := h.dat id p hp
  exact ⟨t, b, h1, h2, by rw [ht _ (h.hasPlace hp)]; exact h3, h4⟩, h.non⟩
theorem cr_tells (D : Dev) (r : Int) (a : Int) : ({ D with cr := r } : Dev).tells a = D.tells a := rfl
theorem cr_calm {D : Dev} (h : D.Calm) (r : Int) : ({ D with cr := r } : Dev).Calm := ⟨h.down, h.armed⟩
theorem cr_ok {D : Dev} (h : D.Ok) (r : Int) : ({ D with cr := r } : Dev).Ok := ⟨h.n, h.wait, h.many, h.keep⟩
theorem JInv.cr {J : Jr} {D : Dev} {has : Has} (h : JInv J D has) (r : Int) : JInv J { D with cr := r } has :=
 h.dev (cr_ok h.dok r) (cr_calm h.calm r) rfl fun _ _ => rfl
theorem load_of {J : Jr} {D D' : Dev} {id p : Int} {l b : List UInt8} {t : Tg} (hr : D.read (p % (J.P : Int) + 1) = ((0, l), D')) (hd : decodeF l = some (t, b)) (hi : t.id = id) : J.load D id p = ((0, b), J, D') := by
 unfold Jr.load
 simp only [hr, hd, hi, if_true]
theorem JInv.load {J : Jr} {D : Dev} {has : Has} (h : JInv J D has) {id p : Int} (hp : told J.T.ps id = some p) : J.load D id p = ((0, (has id).getD (zs 480)), J, { D with cr := i64w (D.cr + 1) }) := by
 obtain ⟨t, b, h1, h2, h3, h4, h5, h6⟩ := h.dat id p hp
 obtain ⟨p0, p1⟩ := h.place hp
 have hm : p % (J.P : Int) = p := Int.emod_eq_of_lt p0 p1
 have hr := h.calm.read (h.hasPlace hp)
 rw [h3] at hr
 rw [h1]
 exact load_of (by rw [hm]; exact hr) (decodeF_enc h6 h5 b) h4
theorem JInv.read {J : Jr} {D : Dev} {has : Has} (h : JInv J D has) {id : Int} (h0 : 0 ≤ id) (h1 : id < J.n) :
  J.read D id = ((0, (has id).getD (zs 480)), J, if (told J.T.ps id).isSome then { D with cr := i64w (D.cr + 1) } else D) := by
 unfold Jr.read
 rw [if_neg (by omega), h.br, if_neg (by simp)]
 cases hp : told J.T.ps id with
 | none => simp [h.non id hp]
 | some p => simp only [Option.isSome_some, if_true]; exact h.load hp
theorem JInv.flush {J : Jr} {D : Dev} {has : Has} (h : JInv J D has) : J.flush D = (0, J, D.flushed) := by
 unfold Jr.flush
 rw [h.br, if_neg (by simp), h.calm.flush]
 simp
theorem JInv.flushed {J : Jr} {D : Dev} {has : Has} (h : JInv J D has) : JInv J D.flushed has := by
 have hk := Dev.flush_keeps h.dok
 rw [h.calm.flush] at hk
 exact h.dev (hk.ok h.dok (by have := h.dok.many; omega)) (flushed_calm h.calm) (flushed_counts D).2.2.2 fun a ha => flushed_tells h.dok a ha
def addN (c : Int) : Nat → Int
 | 0 => c
 | k + 1 => i64w (addN c k + 1)
theorem addN_one (c : Int) (k : Nat) : addN (i64w (c + 1)) k = addN c (k + 1) := by
 induction k with
 | zero => rfl
 | succ k ih => rw [addN, ih]; rfl
theorem addN_eq {c : Int} (k : Nat) (h0 : 0 ≤ c) (h1 : c + k ≤ 4611686018427387904) : addN c k = c + k := by
 induction k with
 | zero => simp [addN]
 | succ k ih =>
  rw [addN, ih (by omega)]
  simp only [i64w, wrap64]
  omega
def mvL (has : Has) (own : KV) (X : List (Int × Int)) : Bl := (X.filter fun x => !(kget own x.1).isSome).map fun x => (x.1, (has x.1).getD (zs 480))
theorem moves_calm {J : Jr} {D : Dev} {has : Has} (h : JInv J D has) (own : KV) (X : List (Int × Int)) (hX : ∀ x ∈ X, told J.T.ps x.1 = some x.2) :
  J.moves D own X = ((0, mvL has own X), J, { D with cr := addN D.cr (mvL has own X).length }) := by
 have : ∀ (X : List (Int × Int)), (∀ x ∈ X, told J.T.ps x.1 = some x.2) → ∀ (acc : Bl) (r : Int), X.foldl (Jr.moveStep own) ((0, acc), J, { D with cr := r }) = ((0, acc ++ mvL has own X), J, { D with cr := addN r (mvL has own X).length }) := by
  intro X
  induction X with
  | nil => intro _ acc r; simp [mvL, addN]
  | cons x X ih =>
   intro hX acc r
   rw [List.foldl_cons]
   have hx := hX x List.mem_cons_self
   have hX' := fun y hy => hX y (List.mem_cons_of_mem _ hy)
   cases hk : kget own x.1 with
   | some v =>
    have e1 : Jr.moveStep own ((0, acc), J, { D with cr := r }) x = ((0, acc), J, { D with cr := r }) := by
     unfold Jr.moveStep
     simp [hk]
    have e2 : mvL has own (x :: X) = mvL has own X := by simp [mvL, hk]
    rw [e1, e2]; exact ih hX' acc r
   | none =>
    have hl := (h.cr r).load hx
    have e1 : Jr.moveStep own ((0, acc), J, { D with cr := r }) x = ((0, acc ++ [(x.1, (has x.1).getD (zs 480))]), J, { D with cr := i64w (r + 1) }) := by
     unfold Jr.moveStep
     simp only [hk]
     rw [hl]
     simp
    have e2 : mvL has own (x :: X) = (x.1, (has x.1).getD (zs 480)) :: mvL has own X := by simp [mvL, hk]
    rw [e1, e2, ih hX', addN_one, List.length_cons]
    simp
 exact this X hX [] D.cr
theorem ownersN_mem {T : Tb} {P first k : Nat} {x : Int × Int} (h : x ∈ ownersN T P first k) : ∃ i, i < k ∧ x.2 = (((first + i) % P : Nat) : Int) ∧ told T.os x.2 = some x.1 := by
 unfold ownersN at h
 obtain ⟨p, hp, hx⟩ := List.mem_filterMap.1 h
 obtain ⟨i, hi, rfl⟩ := List.mem_map.1 hp
 cases ht : told T.os (((first + i) % P : Nat) : Int) with
 | none => rw [ht] at hx; cases hx
 | some id =>
  rw [ht] at hx
  injection hx with hx
  rw [← hx]
  exact ⟨i, List.mem_range.1 hi, rfl, ht⟩
theorem mem_ownersN {T : Tb} {P first k i : Nat} {id : Int} (hi : i < k) (h : told T.os (((first + i) % P : Nat) : Int) = some id) : (id, (((first + i) % P : Nat) : Int)) ∈ ownersN T P first k := by
 unfold ownersN
 refine List.mem_filterMap.2 ⟨(first + i) % P, List.mem_map.2 ⟨i, List.mem_range.2 hi, rfl⟩, ?_⟩
 rw [h]; rfl
theorem ownersN_nodup {T : Tb} (hc : T.Con) {P first : Nat} : ∀ k, k ≤ P → ((ownersN T P first k).map Prod.fst).Nodup := by
 intro k
 induction k with
 | zero => intro _; simp [ownersN]
 | succ k ih =>
  intro hk
  rw [ownersN_succ]
  cases ht : told T.os (((first + k) % P : Nat) : Int) with
  | none => simp only [List.append_nil]; exact ih (by omega)
  | some id =>
   simp only [List.map_append, List.map_cons, List.map_nil]
   rw [List.nodup_append]
   refine ⟨ih (by omega), by simp, ?_⟩
   intro a ha b hb
   rw [List.mem_singleton.1 hb]
   rintro rfl
   obtain ⟨x, hx, rfl⟩ := List.mem_map.1 ha
   obtain ⟨i, hi, h1, h2⟩ := ownersN_mem hx
   have e1 := hc.qp _ _ h2
   rw [hc.qp _ _ ht] at e1
   injection e1 with e1
   rw [h1] at e1
   have := emod_ne (a := ((first + k : Nat) : Int)) (b := ((first + i : Nat) : Int)) (P := (P : Int)) (by omega) (by omega)
   exact this (by exact_mod_cast e1)
structure WrK (J : Jr) (D : Dev) (Z : List Wr) (k : Nat) (D' : Dev) : Prop where
 run : J.writeN D Z k = (0, D')
 calm : D'.Calm
 sec : D'.sec.length = D.sec.length
 cr : D'.cr = D.cr
 cf : D'.cf = D.cf
 cw : D'.cw = addN D.cw k
 new : ∀ i : Nat, i < k → D'.tells ((J.hd + (i : Int)) % (J.P : Int) + 1) = (0, enc (J.tag i Z.length (Z.getD i Wr.nil).1) ++ (Z.getD i Wr.nil).2.2)
 old : ∀ a, (∀ i : Nat, i < k → a ≠ (J.hd + (i : Int)) % (J.P : Int) + 1) → D'.tells a = D.tells a
theorem wrK (J : Jr) (D : Dev) (hP : 0 < J.P) (hc : D.Calm) (hs : (J.P : Int) + 1 ≤ D.sec.length) (Z : List Wr) (h480 : ∀ z ∈ Z, z.2.2.length = 480) (hZ : (Z.length : Int) ≤ J.P) : ∀ k, k ≤ Z.length → ∃ D', WrK J D Z k D' := by
  intro k
  induction k with
  | zero => intro _; exact ⟨D, rfl, hc, rfl, rfl, rfl, rfl, fun i hi => absurd hi (Nat.not_lt_zero i), fun _ _ => rfl⟩
  | succ k ih =>
    intro hk
    obtain ⟨D', hr⟩ := ih (by omega)
    obtain ⟨r1, r2, r3, r4, r5, r6, r7, r8⟩ := hr
    have hm : Z.getD k Wr.nil ∈ Z := by rw [List.getD, List.getElem?_eq_getElem (by omega)]; exact List.getElem_mem _
    have hlen : (enc (J.tag k Z.length (Z.getD k Wr.nil).1) ++ (Z.getD k Wr.nil).2.2).length = 512 := by rw [List.length_append, enc_length, h480 _ hm]
    have hq0 : 0 ≤ (J.hd + (k : Int)) % (J.P : Int) := Int.emod_nonneg _ (by omega)
    have hq1 : (J.hd + (k : Int)) % (J.P : Int) < J.P := Int.emod_lt_of_pos _ (by omega)
    have hhas : D'.has ((J.hd + (k : Int)) % (J.P : Int) + 1) := ⟨by omega, by rw [r3]; omega⟩
    have hw := r2.write hhas hlen
    have hst : J.writeN D Z (k + 1) = if (J.writeN D Z k).1 = 0 then
        (let R := (J.writeN D Z k).2.write ((J.hd + (k : Int)) % (J.P : Int) + 1) (enc (J.tag k Z.length (Z.getD k Wr.nil).1) ++ (Z.getD k Wr.nil).2.2)
         (if R.1 = 0 then 0 else 2, R.2)) else J.writeN D Z k := rfl
    rw [r1] at hst
    simp only [if_true] at hst
    rw [hw] at hst
    simp only [if_true] at hst
    refine ⟨_, hst, ⟨r2.down, r2.armed⟩, r3, r4, r5, by show i64w (D'.cw + 1) = _; rw [r6]; rfl, ?_, ?_⟩
    · intro i hi
      rw [write_tells]
      rcases Nat.lt_or_eq_of_le (Nat.lt_succ_iff.1 hi) with h1 | h1
      · have hne : (J.hd + (k : Int)) % (J.P : Int) ≠ (J.hd + (i : Int)) % (J.P : Int) := emod_ne (by omega) (by omega)
        rw [if_neg (by omega)]
        exact r7 i h1
      · subst h1
        rw [if_pos rfl, padTo_self hlen]
    · intro a ha
      rw [write_tells, if_neg (fun e => ha k (by omega) e.symm)]
      exact r8 a fun i hi => ha i (by omega)
end Go.Proofs.YtdafdidmbeecfaaGreatDoor
namespace Go.Proofs.YtdafdidmbeecfaaGreatDoor
set_option linter.unusedVariables false
set_option linter.unusedSimpArgs false
open Go.RowKit Go.SL
def updB (has : Has) (L : Bl) : Has := fun id => (kget L id).or (has id)
structure Batch (n : Int) (L : Bl) : Prop where
 n0 : 1 ≤ L.length
 n1 : L.length ≤ 24
 id : ∀ x ∈ L, 0 ≤ x.1 ∧ x.1 < n
 b480 : ∀ x ∈ L, x.2.length = 480
 nd : (L.map Prod.fst).Nodup
def ownK (L : Bl) : KV := ownN (wrOf L) L.length
theorem ownK_get (L : Bl) (id : Int) : (kget (ownK L) id).isSome = decide (id ∈ L.map Prod.fst) := by
 have hl : (wrOf L).length = L.length := by simp [wrOf]
 rw [ownK, ownN_kget (by omega)]
 congr 1
 have : ((wrOf L).take L.length).map Prod.fst = L.map Prod.fst := by
  rw [← hl, List.take_length]
  unfold wrOf
  rw [List.map_map]; rfl
 rw [this]
def movB (J : Jr) (has : Has) (L : Bl) : Bl := mvL has (ownK L) (ownersN J.T J.P (Jr.tail J) (J.cleaned L.length).toNat)
theorem tail_pos {J : Jr} (hJ : J.Ok) (i : Nat) : (((Jr.tail J + i) % J.P : Nat) : Int) = (J.hd - J.us + (i : Int)) % (J.P : Int) := by
 have hp := hJ.p0
 unfold Jr.tail
 rw [Int.natCast_emod, Int.natCast_add, Int.toNat_of_nonneg (Int.emod_nonneg _ (by omega)), Int.emod_add_emod]
theorem kget_idx {L : Bl} {x : Int} {i : Nat} (h : L.findIdx? (fun y => y.1 == x) = some i) : i < L.length ∧ (L.getD i (0, [])).1 = x ∧ kget L x = some (L.getD i (0, [])).2 := by
 rw [List.findIdx?_eq_some_iff_getElem] at h
 obtain ⟨h1, h2, h3⟩ := h
 have e : L.getD i (0, []) = L[i] := by rw [List.getD, List.getElem?_eq_getElem h1]; rfl
 refine ⟨h1, by rw [e]; simpa using h2, ?_⟩
 rw [e]
 have hf : L.find? (fun p => p.1 == x) = some L[i] := List.find?_eq_some_iff_getElem.2 ⟨h2, i, h1, rfl, fun j hj => by simpa using h3 j hj⟩
 unfold kget
 rw [hf]
 rfl
theorem kget_append {α : Type} (A B : List (Int × α)) (x : Int) : kget (A ++ B) x = (kget A x).or (kget B x) := by
 unfold kget
 rw [List.find?_append]
 cases A.find? (fun p => p.1 == x) <;> rfl
theorem mvL_has {J : Jr} {D : Dev} {has : Has} (h : JInv J D has) (own : KV) (X : List (Int × Int)) (hX : ∀ x ∈ X, told J.T.ps x.1 = some x.2) (id : Int) (b : List UInt8) (hk : kget (mvL has own X) id = some b) : has id = some b := by
 have hm := look_mem hk
 unfold mvL at hm
 obtain ⟨x, hx, e⟩ := List.mem_map.1 hm
 have hx' := (List.mem_filter.1 hx).1
 obtain ⟨t, c, h1, _⟩ := h.dat _ _ (hX x hx')
 injection e with e1 e2
 rw [← e1, h1]
 rw [h1] at e2
 rw [← e2]; rfl
theorem mvL_len480 {J : Jr} {D : Dev} {has : Has} (h : JInv J D has) (own : KV) (X : List (Int × Int)) (hX : ∀ x ∈ X, told J.T.ps x.1 = some x.2) : ∀ x ∈ mvL has own X, x.2.length = 480 ∧ 0 ≤ x.1 ∧ x.1 < J.n := by
 intro y hy
 unfold mvL at hy
 obtain ⟨x, hx, rfl⟩ := List.mem_map.1 hy
 have hx' := (List.mem_filter.1 hx).1
 obtain ⟨t, c, h1, h2, _⟩ := h.dat _ _ (hX x hx')
 have hr := told_range (hX x hx')
 have := h.ok.ps
 exact ⟨by simp only [h1, Option.getD_some]; exact h2, hr.1, by show x.1 < J.n; omega⟩
theorem mvL_ids (has : Has) (L : Bl) (X : List (Int × Int)) : (mvL has (ownK L) X).map Prod.fst = (X.map Prod.fst).filter fun id => decide (id ∉ L.map Prod.fst) := by
 unfold mvL
 rw [List.map_map, List.filter_map]
 congr 1
 congr 1
 funext x
 simp only [Function.comp, ownK_get]
 simp
structure DoneC (J : Jr) (D : Dev) (has : Has) (L : Bl) (D' : Dev) : Prop where
 run : jcommit J D true L = (0, J.done (L ++ movB J has L) (J.cleaned L.length), D')
 inv : JInv (J.done (L ++ movB J has L) (J.cleaned L.length)) D' (updB has L)
 cr : D'.cr = addN D.cr (movB J has L).length
 cw : D'.cw = addN D.cw (L.length + (movB J has L).length)
 cf : D'.cf = i64w (D.cf + 1)
theorem owners_ps {J : Jr} {D : Dev} {has : Has} (h : JInv J D has) (k : Nat) : ∀ x ∈ ownersN J.T J.P (Jr.tail J) k, told J.T.ps x.1 = some x.2 := by
 intro x hx
 obtain ⟨_, _, _, h2⟩ := ownersN_mem hx
 exact h.con.qp _ _ h2
theorem jmoved_calm {J : Jr} {D : Dev} {has : Has} (h : JInv J D has) (L : Bl) : jmoved J D L = ((0, movB J has L), J, { D with cr := addN D.cr (movB J has L).length }) :=
 moves_calm h (ownK L) _ (owners_ps h _)
theorem movB_len (J : Jr) (has : Has) (L : Bl) (h0 : 0 ≤ J.us) : ((movB J has L).length : Int) ≤ J.cleaned L.length := by
 have h1 : (movB J has L).length ≤ (J.cleaned L.length).toNat := by
  unfold movB mvL
  rw [List.length_map]
  exact Nat.le_trans (List.length_filter_le _ _) (ownersN_len _ _ _ _)
 have := (Jr.cleaned_range h0 L.length).1
 omega
theorem commit_done {J : Jr} {D : Dev} {has : Has} (h : JInv J D has) {L : Bl} (hb : Batch J.n L) (hsq : J.sq < 281474976710655) (hf : ¬ (J.P : Int) - J.us - J.fr < ((L ++ movB J has L).length : Int)) :
  ∃ D', DoneC J D has L D' := by
 have hm := jmoved_calm h.flushed L
 have hfl := h.flushed
 have hc := Jr.cleaned_range h.ok.us0 L.length
 have hml := movB_len J has L h.ok.us0
 have hX := owners_ps h (J.cleaned L.length).toNat
 have hmi : (movB J has L).map Prod.fst = ((ownersN J.T J.P (Jr.tail J) (J.cleaned L.length).toNat).map Prod.fst).filter fun id => decide (id ∉ L.map Prod.fst) := mvL_ids has L _
 have hmh : ∀ id b, kget (movB J has L) id = some b → has id = some b := fun id b hk => mvL_has h (ownK L) _ hX id b hk
 have hm4 : ∀ x ∈ movB J has L, x.2.length = 480 ∧ 0 ≤ x.1 ∧ x.1 < J.n := mvL_len480 h (ownK L) _ hX
 have hus0 := h.ok.us0
 have hus1 := h.ok.us1
 have hfr0 := h.ok.fr0
 have hp0 := h.ok.p0
 have hn1 := hb.n1
 generalize hM : movB J has L = M at *
 obtain ⟨A, hA⟩ : ∃ A, A = L ++ M := ⟨_, rfl⟩
 have hAlen : A.length = L.length + M.length := by rw [hA, List.length_append]
 rw [← hA] at hf
 have hA4 : ∀ x ∈ A, x.2.length = 480 ∧ 0 ≤ x.1 ∧ x.1 < J.n := by
  intro x hx
  rw [hA] at hx
  rcases List.mem_append.1 hx with hx | hx
  ·exact ⟨hb.b480 x hx, hb.id x hx⟩
  ·exact hm4 x hx
 have hAnd : (A.map Prod.fst).Nodup := by
  rw [hA, List.map_append, List.nodup_append]
  refine ⟨hb.nd, ?_, ?_⟩
  ·rw [hmi]
   exact (ownersN_nodup h.con _ (by omega)).filter _
  ·intro a ha b hb' e
   rw [hmi] at hb'
   have := (List.mem_filter.1 hb').2
   rw [← e] at this
   simp only [decide_eq_true_eq] at this
   exact this ha
 have hAl : (A.length : Int) ≤ J.P := by omega
 have hAl2 : (A.length : Int) + J.us ≤ J.P := by omega
 have hfree : ∀ i : Nat, i < A.length → told J.T.os ((J.hd + (i : Int)) % (J.P : Int)) = none := by
  intro i hi
  cases ht : told J.T.os ((J.hd + (i : Int)) % (J.P : Int)) with
  | none => rfl
  | some id =>
   obtain ⟨a, a1, a2, a3⟩ := h.win _ _ ht
   exact absurd a3 (emod_ne (by omega) (by omega))
 have hpk := putK J h.ok h.con A (fun x hx => (hA4 x hx).2) hAnd hAl hfree A.length (Nat.le_refl _)
 obtain ⟨p1, p2, p3⟩ := hpk
 rw [List.take_length] at p2
 have hwl : (wrOf A).length = A.length := by simp [wrOf]
 have hw480 : ∀ z ∈ wrOf A, z.2.2.length = 480 := by
  intro z hz
  obtain ⟨x, hx, rfl⟩ := List.mem_map.1 hz
  exact (hA4 x hx).1
 have hsec2 : (J.P : Int) + 1 ≤ D.flushed.sec.length := hfl.sec
 obtain ⟨D', hwr⟩ := wrK J { D.flushed with cr := addN D.flushed.cr M.length } h.ok.p0 (cr_calm hfl.calm _) hsec2 (wrOf A) hw480 (by rw [hwl]; exact hAl) A.length (by rw [hwl]; exact Nat.le_refl _)
 have hwk := Jr.writeN_keeps J (cr_ok hfl.dok (addN D.flushed.cr M.length)) (wrOf A) A.length (by show D.flushed.wait.length + A.length ≤ 1000000; have : D.flushed.wait = [] := rfl; rw [this]; simp only [List.length_nil]; have := h.ok.p1; omega)
 obtain ⟨w1, w2, w3, w4, w5, w6, w7, w8⟩ := hwr
 rw [w1] at hwk
 have hrun : jcommit J D true L = (0, J.done A (J.cleaned L.length), D') := by
  unfold jcommit
  rw [if_neg (by simp), if_neg (by omega), h.flush, if_neg (by simp)]
  unfold jcommit2
  rw [hm, ← hA, if_neg (by simp), if_neg hf, w1, if_neg (by simp)]
 have hpl := J.putN_len A A.length
 have hposd : J.hd % (J.P : Int) = J.hd := Int.emod_eq_of_lt h.ok.hd0 h.ok.hd1
 have hnew : ∀ i : Nat, i < A.length → D'.tells ((J.hd + (i : Int)) % (J.P : Int) + 1) = (0, enc (J.tag i A.length (A.getD i (0, [])).1) ++ (A.getD i (0, [])).2) := by
  intro i hi
  have := w7 i hi
  rw [hwl, (plain_get _ _).1, (plain_get _ _).2, plain_wrOf] at this
  exact this
 have hnum := h.nums.numbers hsq
 have hq : ∃ q : Int, (J.done A (J.cleaned L.length)).hd = J.hd + (A.length : Int) - (J.P : Int) * q := ⟨(J.hd + (A.length : Int)) / (J.P : Int), by
  show (J.hd + (A.length : Int)) % (J.P : Int) = _
  have := Int.emod_add_mul_ediv (J.hd + (A.length : Int)) (J.P : Int)
  omega⟩
 obtain ⟨q, hq⟩ := hq
 have hinwin : ∀ a : Int, J.hd - J.us + J.cleaned L.length ≤ a → a < J.hd + (A.length : Int) → ∃ b : Int, (J.done A (J.cleaned L.length)).hd - (J.done A (J.cleaned L.length)).us ≤ b ∧ b < (J.done A (J.cleaned L.length)).hd ∧ a % (J.P : Int) = b % (J.P : Int) := by
  intro a a1 a2
  have e : (J.done A (J.cleaned L.length)).us = J.us + ((A.length : Int) - J.cleaned L.length) := rfl
  refine ⟨a - (J.P : Int) * q, by rw [hq, e]; omega, by rw [hq]; omega, ?_⟩
  rw [Int.sub_mul_emod_self_left]
 refine ⟨D', by rw [hM, ← hA]; exact hrun, ?_, ?_, ?_, ?_⟩
 ·rw [hM, ← hA]
  refine ⟨?_, ?_, ?_, h.br, w2, ?_, p1, ?_, ?_, ?_, ?_⟩
  ·exact ⟨h.ok.p0, h.ok.p1, putN_ok h.ok.T A A.length, by show ((J.putN A A.length).ps.length : Int) = J.n; rw [hpl.1]; exact h.ok.ps, by show (J.putN A A.length).os.length = J.P; rw [hpl.2]; exact h.ok.os,
    by show 0 ≤ J.us + ((A.length : Int) - J.cleaned L.length); omega, by show J.us + ((A.length : Int) - J.cleaned L.length) ≤ (J.P : Int); omega,
    Int.emod_nonneg _ (by omega), Int.emod_lt_of_pos _ (by omega), by show 0 ≤ J.cleaned L.length; omega, by show J.cleaned L.length ≤ 48; omega⟩
  ·exact ⟨h.nums.ep0, h.nums.ep1, h.nums.st0, by show J.st ≤ J.sq + 1 + 1; have := h.nums.st1; omega, by show 0 ≤ J.sq + 1; have := h.nums.sq0; omega, by show J.sq + 1 ≤ 281474976710655; omega, h.nums.n1, Jr.putN_owns h.nums.own A A.length⟩
  ·exact hwk.ok (cr_ok hfl.dok _) (by show D.flushed.wait.length + A.length ≤ 1000000; have : D.flushed.wait = [] := rfl; rw [this]; simp only [List.length_nil]; have := h.ok.p1; omega)
  ·rw [w3]; exact hsec2
  ·show J.us + ((A.length : Int) - J.cleaned L.length) + J.cleaned L.length ≤ (J.P : Int); omega
  ·intro p id hp
   rcases p3 p id hp with ⟨i, hi, e, _⟩ | ⟨h1, h2⟩
   ·rw [e]; exact hinwin _ (by omega) (by omega)
   ·obtain ⟨a, a1, a2, a3⟩ := h.win p id h1
    rw [a3]
    refine hinwin a ?_ (by omega)
    refine Classical.byContradiction fun hlt => ?_
    have hlt : a < J.hd - J.us + J.cleaned L.length := by omega
    apply h2
    rw [List.take_length]
    obtain ⟨i, hi⟩ : ∃ i : Nat, a = J.hd - J.us + (i : Int) := ⟨(a - (J.hd - J.us)).toNat, by omega⟩
    have ht : told J.T.os (((Jr.tail J + i) % J.P : Nat) : Int) = some id := by rw [tail_pos h.ok, ← hi, ← a3]; exact h1
    have hmem := mem_ownersN (T := J.T) (P := J.P) (first := Jr.tail J) (k := (J.cleaned L.length).toNat) (i := i) (by omega) ht
    rw [hA, List.map_append, List.mem_append]
    by_cases hL : id ∈ L.map Prod.fst
    ·exact .inl hL
    ·right
     rw [hmi]
     exact List.mem_filter.2 ⟨List.mem_map.2 ⟨_, hmem, rfl⟩, by simpa using hL⟩
  ·intro id p hp
   have hp' : told (J.putN A A.length).ps id = some p := hp
   rw [p2] at hp'
   have hupd : updB has L id = (kget A id).or (has id) := by
    rw [hA, kget_append]
    unfold updB
    cases hk : kget L id with
    | some b => rfl
    | none =>
     cases hk2 : kget M id with
     | none => rfl
     | some b => simp [hmh id b hk2]
   cases hf : A.findIdx? (fun y => y.1 == id) with
   | some i =>
    rw [hf] at hp'
    injection hp' with hp'
    obtain ⟨i1, i2, i3⟩ := kget_idx hf
    have hmA : A.getD i (0, []) ∈ A := by rw [List.getD, List.getElem?_eq_getElem i1]; exact List.getElem_mem _
    obtain ⟨b1, b2, b3⟩ := hA4 _ hmA
    have hn3840 := h.nums.n1
    refine ⟨J.tag i A.length (A.getD i (0, [])).1, (A.getD i (0, [])).2, by rw [hupd, i3]; rfl, b1, by rw [← hp']; exact hnew i i1, by show (A.getD i (0, [])).1 = id; exact i2, ?_, Jr.tag_fit hnum _ _ _⟩
    exact Jr.tag_ok hnum i1 (by omega) b2 (by omega)
   | none =>
    rw [hf] at hp'
    simp only at hp'
    obtain ⟨t, b, t1, t2, t3, t4⟩ := hfl.dat id p hp'
    have hni := findIdx_none_mem.1 hf
    refine ⟨t, b, by rw [hupd, look_none.2 hni]; exact t1, t2, ?_, t4⟩
    rw [w8 (p + 1), cr_tells]
    ·exact t3
    ·intro i hi
     obtain ⟨a, a1, a2, a3⟩ := h.win p id (h.con.pq _ _ hp')
     have : (J.hd + (i : Int)) % (J.P : Int) ≠ p := by rw [a3]; exact emod_ne (by omega) (by omega)
     omega
  ·intro id hp
   have hp' : told (J.putN A A.length).ps id = none := hp
   rw [p2] at hp'
   cases hf : A.findIdx? (fun y => y.1 == id) with
   | some i => rw [hf] at hp'; cases hp'
   | none =>
    rw [hf] at hp'
    have hni := findIdx_none_mem.1 hf
    rw [hA, List.map_append, List.mem_append] at hni
    unfold updB
    rw [look_none.2 (fun q => hni (.inl q)), h.non id hp']
    rfl
 ·rw [hM, w4]
  show addN D.flushed.cr _ = _
  rw [(flushed_counts D).1]
 ·rw [hM, w6, ← hAlen]
  show addN D.flushed.cw _ = _
  rw [(flushed_counts D).2.1]
 ·rw [w5]
  exact (flushed_counts D).2.2.1
end Go.Proofs.YtdafdidmbeecfaaGreatDoor
namespace Go.Proofs.YtdafdidmbeecfaaGreatDoor
set_option linter.unusedVariables false
set_option linter.unusedSimpArgs false
open Go.RowKit Go.SL
def cntN (T : Tb) (P first k : Nat) : Nat := (ownersN T P first k).length
theorem cntN_succ (T : Tb) (P first k : Nat) : cntN T P first (k + 1) = cntN T P first k + (if (told T.os (((first + k) % P : Nat) : Int)).isSome then 1 else 0) := by
 unfold cntN
 rw [ownersN_succ, List.length_append]
 cases told T.os (((first + k) % P : Nat) : Int) <;> simp
theorem cntN_le (T : Tb) (P first k : Nat) : cntN T P first k ≤ k := ownersN_len _ _ _ _
def JBound (J : Jr) : Prop := ∀ k : Nat, (k : Int) ≤ J.us → 2 * J.us - (k : Int) + 2 * (cntN J.T J.P (Jr.tail J) k : Int) ≤ 5 * J.n
theorem nodup_below {l : List Int} {n : Nat} (h : l.Nodup) (hl : ∀ x ∈ l, 0 ≤ x ∧ x < n) : l.length ≤ n := by
 have := nodup_le (m := (List.range n).map fun i : Nat => (i : Int)) h fun x hx => by
  obtain ⟨h0, h1⟩ := hl x hx
  exact List.mem_map.2 ⟨x.toNat, List.mem_range.2 (by omega), Int.toNat_of_nonneg h0⟩
 simpa using this
structure AllB (J : Jr) (L A : Bl) : Prop where
 b : ∀ x ∈ A, x.2.length = 480 ∧ 0 ≤ x.1 ∧ x.1 < J.n
 nd : (A.map Prod.fst).Nodup
theorem allB {J : Jr} {D : Dev} {has : Has} (h : JInv J D has) {L : Bl} (hb : Batch J.n L) : AllB J L (L ++ movB J has L) := by
 have hc := Jr.cleaned_range h.ok.us0 L.length
 have hX := owners_ps h (J.cleaned L.length).toNat
 have hmi : (movB J has L).map Prod.fst = ((ownersN J.T J.P (Jr.tail J) (J.cleaned L.length).toNat).map Prod.fst).filter fun id => decide (id ∉ L.map Prod.fst) := mvL_ids has L _
 have hm4 : ∀ x ∈ movB J has L, x.2.length = 480 ∧ 0 ≤ x.1 ∧ x.1 < J.n := mvL_len480 h (ownK L) _ hX
 have hus1 := h.ok.us1
 refine ⟨?_, ?_⟩
 ·intro x hx
  rcases List.mem_append.1 hx with hx | hx
  ·exact ⟨hb.b480 x hx, hb.id x hx⟩
  ·exact hm4 x hx
 ·rw [List.map_append, List.nodup_append]
  refine ⟨hb.nd, ?_, ?_⟩
  ·rw [hmi]
   exact (ownersN_nodup h.con _ (by omega)).filter _
  ·intro a ha b hb' e
   rw [hmi] at hb'
   have := (List.mem_filter.1 hb').2
   rw [← e] at this
   simp only [decide_eq_true_eq] at this
   exact this ha
theorem commit_putK {J : Jr} {D : Dev} {has : Has} (h : JInv J D has) {L : Bl} (hb : Batch J.n L) (hf : ¬ (J.P : Int) - J.us - J.fr < ((L ++ movB J has L).length : Int)) :
  PutK J (L ++ movB J has L) (L ++ movB J has L).length := by
 have ha := allB h hb
 have hus0 := h.ok.us0
 have hfr0 := h.ok.fr0
 generalize L ++ movB J has L = A at ha hf ⊢
 refine putK J h.ok h.con A (fun x hx => (ha.b x hx).2) ha.nd (by omega) ?_ A.length (Nat.le_refl _)
 intro i hi
 cases ht : told J.T.os ((J.hd + (i : Int)) % (J.P : Int)) with
 | none => rfl
 | some id =>
  obtain ⟨a, a1, a2, a3⟩ := h.win _ _ ht
  exact absurd a3 (emod_ne (by omega) (by omega))
theorem movB_cnt (J : Jr) (has : Has) (L : Bl) : (movB J has L).length ≤ cntN J.T J.P (Jr.tail J) (J.cleaned L.length).toNat := by
 unfold movB mvL cntN
 rw [List.length_map]
 exact List.length_filter_le _ _
theorem never_full {J : Jr} {D : Dev} {has : Has} (h : JInv J D has) (hB : JBound J) (hP : 5 * J.n + 240 ≤ 2 * (J.P : Int)) {L : Bl} (hb : Batch J.n L) :
  ¬ (J.P : Int) - J.us - J.fr < ((L ++ movB J has L).length : Int) := by
 have hc := Jr.cleaned_range h.ok.us0 L.length
 have hml := movB_len J has L h.ok.us0
 have hn1 := hb.n1
 have hfr1 := h.ok.fr1
 have h0 := hB 0 (by have := h.ok.us0; omega)
 have e0 : cntN J.T J.P (Jr.tail J) 0 = 0 := by have := cntN_le J.T J.P (Jr.tail J) 0; omega
 rw [e0] at h0
 rw [List.length_append]
 omega
theorem cnt_mono {T T' : Tb} {P f f' c : Nat} : ∀ k : Nat, (∀ i, i < k → (told T'.os (((f' + i) % P : Nat) : Int)).isSome = true → (told T.os (((f + (c + i)) % P : Nat) : Int)).isSome = true) → cntN T' P f' k + cntN T P f c ≤ cntN T P f (c + k) := by
 intro k
 induction k with
 | zero => intro _; have := cntN_le T' P f' 0; simp only [Nat.add_zero]; omega
 | succ k ih =>
  intro h
  have := ih fun i hi => h i (by omega)
  have hk := h k (by omega)
  rw [← Nat.add_assoc, cntN_succ, cntN_succ]
  generalize (told T'.os (((f' + k) % P : Nat) : Int)).isSome = b at hk ⊢
  generalize (told T.os (((f + (c + k)) % P : Nat) : Int)).isSome = b' at hk ⊢
  cases b with
  | false => simp only [Bool.false_eq_true, if_false]; omega
  | true => rw [hk rfl]; simp only [if_true]; omega
theorem cnt_step (T : Tb) (P f a : Nat) : ∀ x, cntN T P f (a + x) ≤ cntN T P f a + x := by
 intro x
 induction x with
 | zero => exact Nat.le_refl _
 | succ x ih => rw [← Nat.add_assoc, cntN_succ]; split <;> omega
theorem bound_done {J : Jr} {D : Dev} {has : Has} (h : JInv J D has) (hB : JBound J) {L : Bl} (hb : Batch J.n L) (hf : ¬ (J.P : Int) - J.us - J.fr < ((L ++ movB J has L).length : Int)) :
  JBound (J.done (L ++ movB J has L) (J.cleaned L.length)) := by
 have ha := allB h hb
 have hpk := commit_putK h hb hf
 have hc := Jr.cleaned_range h.ok.us0 L.length
 have hmc := movB_cnt J has L
 have hus0 := h.ok.us0
 have hus1 := h.ok.us1
 have hfr0 := h.ok.fr0
 have hp0 := h.ok.p0
 have hps := h.ok.ps
 have hbk := hb.n0
 generalize hM : movB J has L = M at *
 have hAl : (L ++ M).length = L.length + M.length := List.length_append
 generalize hA : L ++ M = A at *
 obtain ⟨c, hcc⟩ : ∃ c : Nat, J.cleaned L.length = (c : Int) := ⟨(J.cleaned L.length).toNat, by omega⟩
 have hcdef : (c : Int) = if J.us < 2 * (L.length : Int) then J.us else 2 * (L.length : Int) := by rw [← hcc]; rfl
 rw [hcc, Int.toNat_natCast] at hmc
 rw [hcc] at hc ⊢
 obtain ⟨s, hs⟩ : ∃ s : Nat, J.us = (c : Int) + (s : Int) := ⟨(J.us - c).toNat, by omega⟩
 have hJ' : (J.done A c).us = (s : Int) + (A.length : Int) := by show J.us + ((A.length : Int) - c) = _; omega
 have hn' : (J.done A c).n = J.n := rfl
 have hP' : (J.done A c).P = J.P := rfl
 have hT' : (J.done A c).T = J.putN A A.length := rfl
 have hAP : (A.length : Int) + J.us ≤ J.P := by omega
 -- a place of the new ring, by the old one
 have hpos : ∀ i : Nat, (((Jr.tail (J.done A c) + i) % J.P : Nat) : Int) = (J.hd - J.us + (c : Int) + (i : Int)) % (J.P : Int) := by
  intro i
  unfold Jr.tail
  have hhd : (J.done A c).hd = (J.hd + (A.length : Int)) % (J.P : Int) := rfl
  rw [hJ', hP', hhd, Int.natCast_emod, Int.natCast_add, Int.toNat_of_nonneg (Int.emod_nonneg _ (by omega)), Int.emod_add_emod]
  have e1 := Int.emod_add_mul_ediv (J.hd + (A.length : Int)) (J.P : Int)
  generalize (J.hd + (A.length : Int)) % (J.P : Int) = x at e1
  generalize (J.hd + (A.length : Int)) / (J.P : Int) = y at e1
  rw [show x - ((s : Int) + (A.length : Int)) + (i : Int) = J.hd - J.us + (c : Int) + (i : Int) - (J.P : Int) * y by omega, Int.sub_mul_emod_self_left]
 have hold : ∀ (i : Nat) (x : Int), i < s → told (J.putN A A.length).os (((Jr.tail (J.done A c) + i) % J.P : Nat) : Int) = some x → told J.T.os (((Jr.tail J + (c + i)) % J.P : Nat) : Int) = some x ∧ x ∉ A.map Prod.fst := by
  intro i x hi hx
  rw [hpos] at hx
  rw [tail_pos h.ok, Int.natCast_add, ← Int.add_assoc]
  rcases hpk.os _ _ hx with ⟨k, hk, e, _⟩ | ⟨e1, e2⟩
  ·exact absurd e.symm (emod_ne (by omega) (by omega))
  ·rw [List.take_length] at e2; exact ⟨e1, e2⟩
 have hmono : ∀ k, k ≤ s → cntN (J.putN A A.length) J.P (Jr.tail (J.done A c)) k + cntN J.T J.P (Jr.tail J) c ≤ cntN J.T J.P (Jr.tail J) (c + k) := fun k hk => cnt_mono k fun i hi hx => by
  obtain ⟨x, hx⟩ := Option.isSome_iff_exists.1 hx
  rw [(hold i x (by omega) hx).1]; rfl
 -- those that are live, and the new ones, are blocks
 have hall : cntN (J.putN A A.length) J.P (Jr.tail (J.done A c)) s + A.length ≤ J.T.ps.length := by
  have hnd : (((ownersN (J.putN A A.length) J.P (Jr.tail (J.done A c)) s).map Prod.fst) ++ A.map Prod.fst).Nodup := by
   rw [List.nodup_append]
   refine ⟨ownersN_nodup hpk.con s (by omega), ha.nd, ?_⟩
   intro a ha' b hb' e
   obtain ⟨y, hy, rfl⟩ := List.mem_map.1 ha'
   obtain ⟨i, hi, y1, y2⟩ := ownersN_mem hy
   rw [y1] at y2
   rw [e] at y2
   exact (hold i _ hi y2).2 hb'
  have := nodup_below (n := J.T.ps.length) hnd fun x hx => by
   rcases List.mem_append.1 hx with hx | hx
   ·obtain ⟨y, hy, rfl⟩ := List.mem_map.1 hx
    obtain ⟨i, hi, y1, y2⟩ := ownersN_mem hy
    have := told_range (hpk.con.qp _ _ y2)
    have hl := (J.putN_len A A.length).1
    exact ⟨this.1, by have := this.2.1; omega⟩
   ·obtain ⟨y, hy, rfl⟩ := List.mem_map.1 hx
    have := (ha.b y hy).2
    exact ⟨this.1, by have := this.2; omega⟩
  rw [List.length_append, List.length_map, List.length_map] at this
  exact this
 intro k hk
 rw [hJ', hn', hP', hT'] at *
 have hB0 := hB 0 (by omega)
 have e0 : cntN J.T J.P (Jr.tail J) 0 = 0 := by have := cntN_le J.T J.P (Jr.tail J) 0; omega
 rw [e0] at hB0
 by_cases hks : k ≤ s
 ·have hm1 := hmono k hks
  have hB1 := hB (c + k) (by omega)
  have hkl := cntN_le (J.putN A A.length) J.P (Jr.tail (J.done A c)) k
  split at hcdef <;> omega
 ·obtain ⟨x, hx⟩ : ∃ x, k = s + x := ⟨k - s, by omega⟩
  have hst := cnt_step (J.putN A A.length) J.P (Jr.tail (J.done A c)) s x
  rw [← hx] at hst
  have hms := hmono s (Nat.le_refl s)
  have hBs := hB (c + s) (by omega)
  have hBc := hB c (by omega)
  have hls := cntN_le (J.putN A A.length) J.P (Jr.tail (J.done A c)) s
  split at hcdef <;> omega
end Go.Proofs.YtdafdidmbeecfaaGreatDoor
end

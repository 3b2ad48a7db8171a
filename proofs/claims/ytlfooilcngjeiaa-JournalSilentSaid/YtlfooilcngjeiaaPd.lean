/- Plain: what a journal keeps, on a device that nothing fails. -/
import Derived.Test.YtlfooilcngjeiaaPa
import Derived.Test.YtlfooilcngjeiaaPb
import Derived.Test.YtlfooilcngjeiaaPc
namespace Go.Proofs.Ytlfooilcngjeiaa
set_option linter.unusedVariables false
set_option linter.unusedSimpArgs false
open Go.RowKit Go.SL
abbrev Has := Int → Option (List UInt8)
/-- What a journal keeps: of each block what it was given last. -/
structure JInv (J : Jr) (D : Dev) (has : Has) : Prop where
  ok : J.Ok
  nums : J.Nums
  dok : D.Ok
  br : J.br = false
  calm : D.Calm
  sec : (J.P : Int) + 1 ≤ D.sec.length
  con : J.T.Con
  rm : J.us + J.fr ≤ J.P
  win : ∀ p id, told J.T.os p = some id → ∃ a : Int, J.hd - J.us ≤ a ∧ a < J.hd ∧ p = a % (J.P : Int)
  dat : ∀ id p, told J.T.ps id = some p → ∃ t b, has id = some b ∧ b.length = 480 ∧ D.tells (p + 1) = (0, enc t ++ b) ∧ t.id = id ∧ t.ok = true ∧ t.Fit
  non : ∀ id, told J.T.ps id = none → has id = none
theorem JInv.place {J : Jr} {D : Dev} {has : Has} (h : JInv J D has) {id p : Int} (hp : told J.T.ps id = some p) : 0 ≤ p ∧ p < J.P := by
  have := told_range (h.con.pq _ _ hp)
  have e := h.ok.os
  exact ⟨this.1, by have := this.2.1; omega⟩
theorem JInv.hasPlace {J : Jr} {D : Dev} {has : Has} (h : JInv J D has) {id p : Int} (hp : told J.T.ps id = some p) : D.has (p + 1) := by
  have := h.place hp
  have := h.sec
  exact ⟨by omega, by omega⟩
/-- Another device that tells the same serves as well. -/
theorem JInv.dev {J : Jr} {D D' : Dev} {has : Has} (h : JInv J D has) (hok : D'.Ok) (hc : D'.Calm) (hl : D'.sec.length = D.sec.length) (ht : ∀ a, D.has a → D'.tells a = D.tells a) : JInv J D' has :=
  ⟨h.ok, h.nums, hok, h.br, hc, by rw [hl]; exact h.sec, h.con, h.rm, h.win, fun id p hp => by
    obtain ⟨t, b, h1, h2, h3, h4⟩ := h.dat id p hp
    exact ⟨t, b, h1, h2, by rw [ht _ (h.hasPlace hp)]; exact h3, h4⟩, h.non⟩
theorem cr_tells (D : Dev) (r : Int) (a : Int) : ({ D with cr := r } : Dev).tells a = D.tells a := rfl
theorem cr_calm {D : Dev} (h : D.Calm) (r : Int) : ({ D with cr := r } : Dev).Calm := ⟨h.down, h.armed⟩
theorem cr_ok {D : Dev} (h : D.Ok) (r : Int) : ({ D with cr := r } : Dev).Ok := ⟨h.n, h.wait, h.many, h.keep⟩
theorem JInv.cr {J : Jr} {D : Dev} {has : Has} (h : JInv J D has) (r : Int) : JInv J { D with cr := r } has :=
  h.dev (cr_ok h.dok r) (cr_calm h.calm r) rfl fun _ _ => rfl
theorem load_of {J : Jr} {D D' : Dev} {id p : Int} {l b : List UInt8} {t : Tg} (hr : D.read (p % (J.P : Int) + 1) = ((0, l), D')) (hd : decodeF l = some (t, b)) (hi : t.id = id) : J.load D id p = ((0, b), J, D') := by
  unfold Jr.load
  simp only [hr, hd, hi, if_true]
theorem JInv.load {J : Jr} {D : Dev} {has : Has} (h : JInv J D has) {id p : Int} (hp : told J.T.ps id = some p) : J.load D id p = ((0, (has id).getD (zs 480)), J, { D with cr := i64w (D.cr + 1) }) := by
  obtain ⟨t, b, h1, h2, h3, h4, h5, h6⟩ := h.dat id p hp
  obtain ⟨p0, p1⟩ := h.place hp
  have hm : p % (J.P : Int) = p := Int.emod_eq_of_lt p0 p1
  have hr := h.calm.read (h.hasPlace hp)
  rw [h3] at hr
  rw [h1]
  exact load_of (by rw [hm]; exact hr) (decodeF_enc h6 h5 b) h4
theorem JInv.read {J : Jr} {D : Dev} {has : Has} (h : JInv J D has) {id : Int} (h0 : 0 ≤ id) (h1 : id < J.n) :
    J.read D id = ((0, (has id).getD (zs 480)), J, if (told J.T.ps id).isSome then { D with cr := i64w (D.cr + 1) } else D) := by
  unfold Jr.read
  rw [if_neg (by omega), h.br, if_neg (by simp)]
  cases hp : told J.T.ps id with
  | none => simp [h.non id hp]
  | some p => simp only [Option.isSome_some, if_true]; exact h.load hp
theorem JInv.flush {J : Jr} {D : Dev} {has : Has} (h : JInv J D has) : J.flush D = (0, J, D.flushed) := by
  unfold Jr.flush
  rw [h.br, if_neg (by simp), h.calm.flush]
  simp
theorem JInv.flushed {J : Jr} {D : Dev} {has : Has} (h : JInv J D has) : JInv J D.flushed has := by
  have hk := Dev.flush_keeps h.dok
  rw [h.calm.flush] at hk
  exact h.dev (hk.ok h.dok (by have := h.dok.many; omega)) (flushed_calm h.calm) (flushed_counts D).2.2.2 fun a ha => flushed_tells h.dok a ha
/-- A count behind k more. -/
def addN (c : Int) : Nat → Int
  | 0 => c
  | k + 1 => i64w (addN c k + 1)
theorem addN_one (c : Int) (k : Nat) : addN (i64w (c + 1)) k = addN c (k + 1) := by
  induction k with
  | zero => rfl
  | succ k ih => rw [addN, ih]; rfl
theorem addN_eq {c : Int} (k : Nat) (h0 : 0 ≤ c) (h1 : c + k ≤ 4611686018427387904) : addN c k = c + k := by
  induction k with
  | zero => simp [addN]
  | succ k ih =>
    rw [addN, ih (by omega)]
    simp only [i64w, wrap64]
    omega
/-- What is moved. -/
def mvL (has : Has) (own : KV) (X : List (Int × Int)) : Bl := (X.filter fun x => !(kget own x.1).isSome).map fun x => (x.1, (has x.1).getD (zs 480))
theorem moves_calm {J : Jr} {D : Dev} {has : Has} (h : JInv J D has) (own : KV) (X : List (Int × Int)) (hX : ∀ x ∈ X, told J.T.ps x.1 = some x.2) :
    J.moves D own X = ((0, mvL has own X), J, { D with cr := addN D.cr (mvL has own X).length }) := by
  have : ∀ (X : List (Int × Int)), (∀ x ∈ X, told J.T.ps x.1 = some x.2) → ∀ (acc : Bl) (r : Int), X.foldl (Jr.moveStep own) ((0, acc), J, { D with cr := r }) = ((0, acc ++ mvL has own X), J, { D with cr := addN r (mvL has own X).length }) := by
    intro X
    induction X with
    | nil => intro _ acc r; simp [mvL, addN]
    | cons x X ih =>
      intro hX acc r
      rw [List.foldl_cons]
      have hx := hX x List.mem_cons_self
      have hX' := fun y hy => hX y (List.mem_cons_of_mem _ hy)
      cases hk : kget own x.1 with
      | some v =>
        have e1 : Jr.moveStep own ((0, acc), J, { D with cr := r }) x = ((0, acc), J, { D with cr := r }) := by
          unfold Jr.moveStep
          simp [hk]
        have e2 : mvL has own (x :: X) = mvL has own X := by simp [mvL, hk]
        rw [e1, e2]; exact ih hX' acc r
      | none =>
        have hl := (h.cr r).load hx
        have e1 : Jr.moveStep own ((0, acc), J, { D with cr := r }) x = ((0, acc ++ [(x.1, (has x.1).getD (zs 480))]), J, { D with cr := i64w (r + 1) }) := by
          unfold Jr.moveStep
          simp only [hk]
          rw [hl]
          simp
        have e2 : mvL has own (x :: X) = (x.1, (has x.1).getD (zs 480)) :: mvL has own X := by simp [mvL, hk]
        rw [e1, e2, ih hX', addN_one, List.length_cons]
        simp
  exact this X hX [] D.cr
theorem ownersN_mem {T : Tb} {P first k : Nat} {x : Int × Int} (h : x ∈ ownersN T P first k) : ∃ i, i < k ∧ x.2 = (((first + i) % P : Nat) : Int) ∧ told T.os x.2 = some x.1 := by
  unfold ownersN at h
  obtain ⟨p, hp, hx⟩ := List.mem_filterMap.1 h
  obtain ⟨i, hi, rfl⟩ := List.mem_map.1 hp
  cases ht : told T.os (((first + i) % P : Nat) : Int) with
  | none => rw [ht] at hx; cases hx
  | some id =>
    rw [ht] at hx
    injection hx with hx
    rw [← hx]
    exact ⟨i, List.mem_range.1 hi, rfl, ht⟩
theorem mem_ownersN {T : Tb} {P first k i : Nat} {id : Int} (hi : i < k) (h : told T.os (((first + i) % P : Nat) : Int) = some id) : (id, (((first + i) % P : Nat) : Int)) ∈ ownersN T P first k := by
  unfold ownersN
  refine List.mem_filterMap.2 ⟨(first + i) % P, List.mem_map.2 ⟨i, List.mem_range.2 hi, rfl⟩, ?_⟩
  rw [h]; rfl
theorem ownersN_nodup {T : Tb} (hc : T.Con) {P first : Nat} : ∀ k, k ≤ P → ((ownersN T P first k).map Prod.fst).Nodup := by
  intro k
  induction k with
  | zero => intro _; simp [ownersN]
  | succ k ih =>
    intro hk
    rw [ownersN_succ]
    cases ht : told T.os (((first + k) % P : Nat) : Int) with
    | none => simp only [List.append_nil]; exact ih (by omega)
    | some id =>
      simp only [List.map_append, List.map_cons, List.map_nil]
      rw [List.nodup_append]
      refine ⟨ih (by omega), by simp, ?_⟩
      intro a ha b hb
      rw [List.mem_singleton.1 hb]
      rintro rfl
      obtain ⟨x, hx, rfl⟩ := List.mem_map.1 ha
      obtain ⟨i, hi, h1, h2⟩ := ownersN_mem hx
      have e1 := hc.qp _ _ h2
      rw [hc.qp _ _ ht] at e1
      injection e1 with e1
      rw [h1] at e1
      have := emod_ne (a := ((first + k : Nat) : Int)) (b := ((first + i : Nat) : Int)) (P := (P : Int)) (by omega) (by omega)
      exact this (by exact_mod_cast e1)
/-- What the first k writes come to. -/
structure WrK (J : Jr) (D : Dev) (Z : List Wr) (k : Nat) (D' : Dev) : Prop where
  run : J.writeN D Z k = (0, D')
  calm : D'.Calm
  sec : D'.sec.length = D.sec.length
  cr : D'.cr = D.cr
  cf : D'.cf = D.cf
  cw : D'.cw = addN D.cw k
  new : ∀ i : Nat, i < k → D'.tells ((J.hd + (i : Int)) % (J.P : Int) + 1) = (0, enc (J.tag i Z.length (Z.getD i Wr.nil).1) ++ (Z.getD i Wr.nil).2.2)
  old : ∀ a, (∀ i : Nat, i < k → a ≠ (J.hd + (i : Int)) % (J.P : Int) + 1) → D'.tells a = D.tells a
theorem wrK (J : Jr) (D : Dev) (hP : 0 < J.P) (hc : D.Calm) (hs : (J.P : Int) + 1 ≤ D.sec.length) (Z : List Wr) (h480 : ∀ z ∈ Z, z.2.2.length = 480) (hZ : (Z.length : Int) ≤ J.P) : ∀ k, k ≤ Z.length → ∃ D', WrK J D Z k D' := by
  intro k
  induction k with
  | zero => intro _; exact ⟨D, rfl, hc, rfl, rfl, rfl, rfl, fun i hi => absurd hi (Nat.not_lt_zero i), fun _ _ => rfl⟩
  | succ k ih =>
    intro hk
    obtain ⟨D', hr⟩ := ih (by omega)
    obtain ⟨r1, r2, r3, r4, r5, r6, r7, r8⟩ := hr
    have hm : Z.getD k Wr.nil ∈ Z := by rw [List.getD, List.getElem?_eq_getElem (by omega)]; exact List.getElem_mem _
    have hlen : (enc (J.tag k Z.length (Z.getD k Wr.nil).1) ++ (Z.getD k Wr.nil).2.2).length = 512 := by rw [List.length_append, enc_length, h480 _ hm]
    have hq0 : 0 ≤ (J.hd + (k : Int)) % (J.P : Int) := Int.emod_nonneg _ (by omega)
    have hq1 : (J.hd + (k : Int)) % (J.P : Int) < J.P := Int.emod_lt_of_pos _ (by omega)
    have hhas : D'.has ((J.hd + (k : Int)) % (J.P : Int) + 1) := ⟨by omega, by rw [r3]; omega⟩
    have hw := r2.write hhas hlen
    have hst : J.writeN D Z (k + 1) = if (J.writeN D Z k).1 = 0 then
        (let R := (J.writeN D Z k).2.write ((J.hd + (k : Int)) % (J.P : Int) + 1) (enc (J.tag k Z.length (Z.getD k Wr.nil).1) ++ (Z.getD k Wr.nil).2.2)
         (if R.1 = 0 then 0 else 2, R.2)) else J.writeN D Z k := rfl
    rw [r1] at hst
    simp only [if_true] at hst
    rw [hw] at hst
    simp only [if_true] at hst
    refine ⟨_, hst, ⟨r2.down, r2.armed⟩, r3, r4, r5, by show i64w (D'.cw + 1) = _; rw [r6]; rfl, ?_, ?_⟩
    · intro i hi
      rw [write_tells]
      rcases Nat.lt_or_eq_of_le (Nat.lt_succ_iff.1 hi) with h1 | h1
      · have hne : (J.hd + (k : Int)) % (J.P : Int) ≠ (J.hd + (i : Int)) % (J.P : Int) := emod_ne (by omega) (by omega)
        rw [if_neg (by omega)]
        exact r7 i h1
      · subst h1
        rw [if_pos rfl, padTo_self hlen]
    · intro a ha
      rw [write_tells, if_neg (fun e => ha k (by omega) e.symm)]
      exact r8 a fun i hi => ha i (by omega)
end Go.Proofs.Ytlfooilcngjeiaa

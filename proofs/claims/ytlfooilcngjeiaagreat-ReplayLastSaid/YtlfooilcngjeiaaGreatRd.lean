/- ReplayLast: what is found behind the crash; a journal of it. -/
import Derived.Test.YtlfooilcngjeiaaGreatRb
namespace Go.Proofs.YtlfooilcngjeiaaGreat
set_option linter.unusedVariables false
set_option linter.unusedSimpArgs false
open Go.RowKit Go.SL
/-- A journal, its device, and both ahead of the last batch. -/
def LHist (z : Nat) (J : Jr) (D : Dev) (has : Has) (Jo : Jr) (Do : Dev) (ho : Has) : Prop :=
  (z = 0 ∧ J = J0 160 12 ∧ D = Dev.fresh 161 ∧ has = (fun _ => none) ∧ Jo = J ∧ ho = has) ∨
  ∃ (L : Bl) (B : Nat), B ≤ 1000 ∧ Batch ((12 : Nat) : Int) L ∧ JW 12 160 B Jo Do ho ∧ JT 12 Jo Do ho ∧ J = Jo.done (L ++ movB Jo ho L) (Jo.cleaned L.length) ∧ D = devC Jo Do ho L ∧ has = updB ho L ∧ z = (L ++ movB Jo ho L).length
def allK (keep : List Int) (z : Nat) : Prop := ∀ i, i < z → keep.getD i 0 = 1
instance (keep : List Int) (z : Nat) : Decidable (allK keep z) := inferInstanceAs (Decidable (∀ i, i < z → keep.getD i 0 = 1))
structure Fou (J : Jr) (D : Dev) (has : Has) : Prop where
  told : Told 12 J D has
  jP : J.P = 160
  sq : J.sq ≤ 1001
  ep : ∀ p t, p < 160 → tellsT 160 D p = some t → t.ep ≤ 1
theorem fou_fresh : Fou (J0 160 12) (Dev.fresh 161) fun _ => none :=
  ⟨(jt_fresh (by omega) (by omega) (by omega) (by omega) (by omega)).told, rfl, by show (0 : Int) ≤ 1001; decide, fun p t _ h => by rw [tellsT_fresh] at h; cases h⟩
theorem last_told {z : Nat} {J : Jr} {D : Dev} {has : Has} {Jo : Jr} {Do : Dev} {ho : Has} (h : LHist z J D has Jo Do ho) (keep : List Int) :
    (allK keep z → Fou J (Dev.again D keep) has) ∧ (¬ allK keep z → z ≠ 0 ∧ Fou Jo (Dev.again D keep) ho) := by
  rcases h with ⟨rfl, rfl, rfl, rfl, rfl, rfl⟩ | ⟨L, B, hB, hb, hW, hT, rfl, rfl, rfl, rfl⟩
  · exact ⟨fun _ => fou_fresh, fun c => absurd (fun i hi => absurd hi (Nat.not_lt_zero i)) c⟩
  · have hb' : Batch Jo.n L := by rw [hW.jn]; exact hb
    have hsq0 := hW.sq
    have hsq : Jo.sq < 281474976710655 := by omega
    have hf := jw_room hW (by omega) hb
    have h2n : 2 * 12 ≤ Jo.P := by rw [hW.jP]; omega
    have hg := batch_tags hT hb' hsq h2n hf
    have hjP := hW.jP
    have heps : ∀ p t, p < 160 → tellsT 160 (Dev.again (devC Jo Do ho L) keep) p = some t → t.ep ≤ 1 := by
      obtain ⟨hp, _⟩ := mid_part (keep := keep) (mid_devC Jo Do ho L) hT hb' hsq hf h2n
      rw [hjP] at hp
      intro p t h1 h2
      rcases hp.tells h1 h2 with h3 | ⟨i, hi, _, rfl⟩
      · have := (hT.run.ep p t (by rw [hjP]; exact h1) (by rw [hjP]; exact h3)).1
        have := hW.ep; omega
      · rw [(hg.ok i hi).2.1, hW.ep]; exact Int.le_refl _
    refine ⟨fun hall => ⟨mid_kept (mid_devC Jo Do ho L) hT hb' hsq hf h2n hall, hjP, ?_, heps⟩, fun hall => ⟨?_, ?_⟩⟩
    · show Jo.sq + 1 ≤ 1001; omega
    · rw [List.length_append]; have := hb.n0; omega
    · have : ∃ i, i < (L ++ movB Jo ho L).length ∧ ¬ (i < (L ++ movB Jo ho L).length ∧ keep.getD i 0 = 1) := Classical.byContradiction fun c => hall fun i hi => Classical.byContradiction fun d => c ⟨i, hi, fun e => d e.2⟩
      obtain ⟨i0, h1, h2⟩ := this
      exact ⟨mid_lost (mid_devC Jo Do ho L) hT hb' hsq hf h2n h1 h2, hjP, by omega, heps⟩
theorem Told.crT {n : Nat} {J : Jr} {D : Dev} {has : Has} (h : Told n J D has) (r : Int) : Told n J { D with cr := r } has := ⟨h.inv.cr r, h.jn, h.tr⟩
theorem Fou.cr {J : Jr} {D : Dev} {has : Has} (h : Fou J D has) (r : Int) : Fou J { D with cr := r } has := ⟨h.told.crT r, h.jP, h.sq, h.ep⟩
theorem Fou.epo {J : Jr} {D : Dev} {has : Has} (h : Fou J D has) : epoI (fndsN ((12 : Nat) : Int) D 160) ≤ 1 ∧ 0 ≤ epoI (fndsN ((12 : Nat) : Int) D 160) := by
  have hP := h.jP
  have h1 := epo_le h.told (E := 1) (fun p t hp ht => h.ep p t (by omega) (by rw [hP] at ht; exact ht)) (by decide)
  rw [hP] at h1
  exact ⟨h1, (le_foldmax (fun x : Fnd => x.1.ep) (fndsN ((12 : Nat) : Int) D 160) 0).1⟩
/-- A journal that is made of what was found. -/
def FouQ (d : Nat) (J : Jr) (D : Dev) (has : Has) (w : World) (e : Ending) (w' : World) : Prop := ∃ k K, e = .returned (.tuple #[ptV k, .int .i64 0]) ∧ Sat w' (jrA k d K * whole w) ∧ Side w w' ∧ JInv K D has ∧ K.n = 12
theorem fnew_any (w : World) (S : Hp) (d : Nat) (J : Jr) (D : Dev) (has : Has) (F : Assn) (hd : Sat w (devA S d D * F)) (hF : Fou J D has) (ep : Int) (a : Value) (ha : RdI w a (Jr.ats J)) (h0 : 1 ≤ ep) (h1 : ep ≤ 2) :
    Calls Tryz.prog 7 #[ptV d, .int .i64 160, (Jr.js (J.seen ep (usSeen 12 J))).v a] w (FouQ d J D has w) := by
  have hP := hF.jP
  have hs := seen_inv hF.told h0 (by omega)
  have hn := hF.told.jn
  have hr := state_right hs (by show 1 ≤ J.n; rw [hn]; decide)
  have hsec := hs.sec
  have hdn := hs.dok.n
  have hq : 0 ≤ (Jr.js (J.seen ep (usSeen 12 J))).sq := hs.nums.sq0
  have hm := made_inv hs (by show 1 ≤ J.n; rw [hn]; decide)
  have hP1 : (J.seen ep (usSeen 12 J)).P = 160 := hP
  rw [hP1] at hr hm hsec
  have := jnew_any w S d D F hd 160 (Jr.js (J.seen ep (usSeen 12 J))) a ha (by omega) (by omega) (by omega) hdn hq hr
  refine this.mono fun e w' ⟨k, e1, e2, e3⟩ => ⟨k, _, e1, e2, e3, hm, ?_⟩
  show ((Jr.ats J).length : Int) = 12
  rw [ats_length, hF.told.inv.ok.ps, hn]; rfl
def FReadQ (S : Hp) (j d : Nat) (J : Jr) (D : Dev) (has : Has) (id : Int) (F : Assn) (w : World) (e : Ending) (w' : World) : Prop :=
  ∃ dv r, e = .returned (.tuple #[dv, .int .i64 0]) ∧ Sat w' (bs 5 dv ((has id).getD (zs 480)) * (jrA j d J * (devA S d { D with cr := r } * (pool S * F)))) ∧ Side w w'
theorem readI_any (w : World) (S : Hp) (j d : Nat) (J : Jr) (D : Dev) (F : Assn) (has : Has) (h : Sat w (jrA j d J * (devA S d D * (pool S * F)))) (hI : JInv J D has) {id : Int} (h0 : 0 ≤ id) (h1 : id < J.n) :
    Calls Tryz.prog 16 #[ptV j, .int .i64 id] w (FReadQ S j d J D has id F w) := by
  have hr := hI.read h0 h1
  have := jread_any w S j d J D id F h hI.ok hI.dok
  rw [hr] at this
  cases ht : (told J.T.ps id).isSome with
  | false =>
    rw [ht] at this
    simp only [Bool.false_eq_true, if_false] at this
    exact this.mono fun e w' ⟨dv, a, b, c⟩ => ⟨dv, D.cr, a, b.ansYes, c⟩
  | true =>
    rw [ht] at this
    simp only [if_true] at this
    exact this.mono fun e w' ⟨dv, a, b, c⟩ => ⟨dv, i64w (D.cr + 1), a, b.ansYes, c⟩
theorem keeps_updW {Bk : Assn} {R : List (Value × List UInt8)} (hBk : Keeps Bk R) {L : Wo} (h480 : ∀ x ∈ L, x.2.2.length = 480) : ∀ n, n ≤ L.length → Keeps (Bk * blksA (L.map fun x => (x.1, x.2.2))) (updR R L n) := by
  intro n
  induction n with
  | zero => intro _; exact hBk.more _
  | succ n ih =>
    intro hn
    have hn' : n < L.length := by omega
    rw [updR_succ R L hn']
    refine (ih (by omega)).set _ _ _ fun X w hs => ?_
    exact blks_rd (p := (L[n].1, L[n].2.2)) (hs.to (by ac_rfl : _ = blksA (L.map fun x => (x.1, x.2.2)) * (Bk * X))) (List.mem_map.2 ⟨L[n], List.getElem_mem hn', rfl⟩) (h480 _ (List.getElem_mem hn'))
def wrsSw (wb wcp : Nat) (L : Wo) : Assn := sl 41 2 (.slice (some ⟨wb, 0, none⟩) L.length wcp) L.length (SL.flatW L.wr)
/-- A state in memory. -/
def StO (J : Jr) (a : Nat) : Obj := .cells #[.int .u32 J.ep, .int .u64 J.st, .int .u64 J.sq, .int .i64 J.hd, .int .i64 J.us, .slice (some ⟨a, 0, none⟩) 12 12] 35 (0, 0)
def StC (J : Jr) (a : Nat) : Array Value := #[.int .u32 J.ep, .int .u64 J.st, .int .u64 J.sq, .int .i64 J.hd, .int .i64 J.us, .slice (some ⟨a, 0, none⟩) 12 12]
theorem stV {J : Jr} {D : Dev} {has : Has} (h : JInv J D has) (hn : J.n = 12) (a : Nat) : (Jr.js J).v (.slice (some ⟨a, 0, none⟩) J.T.ps.length J.T.ps.length) = .agg #[.int .u32 J.ep, .int .u64 J.st, .int .u64 J.sq, .int .i64 J.hd, .int .i64 J.us, .slice (some ⟨a, 0, none⟩) 12 12] := by
  have : J.T.ps.length = 12 := by have := h.ok.ps; rw [hn] at this; omega
  rw [this]; rfl
def rowsL (v : Value) (R : List (Value × List UInt8)) (n : Nat) : Assn := sl 39 1 v n (R.map Prod.fst)
/-- Rows that tell blocks. -/
structure RowT (has : Has) (Bk : Assn) (R : List (Value × List UInt8)) (n : Nat) : Prop where
  len : R.length = n
  of : RowsOf has R
  keep : Keeps Bk R
theorem RowT.more {has : Has} {Bk Y : Assn} {R : List (Value × List UInt8)} {n : Nat} (h : RowT has Bk R n) : RowT has (Bk * Y) R n := ⟨h.len, h.of, h.keep.more Y⟩
theorem RowT.zero {Bk : Assn} {R : List (Value × List UInt8)} {n : Nat} (h : RowT (fun _ => none) Bk R n) (v : Value) : RowT (fun _ => none) (Bk * bs 5 v (zs 480)) (R ++ [(v, zs 480)]) (n + 1) := by
  refine ⟨by rw [List.length_append, h.len]; rfl, h.of.snoc v, ?_⟩
  have := h.keep.snoc 5 v (zs 480)
  rwa [star_comm] at this
/-- A row of rows is copied. -/
theorem append_rows {w : World} {v b : Value} {F : Assn} {n : Nat} {ys : List Value} (h : Sat w (sl 39 1 v 0 [] * F)) (hr : Rds w 1 b n ys) (h1 : ∀ u ∈ ys, u.oneCell' = true) (hn : n ≤ 1000) :
    ∃ a c w', (Builtin.append_ #[47, 47] 47 #[v, b]).run Tryz.prog w = .ok (.slice a n c) w' ∧ Sat w' (sl 39 1 (.slice a n c) n ys * F) ∧ Side w w' := by
  obtain ⟨i0, hi, hz, hs0, hb0⟩ := info_parts info_bytes
  obtain ⟨v', w', hrun, hsat', hside'⟩ := Sat.append (P := Tryz.prog) (ty := 47) Tryz.underlying47 hi hz hs0 hb0 rfl h hr h1 (by unfold maxLen; omega) (by omega)
  rw [Nat.zero_add, List.nil_append] at hsat'
  obtain ⟨a, c, rfl⟩ := sl_shape hsat'
  exact ⟨a, c, w', hrun, hsat', hside'⟩
theorem Keeps.one {Bk : Assn} {R : List (Value × List UInt8)} (h : Keeps Bk R) {X : Assn} {w : World} (hs : Sat w (Bk * X)) : ∀ u ∈ R.map Prod.fst, u.oneCell' = true := by
  intro u hu
  obtain ⟨p, hp, rfl⟩ := List.mem_map.1 hu
  obtain ⟨a, c, e⟩ := (h X w hs p hp).shape
  rw [e]; rfl
theorem devC_cw {n P B : Nat} {J : Jr} {D : Dev} {has : Has} (hW : JW n P B J D has) (hP : 5 * n + 240 ≤ 2 * P) (hB : B ≤ 1000000) {L : Bl} (hb : Batch (n : Int) L) :
    (devC J D has L).cw = D.cw + ((L ++ movB J has L).length : Int) ∧ (L ++ movB J has L).length ≤ 72 := by
  have hb' : Batch J.n L := by rw [hW.jn]; exact hb
  have hsq : J.sq < 281474976710655 := by have := hW.sq; omega
  have hf := jw_room hW hP hb
  have hc := (commit_dev hW.inv hb' hsq hf).cw
  have hl : (L ++ movB J has L).length ≤ 72 := by
    rw [List.length_append]
    have := movB_len J has L hW.inv.ok.us0
    have := Jr.cleaned_range hW.inv.ok.us0 L.length
    have := hb.n1
    omega
  have e1 := hW.cw0; have e2 := hW.cw1
  rw [addN_eq _ e1 (by rw [← List.length_append]; omega)] at hc
  refine ⟨?_, hl⟩
  rw [hc, List.length_append]
def L1Rel (X : Assn) (w : World) (u11 u12 u13 : Value) (wr : World) : Prop :=
  ∃ (k : Nat) (RW RN : List (Value × List UInt8)) (Bk : Assn), k ≤ 12 ∧ u13 = .int .i64 (k : Int) ∧ RowT (fun _ => none) Bk RW k ∧ RowT (fun _ => none) Bk RN k ∧ Sat wr (rowsL u11 RW k * (rowsL u12 RN k * (Bk * X))) ∧ Side w wr
def L1Out (X : Assn) (w : World) (u11 u12 : Value) (wr : World) : Prop :=
  ∃ (RW RN : List (Value × List UInt8)) (Bk : Assn), RowT (fun _ => none) Bk RW 12 ∧ RowT (fun _ => none) Bk RN 12 ∧ Sat wr (rowsL u11 RW 12 * (rowsL u12 RN 12 * (Bk * X))) ∧ Side w wr
def lastA (j d ob og : Nat) (S : Hp) (J : Jr) (D : Dev) (Jo : Jr) (w : World) : Assn := jrA j d J * (devA S d D * (pool S * (pt ob (StO Jo og) * (pt og (.cells (ints (Jr.ats Jo)) 3 (0, 0)) * whole w))))
def L2Out (j d ob m : Nat) (w : World) (u11 u12 u14 : Value) (wr : World) : Prop :=
  ∃ (S : Hp) (J : Jr) (D : Dev) (has : Has) (Jo : Jr) (Do : Dev) (ho : Has) (og z : Nat) (RW RN : List (Value × List UInt8)) (Bk : Assn), u14 = .int .i64 (z : Int) ∧ z ≤ 1000 ∧ JW 12 160 m J D has ∧ JT 12 J D has ∧ LHist z J D has Jo Do ho ∧ RowT ho Bk RW 12 ∧ RowT has Bk RN 12 ∧
    Sat wr (rowsL u11 RW 12 * (rowsL u12 RN 12 * (Bk * lastA j d ob og S J D Jo w))) ∧ Side w wr
def L2Rel (j d ob : Nat) (w : World) (u11 u12 u14 u15 : Value) (wr : World) : Prop := ∃ i : Nat, i ≤ 40 ∧ u15 = .int .i64 (i : Int) ∧ L2Out j d ob i w u11 u12 u14 wr
def L4Rel (hg cap : Nat) (R : List (Value × List UInt8)) (L : Wo) (Y : Assn) (w : World) (u : Value) (wr : World) : Prop :=
  ∃ (n : Nat) (cur : Array Value), n ≤ L.length ∧ u = .int .i64 (n : Int) ∧ cur.size = cap ∧ cur.toList.take 12 = (updR R L n).map Prod.fst ∧ Sat wr (pt hg (.cells cur 39 (0, 0)) * Y) ∧ Side w wr
def L4Out (hg cap : Nat) (R : List (Value × List UInt8)) (L : Wo) (Y : Assn) (w : World) (wr : World) : Prop :=
  ∃ (cur : Array Value), cur.size = cap ∧ cur.toList.take 12 = (updR R L L.length).map Prod.fst ∧ Sat wr (pt hg (.cells cur 39 (0, 0)) * Y) ∧ Side w wr
theorem IsInts.take {w : World} {a : Option Addr} {len cap : Nat} {zs : List Int} (h : IsInts w a len cap zs) : (zs.take len).length = len ∧ ∀ i, i < len → (zs.take len).getD i 0 = zs.getD i 0 := by
  have hl : len ≤ zs.length := by
    rcases h with ⟨_, h, _⟩ | ⟨x, _, h1, _, h2, _⟩ <;> omega
  refine ⟨by rw [List.length_take]; omega, fun i hi => ?_⟩
  simp [List.getD, List.getElem?_take, hi]
theorem keepR_ints {w : World} {a : Option Addr} {len cap : Nat} {zs : List Int} (h : IsInts w a len cap zs) (x : Dx) (S : Hp) (d : Nat) (D : Dev) (F : Assn) : KeepR x S d D (F * whole w) (.slice a len cap) (zs.take len) := by
  obtain ⟨h1, h2⟩ := h.take
  refine ⟨a, cap, by rw [h1], by rw [h1]; exact h.len_le, fun i hi => ?_⟩
  rw [h1] at hi
  obtain ⟨b, off, rfl, hc, _, _⟩ := h.cell hi
  refine ⟨b, off, rfl, fun w' Y D' _ hs => ?_⟩
  rw [h2 i hi]
  exact (hs.to (by ac_rfl : _ = (devX { x with Y := Y } S d D' * F) * whole w)).cellOld hc
/-- What was found, by what was kept. -/
theorem last_found {z : Nat} {J : Jr} {D : Dev} {has : Has} {Jo : Jr} {Do : Dev} {ho : Has} (h : LHist z J D has Jo Do ho) (keep : List Int) :
    ∃ (bv : Bool) (Jn : Jr) (hn : Has), bv = decide (allK keep z) ∧ Fou Jn (Dev.again D keep) hn ∧ (bv = true → Jn = J ∧ hn = has) ∧ (bv = false → z ≠ 0 ∧ Jn = Jo ∧ hn = ho) := by
  obtain ⟨h1, h2⟩ := last_told h keep
  by_cases hk : allK keep z
  · exact ⟨true, J, has, by rw [decide_eq_true hk], h1 hk, fun _ => ⟨rfl, rfl⟩, fun c => by cases c⟩
  · exact ⟨false, Jo, ho, by rw [decide_eq_false hk], (h2 hk).2, fun c => by (cases c), fun _ => ⟨(h2 hk).1, rfl, rfl⟩⟩
def allKN (keep : List Int) (len z i : Nat) : Bool := decide (z ≤ len) && decide (∀ k, k < i → keep.getD k 0 = 1)
theorem allKN_succ (keep : List Int) (len z i : Nat) : allKN keep len z (i + 1) = (allKN keep len z i && decide (keep.getD i 0 = 1)) := by
  unfold allKN
  rw [Bool.and_assoc]
  congr 1
  rw [Bool.eq_iff_iff, Bool.and_eq_true, decide_eq_true_eq, decide_eq_true_eq, decide_eq_true_eq]
  exact ⟨fun h => ⟨fun k hk => h k (by omega), h i (by omega)⟩, fun ⟨h1, h2⟩ k hk => by
    rcases Nat.lt_or_eq_of_le (Nat.lt_succ_iff.1 hk) with h3 | h3
    · exact h1 k h3
    · rw [h3]; exact h2⟩
theorem allKN_end {keep : List Int} {len z i : Nat} (hl : keep.length = len) (hi : i ≤ z) (h : z ≤ i ∨ len ≤ i) : allKN keep len z i = decide (allK keep z) := by
  unfold allKN
  by_cases hz : z ≤ len
  · rw [decide_eq_true hz, Bool.true_and]
    have : i = z := by omega
    subst this; rfl
  · rw [decide_eq_false hz, Bool.false_and]
    symm
    apply decide_eq_false
    intro hk
    have := hk len (by omega)
    rw [List.getD, List.getElem?_eq_none (by omega)] at this
    cases this
def L5Rel (keep : List Int) (len z : Nat) (w : World) (u28 u29 : Value) (wr : World) : Prop := ∃ i : Nat, i ≤ z ∧ i ≤ len ∧ u29 = .int .i64 (i : Int) ∧ u28 = .bool (allKN keep len z i) ∧ w = wr
def WantP (S : Hp) (d sb g wb : Nat) (O : Obj) (Jn : Jr) (D : Dev) (hn : Has) (Bk : Assn) (w : World) (u31 : Value) (wx : World) : Prop :=
  ∃ (aw : Nat) (Rn : List (Value × List UInt8)), RowT hn Bk Rn 12 ∧ Sat wx (pt wb (StO Jn aw) * (pt aw (.cells (ints (Jr.ats Jn)) 3 (0, 0)) * (rowsL u31 Rn 12 * (Bk * (pt sb O * (pt g (.cells (ints (Jr.ats Jn)) 3 (0, 0)) * (devA S d D * (pool S * whole w)))))))) ∧ Side w wx
def L6Rel (S : Hp) (k d : Nat) (K : Jr) (D : Dev) (Y : Assn) (w : World) (u : Value) (wr : World) : Prop :=
  ∃ (i : Nat) (r : Int), i ≤ 12 ∧ u = .int .i64 (i : Int) ∧ Sat wr (jrA k d K * (devA S d { D with cr := r } * (pool S * Y))) ∧ Side w wr
end Go.Proofs.YtlfooilcngjeiaaGreat

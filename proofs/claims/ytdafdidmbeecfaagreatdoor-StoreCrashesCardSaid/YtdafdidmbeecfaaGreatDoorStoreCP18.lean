/- Steps towards the statement StoreC. -/
import Derived.Test.YtdafdidmbeecfaaGreatDoorStoreCP10
import Derived.Test.YtdafdidmbeecfaaGreatDoorStoreCP14
import Derived.Deep.RegionHeld3
import Derived.Test.YtdafdidmbeecfaaGreatDoorStoreCP13
import Derived.BigQuiet
import Derived.IntWalk
section
namespace Go.SL
set_option linter.unusedVariables false
set_option linter.unusedSimpArgs false
open Go.RowKit
abbrev Fnd := Tg × Nat
def fdC (x : Fnd) : Array Value := #[.int .u32 x.1.ep, .int .u64 x.1.st, .int .u64 x.1.sq, .int .u64 x.1.fl, .int .i64 x.1.ix, .int .i64 x.1.ct, .int .i64 x.1.id, .int .i64 (x.2 : Int)]
def flatF (L : List Fnd) : List Value := L.flatMap fun x => (fdC x).toList
theorem flatF_snoc (L : List Fnd) (x : Fnd) : flatF (L ++ [x]) = flatF L ++ (fdC x).toList := by simp [flatF]
theorem flatF_get : ∀ (L : List Fnd) (i j : Nat) (h : i < L.length), j < 8 → (flatF L)[i * 8 + j]? = (fdC L[i])[j]? := by
 intro L
 induction L with
 | nil => intro i j h; simp at h
 | cons x L ih =>
  intro i j h hj
  rw [flatF, List.flatMap_cons]
  cases i with
  | zero =>
   rw [List.getElem?_append_left (by show _ < 8; omega)]
   simp
  | succ i =>
   rw [List.getElem?_append_right (by show 8 ≤ _; omega)]
   show (flatF L)[(i + 1) * 8 + j - 8]? = _
   rw [show (i + 1) * 8 + j - 8 = i * 8 + j by omega, ih i j (by simpa using h) hj]
   simp
def RdF (w : World) (v : Value) (L : List Fnd) : Prop := Rds w 8 v L.length (flatF L)
theorem RdF.cells {w : World} {v : Value} {L : List Fnd} (h : RdF w v L) {i : Nat} (hi : i < L.length) :
  ∃ g off c, v = .slice (some ⟨g, off, none⟩) L.length c ∧ ∀ j, j < 8 → w.cell? ⟨g, off + i * 8 + j, none⟩ = (fdC L[i])[j]? := by
 rcases h.2 with ⟨_, h0⟩ | ⟨a, c, rfl, ha⟩
 ·omega
 ·obtain ⟨x, hx⟩ : ∃ x, (flatF L)[0 * 8 + 0]? = some x := ⟨_, by rw [flatF_get L 0 0 (by omega) (by omega)]; rfl⟩
  obtain ⟨g, off, p⟩ := a
  have hp : p = none := by
   have := ha _ _ hx
   cases p with
   | none => rfl
   | some q =>
    simp only [World.cell?, Addr.add] at this
    split at this
    ·simp at this
    ·cases this
  subst hp
  refine ⟨g, off, c, rfl, fun j hj => ?_⟩
  have hget := flatF_get L i j hi hj
  obtain ⟨y, hy⟩ : ∃ y, (fdC L[i])[j]? = some y := ⟨(fdC L[i])[j]'(by show j < 8; exact hj), Array.getElem?_eq_getElem (by show j < 8; exact hj)⟩
  rw [hy] at hget ⊢
  have := ha _ _ hget
  rw [Addr.add_lit] at this
  rw [Nat.add_assoc]; exact this
theorem RdF.keep {w w' : World} {v : Value} {L : List Fnd} {P : Assn} (h : RdF w v L) (s : Sat w' (P * whole w)) : RdF w' v L := Rds.carry h fun a u hu => s.cellOld hu
theorem RdF.shape {w : World} {v : Value} {L : List Fnd} (h : RdF w v L) : ∃ a c, v = .slice a L.length c := by
 rcases h.2 with ⟨rfl, h0⟩ | ⟨a, c, rfl, _⟩
 ·exact ⟨none, 0, by rw [h0]⟩
 ·exact ⟨_, _, rfl⟩
def fndAdd (B : Int) (k : Nat) (L : List Fnd) (o : Option (Tg × List UInt8)) : List Fnd :=
 match o with
 | some p => if p.1.id < B then L ++ [(p.1, k)] else L
 | none => L
theorem fndAdd_none (B : Int) (k : Nat) (L : List Fnd) : fndAdd B k L none = L := rfl
theorem fndAdd_yes {B : Int} {t : Tg} (h : t.id < B) (k : Nat) (L : List Fnd) (r : List UInt8) : fndAdd B k L (some (t, r)) = L ++ [(t, k)] := if_pos h
theorem fndAdd_no {B : Int} {t : Tg} (h : ¬ t.id < B) (k : Nat) (L : List Fnd) (r : List UInt8) : fndAdd B k L (some (t, r)) = L := if_neg h
def scanS (B : Int) (k : Nat) (R : Int × List Fnd × Dev) : Int × List Fnd × Dev :=
 if R.1 = 0 then
  (if (R.2.2.read ((k : Int) + 1)).1.1 = 3 then ((0 : Int), R.2.1, (R.2.2.read ((k : Int) + 1)).2)
  else if (R.2.2.read ((k : Int) + 1)).1.1 = 0 then ((0 : Int), fndAdd B k R.2.1 (decodeF (R.2.2.read ((k : Int) + 1)).1.2), (R.2.2.read ((k : Int) + 1)).2)
  else ((2 : Int), [], (R.2.2.read ((k : Int) + 1)).2))
 else R
def scanN (B : Int) (D : Dev) : Nat → Int × List Fnd × Dev
 | 0 => ((0 : Int), [], D)
 | k + 1 => scanS B k (scanN B D k)
theorem scanN_zero (B : Int) (D : Dev) : scanN B D 0 = ((0 : Int), [], D) := rfl
theorem scanN_succ (B : Int) (D : Dev) (k : Nat) : scanN B D (k + 1) = scanS B k (scanN B D k) := rfl
theorem decode_ok {l : List UInt8} {t : Tg} {b : List UInt8} (h : decodeF l = some (t, b)) : t.ok = true ∧ t.Fit := by
 have hf := decT_fit l 9
 unfold decodeF at h
 generalize decT l 9 = u at *
 split at h
 ·rename_i hc
  cases h
  exact ⟨hc.1, hf⟩
 ·cases h
structure FndOk (B : Int) (P : Nat) (x : Fnd) : Prop where
 ok : x.1.ok = true
 fit : x.1.Fit
 id : x.1.id < B
 place : x.2 < P
theorem scanN_found (B : Int) (D : Dev) (k : Nat) : (∀ x ∈ (scanN B D k).2.1, FndOk B k x) ∧ (scanN B D k).2.1.length ≤ k ∧ ((scanN B D k).2.1.map Prod.snd).Pairwise (· < ·) := by
 induction k with
 | zero => exact ⟨fun x hx => by simp [scanN] at hx, by simp [scanN], by simp [scanN]⟩
 | succ k ih =>
  obtain ⟨i1, i2, i3⟩ := ih
  have wk : ∀ x ∈ (scanN B D k).2.1, FndOk B (k + 1) x := fun x hx => ⟨(i1 x hx).ok, (i1 x hx).fit, (i1 x hx).id, Nat.lt_succ_of_lt (i1 x hx).place⟩
  rw [scanN_succ]
  unfold scanS
  split
  ·split
   ·exact ⟨wk, by dsimp only; omega, i3⟩
   ·split
    ·generalize hd : decodeF ((scanN B D k).2.2.read ((k : Int) + 1)).1.2 = o
     match o, hd with
     | some p, hp =>
      dsimp only [fndAdd]
      split
      ·rename_i hid
       obtain ⟨o1, o2⟩ := decode_ok (t := p.1) (b := p.2) hp
       refine ⟨fun x hx => ?_, by simp; omega, ?_⟩
       ·rcases List.mem_append.1 hx with hx | hx
        ·exact wk x hx
        ·obtain rfl : x = (p.1, k) := by simpa using hx
         exact ⟨o1, o2, hid, Nat.lt_succ_self k⟩
       ·rw [List.map_append, List.pairwise_append]
        refine ⟨i3, by simp, fun a ha b hb => ?_⟩
        obtain ⟨x, hx, rfl⟩ := List.mem_map.1 ha
        obtain rfl : b = k := by simpa using hb
        exact (i1 x hx).place
      ·exact ⟨wk, by omega, i3⟩
     | none, hp => exact ⟨wk, by dsimp only [fndAdd]; omega, i3⟩
    ·exact ⟨by simp, by simp, by simp⟩
  ·exact ⟨wk, by omega, i3⟩
theorem scanN_code (B : Int) (D : Dev) (k : Nat) : (scanN B D k).1 = 0 ∨ ((scanN B D k).1 = 2 ∧ (scanN B D k).2.1 = []) := by
 induction k with
 | zero => exact .inl rfl
 | succ k ih =>
  rw [scanN_succ]
  unfold scanS
  split
  ·split
   ·exact .inl rfl
   ·split
    ·exact .inl rfl
    ·exact .inr ⟨rfl, rfl⟩
  ·exact ih
theorem scanN_stay {B : Int} {D : Dev} {k n : Nat} (h : (scanN B D k).1 ≠ 0) (hk : k ≤ n) : scanN B D n = scanN B D k := by
  induction n with
  | zero => obtain rfl : k = 0 := by omega
            rfl
  | succ n ih =>
    by_cases hkn : k = n + 1
    · rw [hkn]
    · have := ih (by omega)
      rw [scanN_succ]
      unfold scanS
      rw [this, if_neg h]
end Go.SL
namespace Go.Proofs.YtdafdidmbeecfaaGreatDoor
set_option linter.unusedVariables false
set_option linter.unusedSimpArgs false
open Go.RowKit Go.SL
theorem strike_ok {D : Dev} (h : D.Ok) : D.strike.Ok := by
 unfold Dev.strike
 split
 ·refine ⟨?_, by simp [Dev.crash], by simp [Dev.crash], by simp [Dev.crash]⟩
  show (D.fates D.keep D.wait.length).sec.length ≤ 20000
  rw [(fates_keep D D.keep D.wait.length).2.2]; exact h.n
 ·exact h
theorem begun_ok {D : Dev} (h : D.Ok) : D.begun.Ok := by
 have := strike_ok h
 unfold Dev.begun
 split
 ·exact this
 ·split
  ·exact ⟨this.n, this.wait, this.many, this.keep⟩
  ·exact this
theorem strike_len (D : Dev) : D.strike.sec.length = D.sec.length := by
 unfold Dev.strike
 split
 ·exact (fates_keep D D.keep D.wait.length).2.2
 ·rfl
theorem begun_len (D : Dev) : D.begun.sec.length = D.sec.length := by
 have := strike_len D
 unfold Dev.begun
 split
 ·exact this
 ·split
  ·exact this
  ·exact this
theorem read_ok {D : Dev} (h : D.Ok) (a : Int) : (D.read a).2.Ok := by
 unfold Dev.read
 split
 ·split
  ·have := begun_ok h
   exact ⟨this.n, this.wait, this.many, this.keep⟩
  ·exact begun_ok h
 ·exact h
theorem read_secs (D : Dev) (a : Int) : (D.read a).2.sec.length = D.sec.length := by
 unfold Dev.read
 split
 ·split
  ·exact begun_len D
  ·exact begun_len D
 ·rfl
theorem scanN_dev {B : Int} {D : Dev} (h : D.Ok) (k : Nat) : (scanN B D k).2.2.Ok ∧ (scanN B D k).2.2.sec.length = D.sec.length := by
 induction k with
 | zero => exact ⟨h, rfl⟩
 | succ k ih =>
  have h1 := read_ok ih.1 ((k : Int) + 1)
  have h2 := (read_secs (scanN B D k).2.2 ((k : Int) + 1)).trans ih.2
  rw [scanN_succ]
  unfold scanS
  split
  ·split
   ·exact ⟨h1, h2⟩
   ·split
    ·exact ⟨h1, h2⟩
    ·exact ⟨h1, h2⟩
  ·exact ih
theorem read_codes {D : Dev} {a : Int} (h : D.has a) : (D.read a).1.1 = 0 ∨ (D.read a).1.1 = 2 ∨ (D.read a).1.1 = 3 := by
 unfold Dev.read
 rw [if_pos h]
 split
 ·unfold Dev.tells
  split
  ·exact .inl rfl
  ·split
   ·exact .inr (.inr rfl)
   ·exact .inl rfl
 ·exact .inr (.inl rfl)
theorem info_found : (Tryz.prog.info? 123).map (fun i => (i.zero, i.size, i.bytes)) = some (some (.agg #[.int .u32 0, .int .u64 0, .int .u64 0, .int .u64 0, .int .i64 0, .int .i64 0, .int .i64 0, .int .i64 0]), 8, 64) := by kernel_rfl
theorem append_found {w : World} {v : Value} {L : List Fnd} {F : Assn} (h : Sat w (sl 123 8 v L.length (flatF L) * F)) (x : Fnd) (hl : L.length ≤ 1000000) :
  ∃ a c w', (Builtin.append_ #[117, 117] 117 #[v, .slice (some ⟨w.heap.size, 0, none⟩) 1 1]).run Tryz.prog (w.alloc (.cells (fdC x) 123 (0, 0))) = .ok (.slice a (L.length + 1) c) w' ∧
   Sat w' (sl 123 8 (.slice a (L.length + 1) c) (L ++ [x]).length (flatF (L ++ [x])) * F) ∧ Side w w' := by
 obtain ⟨i0, hi, hz, hs0, hb0⟩ := info_parts info_found
 have hA := h.alloc (.cells (fdC x) 123 (0, 0))
 have hR : Rds (w.alloc (.cells (fdC x) 123 (0, 0))) 8 (.slice (some ⟨w.heap.size, 0, none⟩) 1 1) 1 (fdC x).toList :=
  ⟨rfl, .inr ⟨_, _, rfl, fun j u hu => by
   rw [Addr.add_lit, Nat.zero_add]
   exact (hA.cell j).trans (by simpa using hu)⟩⟩
 obtain ⟨v', w', hrun, hsat', hside'⟩ := Sat.append (P := Tryz.prog) (ty := 117) Tryz.underlying117 hi hz hs0 hb0 rfl hA.right hR (by simp [fdC, Value.oneCell']) (by unfold maxLen; omega) (by omega)
 obtain ⟨a, c, rfl⟩ := sl_shape hsat'
 exact ⟨a, c, w', hrun, by rw [flatF_snoc, List.length_append, List.length_singleton]; exact hsat', ((Side.refl w).alloc _).trans hside'⟩
end Go.Proofs.YtdafdidmbeecfaaGreatDoor
namespace Go.Proofs.YtdafdidmbeecfaaGreatDoor
set_option linter.unusedVariables false
set_option linter.unusedSimpArgs false
open Go.RowKit Go.SL
def ScanRQ (S : Hp) (d : Nat) (R : Int × List Fnd × Dev) (F : Assn) (w : World) (e : Ending) (w' : World) : Prop :=
 ∃ v, e = .returned (.tuple #[v, .int .i64 R.1]) ∧ Sat w' (sl 123 8 v R.2.1.length (flatF R.2.1) * (devA S d R.2.2 * (pool S * F))) ∧ Side w w'
def ScanRel (S : Hp) (d : Nat) (B : Int) (D : Dev) (P : Nat) (F : Assn) (w : World) (u8 u15 : Value) (wr : World) : Prop :=
 ∃ k : Nat, k ≤ P ∧ u15 = .int .i64 (k : Int) ∧ (scanN B D k).1 = 0 ∧ Sat wr (sl 123 8 u8 (scanN B D k).2.1.length (flatF (scanN B D k).2.1) * (devA S d (scanN B D k).2.2 * (pool S * F))) ∧ Side w wr
set_option maxRecDepth 100000 in
set_option maxHeartbeats 2000000 in
theorem rread_any (w : World) (S : Hp) (d : Nat) (D : Dev) (P : Nat) (B : Int) (F : Assn) (h : Sat w (devA S d D * (pool S * F))) (hD : D.Ok) (hP : P + 1 ≤ D.sec.length) :
  Calls Tryz.prog 65 #[ptV d, .int .i64 (P : Int), .int .i64 B] w (ScanRQ S d (scanN B D P) F w) := by
 have hPn : (P : Int) ≤ 20000 := by have := hD.n; omega
 have HD := SL.hid hD; have HP := SL.hid hP
 clear hD hP
 go_enter Tryz.func65, Tryz.ntmps65
 go_wp2_with fail
 go_loopw [8, 15] (fun u8 u15 wr => ScanRel S d B D P F w u8 u15 wr) (fun _ u _ => P - (intOf u).toNat)
 case atStart => exact ⟨0, Nat.zero_le _, rfl, by rw [scanN_zero], by rw [scanN_zero]; exact h.slNil _ _, Side.refl w⟩
 case round =>
  clear h
  obtain ⟨k, hk, rfl, hc, hsat, hside⟩ := hrel
  by_cases hlt : k < P
  ·have hlt' : (k : Int) < (P : Int) := by omega
   obtain ⟨hok, hln⟩ := scanN_dev (B := B) HD.out k
   have hdv := (scanN_found B D k).2.1
   have hst := scanN_succ B D k
   unfold scanS at hst
   have hcodes := read_codes (D := (scanN B D k).2.2) (a := (k : Int) + 1) (by unfold Dev.has; rw [hln]; have := HP.out; omega)
   have hrd := read_any wr S d _ ((k : Int) + 1) (sl 123 8 u8 (scanN B D k).2.1.length (flatF (scanN B D k).2.1) * F) (hsat.to (by ac_rfl)) hok
   have hln2 := read_len (scanN B D k).2.2 ((k : Int) + 1)
   have HC := SL.hid hc; have HDV := SL.hid hdv
   clear hok hln hsat hc hdv
   generalize scanN B D k = R at *
   obtain ⟨c, L, D'⟩ := R
   dsimp only at hrd hcodes hln2 hst HC HDV
   generalize D'.read ((k : Int) + 1) = A at hrd hcodes hln2 hst
   obtain ⟨⟨code, l⟩, D2⟩ := A
   dsimp only at hrd hcodes hln2 hst
   have hc0 : c = 0 := HC.out
   subst hc0
   rw [if_pos rfl] at hst
   have Hst0 := SL.hid hst
   clear hst
   rcases hcodes with rfl | rfl | rfl
   ·have hl := hln2 rfl
    have Hl := SL.hid hl
    clear hln2 hl
    go_wp2_with fail
    (with_reducible refine hrd.mono ?_)
    rintro e w1 ⟨dv, rfl, h1, d1⟩
    clear hrd
    have h2 := h1.ansYes
    obtain ⟨g, cc, rfl, hgc, hcell⟩ := bs_at h2 (by rw [Hl.out]; omega) (by rw [Hl.out]; omega)
    have hcm : cc ≤ maxLen := by
     rcases h2.slCases with ⟨h0, _⟩ | ⟨g', cap, cur, h0, _, h4, _⟩
     ·cases h0
     ·cases h0; exact h4
    rw [Hl.out] at hgc hcell h2
    have hdec := decode_any l Hl.out g cc hgc hcm w1 hcell
    rw [Hl.out]
    have Hcell := SL.hid hcell
    clear hgc hcm hcell
    cases hdf : decodeF l with
    | none =>
     rw [hdf] at hdec
     unfold DecodeQ at hdec
     dsimp only [Tg.cells, Tg.zero] at hdec
     have Hst : Hid (scanN B D (k + 1) = ((0 : Int), L, D2)) := SL.hid (by rw [Hst0.out, hdf, fndAdd_none]; simp)
     clear hdf Hst0
     go_wp2_with fail
     (with_reducible refine hdec.mono ?_)
     rintro e w2 ⟨rfl, h3, d3⟩
     have h4 := h3.keepW h2.right
     have h5 := h4.alloc (.cells #[.int .u32 0, .int .u64 0, .int .u64 0, .int .u64 0, .int .i64 0, .int .i64 0, .int .i64 0] 121 (0, 0))
     have D5 := ((hside.trans d1).trans d3).alloc (.cells #[.int .u32 0, .int .u64 0, .int .u64 0, .int .u64 0, .int .i64 0, .int .i64 0, .int .i64 0] 121 (0, 0))
     clear hdec h1 d1 h2 h3 d3 hside
     go_wp2_with fail
     go_roundw
     case rel => exact ⟨k + 1, by omega, by go_num, by rw [Hst.out], by rw [Hst.out]; exact h5.right.to (by ac_rfl), D5⟩
     case measure => simp [intOf]; omega
    | some p =>
     obtain ⟨t, rest⟩ := p
     obtain ⟨tok, tfit⟩ := decode_ok hdf
     rw [hdf] at hdec
     unfold DecodeQ at hdec
     dsimp only [Tg.cells] at hdec
     have Hfit := SL.hid tfit; have Hok := SL.hid tok
     clear tok tfit
     by_cases hid : t.id < B
     ·have Hst : Hid (scanN B D (k + 1) = ((0 : Int), L ++ [(t, k)], D2)) := SL.hid (by rw [Hst0.out, hdf, fndAdd_yes hid]; simp)
      clear hdf Hst0
      go_wp2_with fail
      (with_reducible refine hdec.mono ?_)
      rintro e w2 ⟨rv, rfl, h3, d3⟩
      have h4 := h3.under h2.right
      have h5 := h4.alloc (.cells #[.int .u32 t.ep, .int .u64 t.st, .int .u64 t.sq, .int .u64 t.fl, .int .i64 t.ix, .int .i64 t.ct, .int .i64 t.id] 121 (0, 0))
      have D5 := ((hside.trans d1).trans d3).alloc (.cells #[.int .u32 t.ep, .int .u64 t.st, .int .u64 t.sq, .int .u64 t.fl, .int .i64 t.ix, .int .i64 t.ct, .int .i64 t.id] 121 (0, 0))
      obtain ⟨ra, rc, rfl⟩ : ∃ a c, rv = .slice a rest.length c := sl_shape h3
      clear hdec h1 d1 h2 h3 d3 hside h4
      generalize hw3 : w2.alloc (.cells #[.int .u32 t.ep, .int .u64 t.st, .int .u64 t.sq, .int .u64 t.fl, .int .i64 t.ix, .int .i64 t.ct, .int .i64 t.id] 121 (0, 0)) = w3 at h5 D5
      generalize hb3 : w2.heap.size = b3 at h5
      obtain ⟨xa, xc, w4, hrun, h6, d6⟩ := append_found (h5.to (by ac_rfl : _ = sl 123 8 u8 L.length (flatF L) * (pt b3 (.cells #[.int .u32 t.ep, .int .u64 t.st, .int .u64 t.sq, .int .u64 t.fl, .int .i64 t.ix, .int .i64 t.ct, .int .i64 t.id] 121 (0, 0)) * (bs 5 (.slice ra rest.length rc) rest * (devA S d D2 * (pool S * F)))))) (t, k) (by have := HDV.out; omega)
      have c0 := h5.cell 0; have c1 := h5.cell 1; have c2 := h5.cell 2; have c3 := h5.cell 3; have c4 := h5.cell 4; have c5 := h5.cell 5; have c6 := h5.cell 6
      simp only [List.getElem?_toArray, List.getElem?_cons_zero, List.getElem?_cons_succ] at c0 c1 c2 c3 c4 c5 c6
      unfold fdC at hrun
      dsimp only at hrun
      have Hrun := SL.hid hrun
      have H6 := SL.hid h6; have D6 := SL.hid (D5.trans d6)
      clear hrun h6 d6 h5 D5
      subst hb3
      go_wp2_with (at_builtin; refine wpList_append_run Hrun.out _ _ rfl rfl rfl rfl rfl ?_)
      go_roundw
      case rel => exact ⟨k + 1, by omega, by go_num, by rw [Hst.out], by rw [Hst.out]; exact H6.out.drop2.drop2, D6.out⟩
      case measure => simp [intOf]; omega
     ·have Hst : Hid (scanN B D (k + 1) = ((0 : Int), L, D2)) := SL.hid (by rw [Hst0.out, hdf, fndAdd_no hid]; simp)
      clear hdf Hst0
      go_wp2_with fail
      (with_reducible refine hdec.mono ?_)
      rintro e w2 ⟨rv, rfl, h3, d3⟩
      have h4 := h3.under h2.right
      have h5 := h4.alloc (.cells #[.int .u32 t.ep, .int .u64 t.st, .int .u64 t.sq, .int .u64 t.fl, .int .i64 t.ix, .int .i64 t.ct, .int .i64 t.id] 121 (0, 0))
      have D5 := ((hside.trans d1).trans d3).alloc (.cells #[.int .u32 t.ep, .int .u64 t.st, .int .u64 t.sq, .int .u64 t.fl, .int .i64 t.ix, .int .i64 t.ct, .int .i64 t.id] 121 (0, 0))
      obtain ⟨ra, rc, rfl⟩ : ∃ a c, rv = .slice a rest.length c := sl_shape h3
      clear hdec h1 d1 h2 h3 d3 hside h4
      have c6 := h5.cell 6
      simp only [List.getElem?_toArray, List.getElem?_cons_zero, List.getElem?_cons_succ] at c6
      have H5 := SL.hid h5.right.right
      clear h5
      go_wp2_with fail
      go_roundw
      case rel => exact ⟨k + 1, by omega, by go_num, by rw [Hst.out], by rw [Hst.out]; exact H5.out.to (by ac_rfl), D5⟩
      case measure => simp [intOf]; omega
   ·have Hst : Hid (scanN B D (k + 1) = ((2 : Int), [], D2)) := SL.hid (by rw [Hst0.out]; simp)
    have Hf : Hid (scanN B D P = ((2 : Int), [], D2)) := SL.hid (by
     rw [scanN_stay (k := k + 1) (by rw [Hst.out]; show (2 : Int) ≠ 0; decide) (by omega)]; exact Hst.out)
    clear Hst0 hln2
    go_wp2_with fail
    (with_reducible refine hrd.mono ?_)
    rintro e w1 ⟨dv, rfl, h1, d1⟩
    clear hrd
    obtain ⟨rfl, h2⟩ := h1.ansNo (by show (2 : Int) ≠ 0; decide)
    go_wp2_with fail
    go_ret2
    rw [Hf.out]
    exact ⟨_, rfl, h2.drop3.slNil _ _, hside.trans d1⟩
   ·have Hst : Hid (scanN B D (k + 1) = ((0 : Int), L, D2)) := SL.hid (by rw [Hst0.out]; simp)
    clear Hst0 hln2
    go_wp2_with fail
    (with_reducible refine hrd.mono ?_)
    rintro e w1 ⟨dv, rfl, h1, d1⟩
    clear hrd
    obtain ⟨rfl, h2⟩ := h1.ansNo (by show (3 : Int) ≠ 0; decide)
    go_wp2_with fail
    go_roundw
    case rel => exact ⟨k + 1, by omega, by go_num, by rw [Hst.out], by rw [Hst.out]; exact h2.to (by ac_rfl), hside.trans d1⟩
    case measure => simp [intOf]; omega
  ·obtain rfl : k = P := by omega
   have hs : ∃ a c, u8 = .slice a (scanN B D k).2.1.length c := sl_shape hsat
   obtain ⟨sa, sc, rfl⟩ := hs
   go_wp2_with fail
   go_ret2
   exact ⟨_, by rw [hc]; rfl, hsat, hside⟩
end Go.Proofs.YtdafdidmbeecfaaGreatDoor
namespace Go.SL
set_option linter.unusedVariables false
set_option linter.unusedSimpArgs false
open Go.RowKit
theorem foldl_take {α β : Type} (f : β → α → β) (s : β) (L : List α) {k : Nat} (h : k < L.length) : (L.take (k + 1)).foldl f s = f ((L.take k).foldl f s) L[k] := by
 rw [List.take_succ_eq_append_getElem h, List.foldl_append]; rfl
def wstep (sq : Int) (s : Option (Int × List Int × Int)) (x : Fnd) : Option (Int × List Int × Int) :=
 match s with
 | none => none
 | some (c, seen, h) =>
  if x.1.sq = sq then
   (if x.1.ct = (if c = 0 then x.1.ct else c) then
    some (if c = 0 then x.1.ct else c, if seen.getD x.1.ix.toNat 0 = 0 then seen.set x.1.ix.toNat 1 else seen, if seen.getD x.1.ix.toNat 0 = 0 then h + 1 else h)
   else none)
  else some (c, seen, h)
def wstart : Option (Int × List Int × Int) := some (0, List.replicate 72 0, 0)
def wholeB (L : List Fnd) (sq : Int) : Bool := match L.foldl (wstep sq) wstart with
 | none => false
 | some (c, _, h) => decide (0 < c) && decide (h = c)
theorem wstep_none (sq : Int) (L : List Fnd) : L.foldl (wstep sq) none = none := by
 induction L with
 | nil => rfl
 | cons x L ih => exact ih
theorem wfold_none {sq : Int} {s : Option (Int × List Int × Int)} {L : List Fnd} {k : Nat} (h : (L.take k).foldl (wstep sq) s = none) : L.foldl (wstep sq) s = none := by
 rw [← List.take_append_drop k L, List.foldl_append, h]; exact wstep_none sq _
theorem ok_range {t : Tg} (h : t.ok = true) : 1 ≤ t.ep ∧ 1 ≤ t.st ∧ t.st ≤ t.sq ∧ t.sq ≤ 281474976710655 ∧ t.fl < t.sq ∧ 1 ≤ t.ct ∧ t.ct ≤ 72 ∧ 0 ≤ t.ix ∧ t.ix < t.ct ∧ 0 ≤ t.id ∧ t.id < 3840 := by
 unfold Tg.ok at h
 simp only [Bool.and_eq_true, decide_eq_true_eq] at h
 obtain ⟨⟨⟨⟨⟨⟨⟨⟨⟨⟨h1, h2⟩, h3⟩, h4⟩, h5⟩, h6⟩, h7⟩, h8⟩, h9⟩, h10⟩, h11⟩ := h
 exact ⟨h1, h2, h3, h4, h5, h6, h7, h8, h9, h10, h11⟩
end Go.SL
namespace Go.Proofs.YtdafdidmbeecfaaGreatDoor
set_option linter.unusedVariables false
set_option linter.unusedSimpArgs false
open Go.RowKit Go.SL
theorem fnd_cells {w : World} {v : Value} {L : List Fnd} (h : RdF w v L) {i : Nat} (hi : i < L.length) :
  ∃ g off c, v = .slice (some ⟨g, off, none⟩) L.length c ∧ ∃ (t : Tg) (p : Nat), L[i] = (t, p) ∧ w.cell? ⟨g, off + i * 8, none⟩ = some (.int .u32 t.ep) ∧ w.cell? ⟨g, off + i * 8 + 1, none⟩ = some (.int .u64 t.st) ∧ w.cell? ⟨g, off + i * 8 + 2, none⟩ = some (.int .u64 t.sq) ∧ w.cell? ⟨g, off + i * 8 + 3, none⟩ = some (.int .u64 t.fl) ∧ w.cell? ⟨g, off + i * 8 + 4, none⟩ = some (.int .i64 t.ix) ∧ w.cell? ⟨g, off + i * 8 + 5, none⟩ = some (.int .i64 t.ct) ∧ w.cell? ⟨g, off + i * 8 + 6, none⟩ = some (.int .i64 t.id) ∧ w.cell? ⟨g, off + i * 8 + 7, none⟩ = some (.int .i64 (p : Int)) := by
 obtain ⟨g, off, c, rfl, hc⟩ := h.cells hi
 refine ⟨g, off, c, rfl, L[i].1, L[i].2, rfl, ?_⟩
 exact ⟨hc 0 (by omega), hc 1 (by omega), hc 2 (by omega), hc 3 (by omega), hc 4 (by omega), hc 5 (by omega), hc 6 (by omega), hc 7 (by omega)⟩
theorem zero72 : Tryz.zeroCells165 = ints (List.replicate 72 0) := by kernel_rfl
def WholeQ (B : Bool) (w : World) (e : Ending) (w' : World) : Prop := e = .returned (.bool B) ∧ Sat w' (whole w) ∧ Side w w'
def WholeRel (L : List Fnd) (sq : Int) (b5 : Nat) (w : World) (u6 u7 u12 : Value) (wr : World) : Prop :=
 ∃ (k : Nat) (c : Int) (seen : List Int) (h : Nat), k ≤ L.length ∧ u12 = .int .i64 (k : Int) ∧ u6 = .int .i64 c ∧ u7 = .int .i64 (h : Int) ∧ h ≤ k ∧ 0 ≤ c ∧ seen.length = 72 ∧ (L.take k).foldl (wstep sq) wstart = some (c, seen, (h : Int)) ∧ Sat wr (pt b5 (.cells (ints seen) 165 (0, 0)) * whole w) ∧ Side w wr
set_option maxRecDepth 100000 in
set_option maxHeartbeats 2000000 in
theorem whole_any (w : World) (v : Value) (L : List Fnd) (sq : Int) (h : RdF w v L) (hok : ∀ x ∈ L, x.1.ok = true) (hl : L.length ≤ 1000000) :
  Calls Tryz.prog 67 #[v, .int .u64 sq] w (WholeQ (wholeB L sq) w) := by
 have hln : (L.length : Int) ≤ 1000000 := by omega
 have H0 := SL.hid h
 have Hok := SL.hid hok
 obtain ⟨a, c, rfl⟩ := h.shape
 clear h hok
 go_enter Tryz.func67, Tryz.ntmps67
 go_wp2_with fail
 have hA := (Sat.whole w).alloc (.cells Tryz.zeroCells165 165 (0, 0))
 have hs := (Side.refl w).alloc (.cells Tryz.zeroCells165 165 (0, 0))
 generalize w.alloc (.cells Tryz.zeroCells165 165 (0, 0)) = w1 at hA hs ⊢
 rw [zero72] at hA
 generalize w.heap.size = b5 at hA ⊢
 go_loopw [6, 7, 12] (fun u6 u7 u12 wr => WholeRel L sq b5 w u6 u7 u12 wr) (fun _ _ u _ => L.length - (intOf u).toNat)
 case atStart => exact ⟨0, 0, _, 0, Nat.zero_le _, rfl, rfl, rfl, Nat.le_refl _, Int.le_refl _, List.length_replicate, rfl, hA, hs⟩
 case round =>
  clear hA hs
  obtain ⟨k, n, seen, m, hk, rfl, rfl, rfl, hmk, hn0, hsl, hf, hsat, hside⟩ := hrel
  have hR : RdF wr (.slice a L.length c) L := H0.out.keep hsat
  have hm1 : (m : Int) ≤ 1000000 := by omega
  by_cases hlt : k < L.length
  ·have hlt' : (k : Int) < (L.length : Int) := by omega
   obtain ⟨g, off, c', hv, t, p, ht, c0, c1, c2, c3, c4, c5, c6, c7⟩ := fnd_cells hR hlt
   cases hv
   have hok := Hok.out _ (List.getElem_mem hlt)
   have hst := foldl_take (wstep sq) wstart L hlt
   rw [hf, ht] at hst
   rw [ht] at hok
   obtain ⟨-, -, -, -, -, hct1, hct2, hix0, hix1, -, -⟩ := ok_range hok
   dsimp only at hct1 hct2 hix0 hix1
   clear hR ht hok hf
   by_cases hsq : sq = t.sq
   ·obtain ⟨ix, hix⟩ := Int.eq_ofNat_of_zero_le hix0
    have hixn : ix < 72 := by omega
    have hsx : ix < seen.length := by omega
    rw [hix] at c4
    have hb : (ix : Int) < 72 := by omega
    have cs : wr.cell? ⟨b5, ix, none⟩ = some (.int .i64 (seen.getD ix 0)) := (hsat.cell ix).trans (get_ints_lt hsx)
    have fs : wr.frozen? ⟨b5, ix, none⟩ = false := hsat.frozen ix
    have hset0 := hsat.setCell ix (.int .i64 1)
    rw [set_ints] at hset0
    have hset := (hset0.alloc (.cells #[.int .u32 t.ep, .int .u64 t.st, .int .u64 t.sq, .int .u64 t.fl, .int .i64 (ix : Int), .int .i64 t.ct, .int .i64 t.id, .int .i64 (p : Int)] 123 (0, 0))).right
    clear hset0
    subst hsq
    have hlts : b5 < wr.heap.size := hsat.lt
    have hst2 : (L.take (k + 1)).foldl (wstep t.sq) wstart = if t.ct = (if n = 0 then t.ct else n) then some (if n = 0 then t.ct else n, if seen.getD ix 0 = 0 then seen.set ix 1 else seen, if seen.getD ix 0 = 0 then (m : Int) + 1 else m) else none := by
     rw [hst]; simp only [wstep, if_true, hix, Int.toNat_natCast]
    have Hst := SL.hid hst2
    have Hix := SL.hid hix
    have Hsl := SL.hid hsl
    have Hset := SL.hid hset
    clear hst hst2 hix hsl hset
    generalize seen.getD ix 0 = s0 at cs Hst
    rcases (by omega : n = 0 ∨ (n ≠ 0 ∧ t.ct = n) ∨ (n ≠ 0 ∧ t.ct ≠ n)) with hn | ⟨hn, hc⟩ | ⟨hn, hc⟩
    ·subst hn
     by_cases hs0 : s0 = 0
     ·subst hs0
      go_wp2_with fail
      go_roundw
      case rel => exact ⟨k + 1, t.ct, seen.set ix 1, m + 1, by omega, by go_num, rfl, by go_num, by omega, by omega, by rw [List.length_set]; exact Hsl.out, by rw [Hst.out]; simp, Hset.out, (hside.setCell _ _).alloc _⟩
      case measure => simp [intOf]; omega
     ·have hs1 : (s0 == 0) = false := by simpa using hs0
      go_wp2_with fail
      go_roundw
      case rel => exact ⟨k + 1, t.ct, seen, m, by omega, by go_num, rfl, by go_num, by omega, by omega, Hsl.out, by rw [Hst.out]; simp [hs0], (hsat.alloc _).right, hside.alloc _⟩
      case measure => simp [intOf]; omega
    ·have hn1 : (n == 0) = false := by simpa using hn
     subst hc
     by_cases hs0 : s0 = 0
     ·subst hs0
      go_wp2_with fail
      go_roundw
      case rel => exact ⟨k + 1, t.ct, seen.set ix 1, m + 1, by omega, by go_num, rfl, by go_num, by omega, by omega, by rw [List.length_set]; exact Hsl.out, by rw [Hst.out]; simp [hn], Hset.out, (hside.setCell _ _).alloc _⟩
      case measure => simp [intOf]; omega
     ·have hs1 : (s0 == 0) = false := by simpa using hs0
      go_wp2_with fail
      go_roundw
      case rel => exact ⟨k + 1, t.ct, seen, m, by omega, by go_num, rfl, by go_num, by omega, by omega, Hsl.out, by rw [Hst.out]; simp [hn, hs0], (hsat.alloc _).right, hside.alloc _⟩
      case measure => simp [intOf]; omega
    ·have hn1 : (n == 0) = false := by simpa using hn
     have hc1 : (t.ct == n) = false := by simpa using hc
     have hno : wholeB L t.sq = false := by
      have : L.foldl (wstep t.sq) wstart = none := wfold_none (k := k + 1) (by rw [Hst.out, if_neg (by rw [if_neg hn]; exact hc)])
      unfold wholeB; rw [this]
     have Hno := SL.hid hno
     clear hno
     go_wp2_with fail
     go_ret
     exact ⟨by rw [Hno.out]; rfl, (hsat.alloc _).right.right, hside.alloc _⟩
   ·have hst2 : (L.take (k + 1)).foldl (wstep sq) wstart = some (n, seen, (m : Int)) := by rw [hst]; simp [wstep, Ne.symm hsq]
    have Hst := SL.hid hst2
    have hne : (t.sq == sq) = false := by simpa using Ne.symm hsq
    clear hst hst2
    go_wp2_with fail
    go_roundw
    case rel => exact ⟨k + 1, n, seen, m, by omega, by go_num, rfl, rfl, by omega, hn0, hsl, Hst.out, (hsat.alloc _).right, hside.alloc _⟩
    case measure => simp [intOf]; omega
  ·obtain rfl : k = L.length := by omega
   rw [List.take_length] at hf
   have hB : wholeB L sq = (decide (0 < n) && decide ((m : Int) = n)) := by unfold wholeB; rw [hf]
   have HB := SL.hid hB
   clear hB hf
   by_cases h0 : 0 < n
   ·go_wp2_with fail
    go_ret
    exact ⟨by rw [HB.out]; simp only [h0, decide_true, Bool.true_and]; rfl, hsat.right, hside⟩
   ·have h1 : ¬ n > 0 := h0
    go_wp2_with fail
    go_ret
    exact ⟨by rw [HB.out, decide_eq_false (by omega : ¬ 0 < n)]; rfl, hsat.right, hside⟩
end Go.Proofs.YtdafdidmbeecfaaGreatDoor
namespace Go.SL
set_option linter.unusedVariables false
set_option linter.unusedSimpArgs false
open Go.RowKit
def hstep (sq : Int) (P : Nat) (s : Int × Int) (x : Fnd) : Int × Int :=
 if x.1.sq = sq ∧ s.2 < x.1.ix then (((x.2 : Int) + (x.1.ct - x.1.ix)) % (P : Int), x.1.ix) else s
def headI (L : List Fnd) (sq : Int) (P : Nat) : Int := (L.foldl (hstep sq P) (0, -1)).1
def ustep (hd : Int) (P : Nat) (n p : Int) : Int := if p < 0 then n else max n (if (hd - p) % (P : Int) = 0 then (P : Int) else (hd - p) % (P : Int))
def usedI (l : List Int) (hd : Int) (P : Nat) : Int := l.foldl (ustep hd P) 0
theorem maxlt (a b : Int) : (if a < b then b else a) = max a b := by omega
theorem foldl_take' {α β : Type} (f : β → α → β) (s : β) (L : List α) (d : α) {k : Nat} (h : k < L.length) : (L.take (k + 1)).foldl f s = f ((L.take k).foldl f s) (L.getD k d) := by
 rw [foldl_take f s L h, List.getD, List.getElem?_eq_getElem h]; rfl
end Go.SL
namespace Go.Proofs.YtdafdidmbeecfaaGreatDoor
set_option linter.unusedVariables false
set_option linter.unusedSimpArgs false
open Go.RowKit Go.SL
set_option maxRecDepth 100000 in
theorem far_any (w : World) (r : Nat) (l : List Int) (a b : Int) (F : Assn) (h : Sat w (ringA r l * F)) (h0 : 0 < l.length) (h1 : l.length ≤ 1048576) :
  Calls Tryz.prog 94 #[.pointer (some ⟨r, 0, none⟩), .int .i64 a, .int .i64 b] w (IntIs ((b - a) % (l.length : Int)) w) := by
 have p1 := place_any w r l b F h h0 h1
 have p2 := place_any w r l a F h h0 h1
 have p3 := place_any w r l (b % (l.length : Int) - a % (l.length : Int)) F h h0 h1
 rw [← Int.sub_emod] at p3
 have a1 := Int.emod_nonneg a (by omega : (l.length : Int) ≠ 0)
 have a2 := Int.emod_lt_of_pos a (by omega : (0 : Int) < l.length)
 have b1 := Int.emod_nonneg b (by omega : (l.length : Int) ≠ 0)
 have b2 := Int.emod_lt_of_pos b (by omega : (0 : Int) < l.length)
 have a3 : a % (l.length : Int) ≤ 1048576 := by omega
 have b3 : b % (l.length : Int) ≤ 1048576 := by omega
 generalize (b - a) % (l.length : Int) = s at p3 ⊢
 generalize a % (l.length : Int) = ra at *
 generalize b % (l.length : Int) = rb at *
 clear h a2 b2
 go_enter Tryz.func94, Tryz.ntmps94
 go_wp2_with fail
 refine p1.mono ?_
 rintro e w1 ⟨rfl, rfl⟩
 clear p1
 go_wp2_with fail
 refine p2.mono ?_
 rintro e w1 ⟨rfl, rfl⟩
 clear p2
 go_wp2_with fail
 refine p3.mono ?_
 rintro e w1 ⟨rfl, rfl⟩
 clear p3
 go_wp2
 go_ret
 exact ⟨rfl, rfl⟩
def HeadRel (L : List Fnd) (sq : Int) (P : Nat) (w : World) (u7 u8 u13 : Value) (wr : World) : Prop :=
 ∃ (k : Nat) (s : Int × Int), k ≤ L.length ∧ u13 = .int .i64 (k : Int) ∧ u7 = .int .i64 s.1 ∧ u8 = .int .i64 s.2 ∧ (L.take k).foldl (hstep sq P) (0, -1) = s ∧ Sat wr (whole w) ∧ Side w wr
set_option maxRecDepth 100000 in
set_option maxHeartbeats 2000000 in
theorem head_any (w : World) (v : Value) (L : List Fnd) (sq : Int) (r : Nat) (l : List Int) (F : Assn) (h : RdF w v L) (hr : Sat w (ringA r l * F)) (h0 : 0 < l.length) (h1 : l.length ≤ 1048576) (hok : ∀ x ∈ L, x.1.ok = true ∧ x.2 ≤ 1048576) (hl : L.length ≤ 1000000) :
  Calls Tryz.prog 70 #[v, .int .u64 sq, ptV r] w (Tells (.int .i64 (headI L sq l.length)) w) := by
 have hln : (L.length : Int) ≤ 1000000 := by omega
 have H0 := SL.hid h
 have Hok := SL.hid hok
 have Hr := SL.hid hr
 have H1 := SL.hid h0
 have H2 := SL.hid h1
 obtain ⟨a, c, rfl⟩ := h.shape
 clear h hok hr h0 h1
 go_enter Tryz.func70, Tryz.ntmps70
 go_wp2_with fail
 go_loopw [7, 8, 13] (fun u7 u8 u13 wr => HeadRel L sq l.length w u7 u8 u13 wr) (fun _ _ u _ => L.length - (intOf u).toNat)
 case atStart => exact ⟨0, (0, -1), Nat.zero_le _, rfl, rfl, rfl, rfl, Sat.whole w, Side.refl w⟩
 case round =>
  obtain ⟨k, s, hk, rfl, rfl, rfl, hf, hsat, hside⟩ := hrel
  have hR : RdF wr (.slice a L.length c) L := H0.out.keep (hsat.to (emp_star _).symm)
  by_cases hlt : k < L.length
  ·have hlt' : (k : Int) < (L.length : Int) := by omega
   obtain ⟨g, off, c', hv, t, p, ht, c0, c1, c2, c3, c4, c5, c6, c7⟩ := fnd_cells hR hlt
   cases hv
   obtain ⟨hok, hpl⟩ := Hok.out _ (List.getElem_mem hlt)
   have hst := foldl_take (hstep sq l.length) (0, -1) L hlt
   rw [hf, ht] at hst
   rw [ht] at hok hpl
   obtain ⟨-, -, -, -, -, hct1, hct2, hix0, hix1, -, -⟩ := ok_range hok
   dsimp only at hct1 hct2 hix0 hix1 hpl
   have hA := hsat.alloc (.cells #[.int .u32 t.ep, .int .u64 t.st, .int .u64 t.sq, .int .u64 t.fl, .int .i64 t.ix, .int .i64 t.ct, .int .i64 t.id, .int .i64 (p : Int)] 123 (0, 0))
   have hsA := hside.alloc (.cells #[.int .u32 t.ep, .int .u64 t.st, .int .u64 t.sq, .int .u64 t.fl, .int .i64 t.ix, .int .i64 t.ct, .int .i64 t.id, .int .i64 (p : Int)] 123 (0, 0))
   have HA := SL.hid hA
   have Hst := SL.hid hst
   obtain ⟨at', ix'⟩ := s
   clear hR ht hok hf hst hA
   by_cases hsq : sq = t.sq
   ·subst hsq
    by_cases hlx : ix' < t.ix
    ·have hst2 : (L.take (k + 1)).foldl (hstep t.sq l.length) (0, -1) = (((p : Int) + (t.ct - t.ix)) % (l.length : Int), t.ix) := by rw [Hst.out]; unfold hstep; rw [if_pos ⟨rfl, hlx⟩]
     have Hst2 := SL.hid hst2
     clear hst2 Hst
     go_wp2_with fail
     generalize wr.alloc (.cells #[.int .u32 t.ep, .int .u64 t.st, .int .u64 t.sq, .int .u64 t.fl, .int .i64 t.ix, .int .i64 t.ct, .int .i64 t.id, .int .i64 (p : Int)] 123 (0, 0)) = w5 at HA hsA ⊢
     generalize wr.heap.size = b10 at HA ⊢
     obtain ⟨BIG, hBIG⟩ : ∃ X, X = pt b10 (.cells #[.int .u32 t.ep, .int .u64 t.st, .int .u64 t.sq, .int .u64 t.fl, .int .i64 t.ix, .int .i64 t.ct, .int .i64 t.id, .int .i64 (p : Int)] 123 (0, 0)) * whole w := ⟨_, rfl⟩
     have g4 : ∀ w', Sat w' BIG → w'.cell? ⟨b10, 4, none⟩ = some (.int .i64 t.ix) := fun w' h => (hBIG ▸ h).cell 4
     have g5 : ∀ w', Sat w' BIG → w'.cell? ⟨b10, 5, none⟩ = some (.int .i64 t.ct) := fun w' h => (hBIG ▸ h).cell 5
     have g7 : ∀ w', Sat w' BIG → w'.cell? ⟨b10, 7, none⟩ = some (.int .i64 (p : Int)) := fun w' h => (hBIG ▸ h).cell 7
     have Hgo : Hid (∀ w', Sat w' BIG → Calls Tryz.prog 59 #[.pointer (some ⟨r, 0, none⟩), .int .i64 (p : Int), .int .i64 (t.ct - t.ix)] w' (IntIs (((p : Int) + (t.ct - t.ix)) % (l.length : Int)) w')) := fun w' h' =>
      go_any w' r l _ _ F ((hBIG ▸ h' : Sat w' (_ * whole w)).right.keepW Hr.out) H1.out H2.out
     have HB1 : Sat w5 BIG := hBIG ▸ HA.out
     have HBd : Sat w5.drew BIG := HB1
     have Hsx := SL.hid hsat
     have HBG := SL.hid hBIG
     have hwr : IntKind.i64.wrap (t.ct - t.ix) = t.ct - t.ix := IntWalk.i64_in _ (by omega)
     clear c0 c1 c2 c3 c4 c5 c6 c7 HA hsat hBIG
     generalize ((p : Int) + (t.ct - t.ix)) % (l.length : Int) = res at Hgo Hst2
     go_region_held3 (fun w' => Sat w' BIG) (first | (with_reducible exact HB1) | (with_reducible exact HBd)) (first
      | (go_at_call 59; (with_reducible refine (Hgo.out _ (by assumption)).mono ?_); rintro e w2 ⟨rfl, rfl⟩))
     all_goals
      go_wp2
      go_roundw
      case rel => exact ⟨k + 1, _, by omega, by go_num, rfl, rfl, Hst2.out, (HBG.out ▸ HBd : Sat _ (_ * whole w)).right, hsA.drew⟩
      case measure => simp [intOf]; omega
    ·have hst2 : (L.take (k + 1)).foldl (hstep t.sq l.length) (0, -1) = (at', ix') := by rw [Hst.out]; unfold hstep; rw [if_neg (fun h => hlx h.2)]
     have Hst2 := SL.hid hst2
     clear hst2 Hst
     go_wp2_with fail
     go_roundw
     case rel => exact ⟨k + 1, _, by omega, by go_num, rfl, rfl, Hst2.out, HA.out.right, hsA⟩
     case measure => simp [intOf]; omega
   ·have hst2 : (L.take (k + 1)).foldl (hstep sq l.length) (0, -1) = (at', ix') := by rw [Hst.out]; unfold hstep; rw [if_neg (fun h => hsq h.1.symm)]
    have Hst2 := SL.hid hst2
    have hne : (t.sq == sq) = false := by simpa using Ne.symm hsq
    clear hst2 Hst
    go_wp2_with fail
    go_roundw
    case rel => exact ⟨k + 1, _, by omega, by go_num, rfl, rfl, Hst2.out, HA.out.right, hsA⟩
    case measure => simp [intOf]; omega
  ·obtain rfl : k = L.length := by omega
   rw [List.take_length] at hf
   go_wp2_with fail
   go_ret
   exact ⟨by unfold headI; rw [hf]; rfl, hsat, hside⟩
def UsedRel (l : List Int) (hd : Int) (P : Nat) (u7 u13 : Value) : Prop :=
 ∃ (k : Nat) (n : Int), k ≤ l.length ∧ u13 = .int .i64 (k : Int) ∧ u7 = .int .i64 n ∧ 0 ≤ n ∧ n ≤ (P : Int) ∧ (l.take k).foldl (ustep hd P) 0 = n
set_option maxRecDepth 100000 in
set_option maxHeartbeats 2000000 in
theorem used_any (w : World) (g : Nat) (cc : Nat) (at_ : List Int) (hd : Int) (r : Nat) (l : List Int) (F : Assn) (h : Sat w (pt g (.cells (ints at_) 3 (0, 0)) * (ringA r l * F))) (h0 : 0 < l.length) (h1 : l.length ≤ 1048576) (hl : at_.length ≤ 1000000) :
  Calls Tryz.prog 71 #[.slice (some ⟨g, 0, none⟩) at_.length cc, .int .i64 hd, ptV r] w (IntIs (usedI at_ hd l.length) w) := by
 have hln : (at_.length : Int) ≤ 1000000 := by omega
 have hl2 : (l.length : Int) ≤ 1048576 := by omega
 have hlen := ringLen_any w r l _ h.right
 have hfar := fun a => far_any w r l a hd _ h.right h0 h1
 have hc : ∀ i, i < at_.length → w.cell? ⟨g, i, none⟩ = some (.int .i64 (at_.getD i 0)) := fun i hi => (h.cell i).trans (get_ints_lt hi)
 have Hlen := SL.hid hlen; have Hfar := SL.hid hfar; have Hc := SL.hid hc; have H1 := SL.hid h0
 clear hlen hfar hc h h0 h1
 go_enter Tryz.func71, Tryz.ntmps71
 go_wp2_with fail
 go_loop [7, 13] (fun u7 u13 => UsedRel at_ hd l.length u7 u13) (fun _ u => at_.length - (intOf u).toNat)
 case atStart => exact ⟨0, 0, Nat.zero_le _, rfl, rfl, Int.le_refl _, by omega, rfl⟩
 case round =>
  obtain ⟨k, n, hk, rfl, rfl, hn0, hn1, hf⟩ := hrel
  by_cases hlt : k < at_.length
  ·have hlt' : (k : Int) < (at_.length : Int) := by omega
   have hck := Hc.out k hlt
   have hst := foldl_take' (ustep hd l.length) 0 at_ 0 hlt
   rw [hf] at hst
   have hfp := Hfar.out (at_.getD k 0)
   have hm0 := Int.emod_nonneg (hd - at_.getD k 0) (by have := H1.out; omega : (l.length : Int) ≠ 0)
   have hm1 := Int.emod_lt_of_pos (hd - at_.getD k 0) (by have := H1.out; omega : (0 : Int) < l.length)
   clear hf
   have Hst := SL.hid hst
   clear hst
   generalize at_.getD k 0 = p at *
   by_cases hp : p < 0
   ·have hs2 : (at_.take (k + 1)).foldl (ustep hd l.length) 0 = n := by rw [Hst.out]; unfold ustep; rw [if_pos hp]
    have Hs2 := SL.hid hs2
    clear hs2 hfp Hst
    go_wp2_with fail
    go_round
    case rel => exact ⟨k + 1, n, by omega, by go_num, rfl, hn0, hn1, Hs2.out⟩
    case measure => simp [intOf]; omega
   ·have hs2 : (at_.take (k + 1)).foldl (ustep hd l.length) 0 = max n (if (hd - p) % (l.length : Int) = 0 then (l.length : Int) else (hd - p) % (l.length : Int)) := by rw [Hst.out]; unfold ustep; rw [if_neg hp]
    have Hs2 := SL.hid hs2
    clear hs2 Hst
    generalize (hd - p) % (l.length : Int) = m at *
    by_cases hm : m = 0
    ·subst hm
     go_wp2_with fail
     (with_reducible refine hfp.mono ?_)
     rintro e w1 ⟨rfl, rfl⟩
     clear hfp
     go_wp2_with fail
     (with_reducible refine Hlen.out.mono ?_)
     rintro e w1 ⟨rfl, rfl⟩
     go_wp2_with fail
     go_round
     case rel => exact ⟨k + 1, max n l.length, by omega, by go_num, by rw [maxlt], by omega, by omega, by rw [Hs2.out]; simp⟩
     case measure => simp [intOf]; omega
    ·have hm2 : (m == 0) = false := by simpa using hm
     go_wp2_with fail
     (with_reducible refine hfp.mono ?_)
     rintro e w1 ⟨rfl, rfl⟩
     clear hfp
     go_wp2_with fail
     go_round
     case rel => exact ⟨k + 1, max n m, by omega, by go_num, by rw [maxlt], by omega, by omega, by rw [Hs2.out, if_neg hm]⟩
     case measure => simp [intOf]; omega
  ·obtain rfl : k = at_.length := by omega
   rw [List.take_length] at hf
   go_wp2_with fail
   go_ret
   exact ⟨by unfold usedI; rw [hf]; rfl, rfl⟩
end Go.Proofs.YtdafdidmbeecfaaGreatDoor
namespace Go.SL
set_option linter.unusedVariables false
set_option linter.unusedSimpArgs false
open Go.RowKit
def u64s (l : List Int) : Array Value := (l.map (Value.int .u64)).toArray
theorem size_u64s (l : List Int) : (u64s l).size = l.length := by simp [u64s]
theorem get_u64s (l : List Int) (i : Nat) : (u64s l)[i]? = l[i]?.map (Value.int .u64) := by simp [u64s]
theorem set_u64s (l : List Int) (i : Nat) (x : Int) : (u64s l).setIfInBounds i (.int .u64 x) = u64s (l.set i x) := by simp [u64s, List.map_set]
theorem get_u64s_lt {l : List Int} {i : Nat} (h : i < l.length) : (u64s l)[i]? = some (.int .u64 (l.getD i 0)) := by
 rw [get_u64s, List.getD, List.getElem?_eq_getElem h]; rfl
theorem made_u64s (n : Nat) : madeCells (Value.int .u64 0).cells (n * 1) = u64s (List.replicate n 0) := by
 apply Array.ext
 ·simp [size_madeCells, size_u64s]
 ·intro i h1 h2
  simp [madeCells, u64s, Value.cells, Nat.mod_one]
def vstep (sq : Int) (s : List Int × List Int) (x : Fnd) : List Int × List Int :=
 if x.1.sq ≤ sq ∧ s.2.getD x.1.id.toNat 0 < x.1.sq then (s.1.set x.1.id.toNat (x.2 : Int), s.2.set x.1.id.toNat x.1.sq) else s
def vstart (B : Nat) : List Int × List Int := (List.replicate B (-1), List.replicate B 0)
def whereL (L : List Fnd) (sq : Int) (B : Nat) : List Int := (L.foldl (vstep sq) (vstart B)).1
theorem vstep_len (sq : Int) (L : List Fnd) (s : List Int × List Int) : (L.foldl (vstep sq) s).1.length = s.1.length ∧ (L.foldl (vstep sq) s).2.length = s.2.length := by
 induction L generalizing s with
 | nil => exact ⟨rfl, rfl⟩
 | cons x L ih =>
  have h := ih (vstep sq s x)
  have : (vstep sq s x).1.length = s.1.length ∧ (vstep sq s x).2.length = s.2.length := by
   unfold vstep; split
   ·simp
   ·exact ⟨rfl, rfl⟩
  exact ⟨h.1.trans this.1, h.2.trans this.2⟩
theorem whereL_len (L : List Fnd) (sq : Int) (B : Nat) : (whereL L sq B).length = B := by
 unfold whereL; rw [(vstep_len sq L _).1]; simp [vstart]
end Go.SL
namespace Go.Proofs.YtdafdidmbeecfaaGreatDoor
set_option linter.unusedVariables false
set_option linter.unusedSimpArgs false
open Go.RowKit Go.SL
theorem info_u64 : (Tryz.prog.info? 37).map (fun i => (i.zero, i.size, i.bytes)) = some (some (.int .u64 0), 1, 8) := by kernel_rfl
theorem make_u64s (n : Nat) (hn : n ≤ 1048576) (w : World) : (Instr.makeSlice 166 (.int .i64 n) (.int .i64 n)).run Tryz.prog w =
  .ok (.slice (some ⟨w.heap.size, 0, none⟩) n n) (w.alloc (.cells (u64s (List.replicate n 0)) 37 (0, 0))) := by
 obtain ⟨i, hi, hz, hs, hb⟩ := info_parts info_u64
 have := run_make (P := Tryz.prog) w 166 37 i _ Tryz.underlying166 hi hz .i64 .i64 n n (by omega) (by omega) (by rw [hb]; omega) (by omega)
 rw [this, hs]
 simp only [Int.toNat_natCast]
 rw [made_u64s]
def WhereQ (l : List Int) (w : World) (e : Ending) (w' : World) : Prop := ∃ g, e = .returned (.slice (some ⟨g, 0, none⟩) l.length l.length) ∧ Sat w' (pt g (.cells (ints l) 3 (0, 0)) * whole w) ∧ Side w w'
def WhereRel1 (g B : Nat) (w : World) (u : Value) (wr : World) : Prop :=
 ∃ k : Nat, k ≤ B ∧ u = .int .i64 (k : Int) ∧ Sat wr (pt g (.cells (ints (List.replicate k (-1) ++ List.replicate (B - k) 0)) 3 (0, 0)) * whole w) ∧ Side w wr
def WhereRel2 (ga gl : Nat) (L : List Fnd) (sq : Int) (B : Nat) (w : World) (u : Value) (wr : World) : Prop :=
 ∃ k : Nat, k ≤ L.length ∧ u = .int .i64 (k : Int) ∧ Sat wr (pt ga (.cells (ints ((L.take k).foldl (vstep sq) (vstart B)).1) 3 (0, 0)) * (pt gl (.cells (u64s ((L.take k).foldl (vstep sq) (vstart B)).2) 37 (0, 0)) * whole w)) ∧ Side w wr
set_option maxRecDepth 100000 in
set_option maxHeartbeats 2000000 in
theorem where_any (w : World) (v : Value) (L : List Fnd) (sq : Int) (B : Nat) (h : RdF w v L) (hB : B ≤ 3840) (hok : ∀ x ∈ L, x.1.ok = true ∧ x.1.id < (B : Int)) (hl : L.length ≤ 1000000) :
  Calls Tryz.prog 69 #[v, .int .u64 sq, .int .i64 (B : Int)] w (WhereQ (whereL L sq B) w) := by
 have hln : (L.length : Int) ≤ 1000000 := by omega
 have hBn : (B : Int) ≤ 3840 := by omega
 have H0 := SL.hid h
 have Hok := SL.hid hok
 obtain ⟨a, c, rfl⟩ := h.shape
 clear h hok
 have hmk := make_ints B (by omega) w
 have h1 := (Sat.whole w).alloc (.cells (ints (List.replicate B 0)) 3 (0, 0))
 have d1 := (Side.refl w).alloc (.cells (ints (List.replicate B 0)) 3 (0, 0))
 go_enter Tryz.func69, Tryz.ntmps69
 go_wp2_with fail
 generalize w.alloc (.cells (ints (List.replicate B 0)) 3 (0, 0)) = w1 at h1 d1 ⊢
 generalize w.heap.size = ga at h1 ⊢
 clear hmk
 go_loopw [16] (fun u wr => WhereRel1 ga B w u wr) (fun u _ => B - (intOf u).toNat)
 case atStart => exact ⟨0, Nat.zero_le _, rfl, h1, d1⟩
 case round =>
  clear h1 d1
  obtain ⟨k, hk, rfl, hsat, hside⟩ := hrel
  by_cases hlt : k < B
  ·have hlt' : (k : Int) < (B : Int) := by omega
   have hf := hsat.frozen k
   have hv : wr.cell? ⟨ga, k, none⟩ = some (.int .i64 ((List.replicate k (-1) ++ List.replicate (B - k) (0 : Int)).getD k 0)) := (hsat.cell k).trans (get_ints_lt (by simp; omega))
   generalize (List.replicate k (-1) ++ List.replicate (B - k) (0 : Int)).getD k 0 = q at hv
   have h4 := hsat.setCell k (.int .i64 (-1))
   rw [set_ints, fill_next B k (-1) hlt] at h4
   have H4 := SL.hid h4
   clear hsat h4
   go_wp2
   go_roundw
   case rel => exact ⟨k + 1, by omega, by go_num, H4.out, hside.setCell _ _⟩
   case measure => simp [intOf]; omega
  ·obtain rfl : k = B := by omega
   have hfull : List.replicate k (-1 : Int) ++ List.replicate (k - k) 0 = (vstart k).1 := by simp [vstart]
   rw [hfull] at hsat
   have hmk := make_u64s k (by omega) wr
   have h2 := (hsat.alloc (.cells (u64s (List.replicate k 0)) 37 (0, 0))).front2
   have d2 := hside.alloc (.cells (u64s (List.replicate k 0)) 37 (0, 0))
   clear hsat hside hfull
   go_wp2_with fail
   generalize wr.alloc (.cells (u64s (List.replicate k 0)) 37 (0, 0)) = w2 at h2 d2 ⊢
   generalize wr.heap.size = gl at h2 ⊢
   clear hmk
   go_loopw [27] (fun u wr => WhereRel2 ga gl L sq k w u wr) (fun u _ => L.length - (intOf u).toNat)
   case atStart => exact ⟨0, Nat.zero_le _, rfl, h2, d2⟩
   case round =>
    clear h2 d2
    generalize k = B at *
    obtain ⟨k, hk, rfl, hsat, hside⟩ := hrel
    have hR : RdF wr (.slice a L.length c) L := H0.out.keep (hsat.to (by ac_rfl : _ = (pt ga _ * pt gl _) * whole w))
    by_cases hlt : k < L.length
    ·have hlt' : (k : Int) < (L.length : Int) := by omega
     obtain ⟨g, off, c', hv, t, p, ht, c0, c1, c2, c3, c4, c5, c6, c7⟩ := fnd_cells hR hlt
     cases hv
     have hst := foldl_take (vstep sq) (vstart B) L hlt
     obtain ⟨hok, hid⟩ := Hok.out _ (List.getElem_mem hlt)
     rw [ht] at hst hok hid
     have hlen := vstep_len sq (L.take k) (vstart B)
     obtain ⟨-, -, -, -, -, -, -, -, -, hid0, -⟩ := ok_range hok
     dsimp only at hid hid0
     generalize (L.take k).foldl (vstep sq) (vstart B) = s at hsat hst hlen
     obtain ⟨at_, last⟩ := s
     simp only [vstart, List.length_replicate] at hlen
     obtain ⟨hla, hll⟩ := hlen
     dsimp only at hsat
     obtain ⟨id, hidn⟩ := Int.eq_ofNat_of_zero_le hid0
     rw [hidn] at c6 hid
     have hidb : id < B := by omega
     have ca : wr.cell? ⟨ga, id, none⟩ = some (.int .i64 (at_.getD id 0)) := (hsat.cell id).trans (get_ints_lt (by omega))
     have cl : wr.cell? ⟨gl, id, none⟩ = some (.int .u64 (last.getD id 0)) := (hsat.front2.cell id).trans (get_u64s_lt (by omega))
     have hst2 : (L.take (k + 1)).foldl (vstep sq) (vstart B) = if t.sq ≤ sq ∧ last.getD id 0 < t.sq then (at_.set id (p : Int), last.set id t.sq) else (at_, last) := by
      rw [hst]; simp only [vstep, hidn, Int.toNat_natCast]
     have Hst := SL.hid hst2
     clear hR ht hok hst hst2 hidn
     generalize last.getD id 0 = ls at cl Hst
     have hA := hsat.alloc (.cells #[.int .u32 t.ep, .int .u64 t.st, .int .u64 t.sq, .int .u64 t.fl, .int .i64 t.ix, .int .i64 t.ct, .int .i64 (id : Int), .int .i64 (p : Int)] 123 (0, 0))
     have hsA := hside.alloc (.cells #[.int .u32 t.ep, .int .u64 t.st, .int .u64 t.sq, .int .u64 t.fl, .int .i64 t.ix, .int .i64 t.ct, .int .i64 (id : Int), .int .i64 (p : Int)] 123 (0, 0))
     have cl2 := cell_alloc wr (.cells #[.int .u32 t.ep, .int .u64 t.st, .int .u64 t.sq, .int .u64 t.fl, .int .i64 t.ix, .int .i64 t.ct, .int .i64 (id : Int), .int .i64 (p : Int)] 123 (0, 0)) _ _ cl
     have hltw : wr.heap.size < (wr.alloc (.cells #[.int .u32 t.ep, .int .u64 t.st, .int .u64 t.sq, .int .u64 t.fl, .int .i64 t.ix, .int .i64 t.ct, .int .i64 (id : Int), .int .i64 (p : Int)] 123 (0, 0))).heap.size := by simp
     obtain ⟨w5, hw5⟩ : ∃ w5, wr.alloc (.cells #[.int .u32 t.ep, .int .u64 t.st, .int .u64 t.sq, .int .u64 t.fl, .int .i64 t.ix, .int .i64 t.ct, .int .i64 (id : Int), .int .i64 (p : Int)] 123 (0, 0)) = w5 := ⟨_, rfl⟩
     have Hw5 := SL.hid hw5
     rw [hw5] at hA hsA cl2 hltw
     have e2 : w5.cell? ⟨wr.heap.size, 2, none⟩ = some (.int .u64 t.sq) := hA.cell 2
     have e6 : w5.cell? ⟨wr.heap.size, 6, none⟩ = some (.int .i64 (id : Int)) := hA.cell 6
     clear hw5
     by_cases h1 : t.sq ≤ sq
     ·by_cases h2 : ls < t.sq
      ·have hst3 : (L.take (k + 1)).foldl (vstep sq) (vstart B) = (at_.set id (p : Int), last.set id t.sq) := by rw [Hst.out, if_pos ⟨h1, h2⟩]
       have Hst3 := SL.hid hst3
       clear Hst hst3
       go_wp2_with fail
       rw [Hw5.out]
       clear c0 c1 c2 c3 c4 c5 c6 c7 hsat ca cl
       generalize wr.heap.size = b11 at *
       go_quiet (fail)
       go_wp2_with fail
       have hD : Sat (w5.drewN nq) (pt b11 (.cells #[.int .u32 t.ep, .int .u64 t.st, .int .u64 t.sq, .int .u64 t.fl, .int .i64 t.ix, .int .i64 t.ct, .int .i64 (id : Int), .int .i64 (p : Int)] 123 (0, 0)) * (pt ga (.cells (ints at_) 3 (0, 0)) * (pt gl (.cells (u64s last) 37 (0, 0)) * whole w))) := hA.drew
       have hsD := hsA.drewN nq
       clear hA hsA cl2 e2 e6 hltw
       generalize w5.drewN nq = w6 at hD hsD ⊢
       obtain ⟨BIG, hBIG⟩ : ∃ X, X = pt b11 (.cells #[.int .u32 t.ep, .int .u64 t.st, .int .u64 t.sq, .int .u64 t.fl, .int .i64 t.ix, .int .i64 t.ct, .int .i64 (id : Int), .int .i64 (p : Int)] 123 (0, 0)) := ⟨_, rfl⟩
       have g2 : ∀ w', Sat w' BIG → w'.cell? ⟨b11, 2, none⟩ = some (.int .u64 t.sq) := fun w' h => ((hBIG ▸ h : Sat w' (pt b11 (.cells #[.int .u32 t.ep, .int .u64 t.st, .int .u64 t.sq, .int .u64 t.fl, .int .i64 t.ix, .int .i64 t.ct, .int .i64 (id : Int), .int .i64 (p : Int)] 123 (0, 0)))).addEmp).cell 2
       have g6 : ∀ w', Sat w' BIG → w'.cell? ⟨b11, 6, none⟩ = some (.int .i64 (id : Int)) := fun w' h => ((hBIG ▸ h : Sat w' (pt b11 (.cells #[.int .u32 t.ep, .int .u64 t.st, .int .u64 t.sq, .int .u64 t.fl, .int .i64 t.ix, .int .i64 t.ct, .int .i64 (id : Int), .int .i64 (p : Int)] 123 (0, 0)))).addEmp).cell 6
       have g7 : ∀ w', Sat w' BIG → w'.cell? ⟨b11, 7, none⟩ = some (.int .i64 (p : Int)) := fun w' h => ((hBIG ▸ h : Sat w' (pt b11 (.cells #[.int .u32 t.ep, .int .u64 t.st, .int .u64 t.sq, .int .u64 t.fl, .int .i64 t.ix, .int .i64 t.ct, .int .i64 (id : Int), .int .i64 (p : Int)] 123 (0, 0)))).addEmp).cell 7
       have ca6 : w6.cell? ⟨ga, id, none⟩ = some (.int .i64 (at_.getD id 0)) := (hD.front2.cell id).trans (get_ints_lt (by omega))
       have fa6 : w6.frozen? ⟨ga, id, none⟩ = false := hD.front2.frozen id
       have h7 := hD.front2.setCell id (.int .i64 (p : Int))
       rw [set_ints] at h7
       have cl7 : (w6.setCell ⟨ga, id, none⟩ (.int .i64 (p : Int))).cell? ⟨gl, id, none⟩ = some (.int .u64 (last.getD id 0)) := (h7.front3.cell id).trans (get_u64s_lt (by omega))
       have fl7 : (w6.setCell ⟨ga, id, none⟩ (.int .i64 (p : Int))).frozen? ⟨gl, id, none⟩ = false := h7.front3.frozen id
       have h8 := h7.front3.setCell id (.int .u64 t.sq)
       rw [set_u64s] at h8
       have K6 : Sat w6 BIG := hBIG ▸ hD.left
       have K7 : Sat (w6.setCell ⟨ga, id, none⟩ (.int .i64 (p : Int))) BIG := hBIG ▸ h7.front2.left
       have K8 : Sat ((w6.setCell ⟨ga, id, none⟩ (.int .i64 (p : Int))).setCell ⟨gl, id, none⟩ (.int .u64 t.sq)) BIG := hBIG ▸ h8.front3.left
       have K6d := K6.drew; have K7d := K7.drew; have K8d := K8.drew
       have H8 := SL.hid (h8.front3.right.front2)
       clear hD h7 h8 hBIG
       go_region_held3 (fun w' => Sat w' BIG) (first | (with_reducible exact K6) | (with_reducible exact K7) | (with_reducible exact K8) | (with_reducible exact K6d) | (with_reducible exact K7d) | (with_reducible exact K8d)) (fail)
       all_goals
        go_wp2
        go_roundw
        case rel => exact ⟨k + 1, by omega, by go_num, by rw [Hst3.out]; exact H8.out.drew, ((hsD.setCell _ _).setCell _ _).drew⟩
        case measure => simp [intOf]; omega
      ·have hd2 : decide (ls < t.sq) = false := by simpa using h2
       have hst3 : (L.take (k + 1)).foldl (vstep sq) (vstart B) = (at_, last) := by rw [Hst.out, if_neg (fun h => h2 h.2)]
       have Hst3 := SL.hid hst3
       have HA := SL.hid hA
       clear Hst hst3 hA
       go_wp2_with fail
       rw [Hw5.out]
       clear c0 c1 c2 c3 c4 c5 c6 c7 hsat ca cl
       go_quiet (fail)
       go_wp2
       go_roundw
       case rel => exact ⟨k + 1, by omega, by go_num, by rw [Hst3.out]; exact HA.out.right.drew, hsA.drewN nq⟩
       case measure => simp [intOf]; omega
     ·have hd1 : decide (t.sq ≤ sq) = false := by simpa using h1
      have hst3 : (L.take (k + 1)).foldl (vstep sq) (vstart B) = (at_, last) := by rw [Hst.out, if_neg (fun h => h1 h.1)]
      have Hst3 := SL.hid hst3
      have HA := SL.hid hA
      clear Hst hst3 hA
      go_wp2_with fail
      rw [Hw5.out]
      clear c0 c1 c2 c3 c4 c5 c6 c7 hsat ca cl
      go_quiet (fail)
      go_wp2
      go_roundw
      case rel => exact ⟨k + 1, by omega, by go_num, by rw [Hst3.out]; exact HA.out.right.drew, hsA.drewN nq⟩
      case measure => simp [intOf]; omega
    ·obtain rfl : k = L.length := by omega
     rw [List.take_length] at hsat
     have hlen : (L.foldl (vstep sq) (vstart B)).1.length = B := whereL_len L sq B
     go_wp2_with fail
     go_ret
     exact ⟨ga, by rw [show (whereL L sq B).length = B from hlen]; rfl, hsat.drop2, hside⟩
end Go.Proofs.YtdafdidmbeecfaaGreatDoor
end

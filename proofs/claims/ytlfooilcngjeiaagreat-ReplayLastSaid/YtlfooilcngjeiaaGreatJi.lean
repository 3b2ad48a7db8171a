/- journal, plain: a device stays right; what a batch writes. journal: write. -/
import Derived.Test.YtlfooilcngjeiaaGreatJg
namespace Go.SL
set_option linter.unusedVariables false
set_option linter.unusedSimpArgs false
open Go.RowKit
/-- As right as before, as many sectors, at most n more that wait. -/
structure Dev.Keeps (D D' : Dev) (n : Nat) : Prop where
  sec : D'.sec.length = D.sec.length
  wait : ∀ x ∈ D'.wait, D.has x.1
  many : D'.wait.length ≤ D.wait.length + n
  keep : D'.keep.length ≤ 1000000
theorem Dev.Ok.keeps {D : Dev} (h : D.Ok) : D.Keeps D 0 := ⟨rfl, h.wait, by omega, h.keep⟩
theorem Dev.Keeps.ok {D D' : Dev} {n : Nat} (k : D.Keeps D' n) (h : D.Ok) (hn : D.wait.length + n ≤ 1000000) : D'.Ok :=
  ⟨by rw [k.sec]; exact h.n, fun x hx => by unfold Dev.has; rw [k.sec]; exact k.wait x hx, by have := k.many; omega, k.keep⟩
theorem Dev.Keeps.trans {D D1 D2 : Dev} {n m : Nat} (h : D.Keeps D1 n) (g : D1.Keeps D2 m) : D.Keeps D2 (n + m) :=
  ⟨g.sec.trans h.sec, fun x hx => by have := g.wait x hx; unfold Dev.has at this ⊢; rw [← h.sec]; exact this, by have := h.many; have := g.many; omega, g.keep⟩
theorem Dev.done_sec (D : Dev) (x : Int × List UInt8) : (D.done x).sec.length = D.sec.length ∧ (D.done x).wait = D.wait ∧ (D.done x).keep = D.keep := by simp [Dev.done]
theorem Dev.fate_sec (D : Dev) (f : Int) (x : Int × List UInt8) : (D.fate f x).sec.length = D.sec.length := by
  unfold Dev.fate
  split
  · exact (D.done_sec x).1
  · split <;> rfl
theorem Dev.fates_sec (D : Dev) (keep : List Int) (k : Nat) : (D.fates keep k).sec.length = D.sec.length := by
  induction k with
  | zero => rfl
  | succ k ih =>
    rw [Dev.fates]
    split
    · rw [Dev.fate_sec]; exact ih
    · exact ih
theorem Dev.strike_keeps {D : Dev} (h : D.Ok) : D.Keeps D.strike 0 := by
  unfold Dev.strike
  split
  · exact ⟨by simp only [Dev.crash]; exact Dev.fates_sec _ _ _, by simp [Dev.crash], by simp [Dev.crash], by simp [Dev.crash]⟩
  · exact h.keeps
theorem Dev.begun_keeps {D : Dev} (h : D.Ok) : D.Keeps D.begun 0 := by
  have hs := Dev.strike_keeps h
  unfold Dev.begun
  split
  · exact hs
  · split
    · exact ⟨hs.sec, hs.wait, hs.many, hs.keep⟩
    · exact hs
theorem Dev.write_keeps {D : Dev} (h : D.Ok) (a : Int) (l : List UInt8) : D.Keeps (D.write a l).2 1 := by
  have hb := Dev.begun_keeps h
  unfold Dev.write
  split
  · rename_i hc
    split
    · refine ⟨hb.sec, fun x hx => ?_, by simp only [List.length_append, List.length_cons, List.length_nil]; have := hb.many; omega, hb.keep⟩
      rcases List.mem_append.1 hx with hx | hx
      · exact hb.wait x hx
      · rw [List.mem_singleton.1 hx]; exact hc.1
    · exact ⟨hb.sec, hb.wait, Nat.le_trans hb.many (Nat.le_succ _), hb.keep⟩
  · exact ⟨rfl, h.wait, Nat.le_succ _, h.keep⟩
theorem Dev.read_keeps {D : Dev} (h : D.Ok) (a : Int) : D.Keeps (D.read a).2 0 := by
  have hb := Dev.begun_keeps h
  unfold Dev.read
  split
  · split
    · exact ⟨hb.sec, hb.wait, hb.many, hb.keep⟩
    · exact hb
  · exact h.keeps
theorem Dev.doneAll_sec (D : Dev) (l : List (Int × List UInt8)) : (D.doneAll l).sec.length = D.sec.length ∧ (D.doneAll l).keep = D.keep := by
  unfold Dev.doneAll
  induction l generalizing D with
  | nil => exact ⟨rfl, rfl⟩
  | cons x l ih => rw [List.foldl_cons, (ih _).1, (ih _).2]; exact ⟨(D.done_sec x).1, (D.done_sec x).2.2⟩
theorem Dev.flush_keeps {D : Dev} (h : D.Ok) : D.Keeps D.flush.2 0 := by
  have hb := Dev.begun_keeps h
  unfold Dev.flush
  split
  · unfold Dev.flushed
    have hd := Dev.doneAll_sec ({ D.begun with cf := i64w (D.begun.cf + 1) } : Dev) D.begun.wait
    exact ⟨hd.1.trans hb.sec, by simp, by simp, by simp only [hd.2]; exact hb.keep⟩
  · exact hb
/-- The tag of the i-th of n that a batch writes. -/
def Jr.tag (J : Jr) (i n : Nat) (id : Int) : Tg := ⟨J.ep, J.st, J.sq + 1, J.sq, i, n, id⟩
/-- What the first k writes do: 0, or 2, and the device then. -/
def Jr.writeN (J : Jr) (D : Dev) (Z : List Wr) : Nat → Int × Dev
  | 0 => (0, D)
  | k + 1 => if (Jr.writeN J D Z k).1 = 0 then
      (let R := (Jr.writeN J D Z k).2.write ((J.hd + (k : Int)) % (J.P : Int) + 1) (enc (J.tag k Z.length (Z.getD k Wr.nil).1) ++ (Z.getD k Wr.nil).2.2)
       (if R.1 = 0 then 0 else 2, R.2))
    else Jr.writeN J D Z k
theorem Jr.writeN_keeps (J : Jr) {D : Dev} (h : D.Ok) (Z : List Wr) (k : Nat) (hk : D.wait.length + k ≤ 1000000) : D.Keeps (J.writeN D Z k).2 k := by
  induction k with
  | zero => exact h.keeps
  | succ k ih =>
    have ih := ih (by omega)
    rw [Jr.writeN]
    split
    · exact ih.trans (Dev.write_keeps (ih.ok h (by omega)) _ _)
    · exact ⟨ih.sec, ih.wait, by have := ih.many; omega, ih.keep⟩
/-- An error stays. -/
theorem Jr.writeN_stop (J : Jr) (D : Dev) (Z : List Wr) (k n : Nat) (hn : k ≤ n) (h : (J.writeN D Z k).1 ≠ 0) : J.writeN D Z n = J.writeN D Z k := by
  obtain ⟨m, rfl⟩ := Nat.le.dest hn
  clear hn
  induction m with
  | zero => rfl
  | succ m ih =>
    rw [show k + (m + 1) = (k + m) + 1 by omega, Jr.writeN, if_neg (by rw [ih]; exact h), ih]
structure Jr.Numbers (J : Jr) : Prop where
  ep0 : 1 ≤ J.ep
  ep1 : J.ep < 4294967296
  st0 : 1 ≤ J.st
  st1 : J.st ≤ J.sq + 1
  sq0 : 0 ≤ J.sq
  sq1 : J.sq < 281474976710655
theorem Jr.tag_ok {J : Jr} (h : J.Numbers) {i n : Nat} {id : Int} (hi : i < n) (hn : n ≤ 72) (h0 : 0 ≤ id) (h1 : id < 3840) : (J.tag i n id).ok = true := by
  obtain ⟨a, b, c, d, e, f⟩ := h
  unfold Tg.ok
  simp only [Bool.and_eq_true, decide_eq_true_eq, and_assoc]
  exact ⟨a, c, d, (show J.sq + 1 ≤ 281474976710655 by omega), (show J.sq < J.sq + 1 by omega), (show (1 : Int) ≤ (n : Int) by omega), (show (n : Int) ≤ 72 by omega), (show (0 : Int) ≤ (i : Int) by omega), (show (i : Int) < (n : Int) by omega), h0, h1⟩
theorem Jr.tag_fit {J : Jr} (h : J.Numbers) (i n : Nat) (id : Int) : (J.tag i n id).Fit := by
  obtain ⟨a, b, c, d, e, f⟩ := h
  exact ⟨(show 0 ≤ J.ep by omega), b, (show 0 ≤ J.st by omega), (show J.st < 18446744073709551616 by omega), (show 0 ≤ J.sq + 1 by omega), (show J.sq + 1 < 18446744073709551616 by omega), e, (show J.sq < 18446744073709551616 by omega)⟩
end Go.SL
namespace Go.Proofs.YtlfooilcngjeiaaGreat
set_option linter.unusedVariables false
set_option linter.unusedSimpArgs false
open Go.RowKit Go.SL
/-- What a writer owes of the writes that it hands in: they read so, whatever the pool and the device become. -/
def Reads (S : Hp) (v : Value) (Z : List Wr) (F : Assn) : Prop :=
  ∀ S' X w', Ext S S' → Sat w' (X * (pool S' * F)) → RdW w' v Z ∧ ∀ z ∈ Z, Rd w' z.2.1 z.2.2
def JWriteQ (S : Hp) (j d : Nat) (J : Jr) (R : Int × Dev) (F : Assn) (w : World) (e : Ending) (w' : World) : Prop :=
  ∃ S', Ext S S' ∧ e = .returned (.int .i64 R.1) ∧ Sat w' (jrA j d (if R.1 = 0 then J else { J with br := true }) * (devA S' d R.2 * (pool S' * F))) ∧ Side w w'
def JWriteRel (S : Hp) (j d r t : Nat) (J : Jr) (D : Dev) (Z : List Wr) (n : Nat) (F : Assn) (w : World) (u : Value) (wr : World) : Prop :=
  ∃ (k : Nat) (S' : Hp), k ≤ n ∧ u = .int .i64 (k : Int) ∧ Ext S S' ∧ (J.writeN D Z k).1 = 0 ∧
    Sat wr (pt j (.cells (J.cells d r t) 72 (0, 0)) * (ringA r (ringL J.P) * (tableA t J.T * (devA S' d (J.writeN D Z k).2 * (pool S' * F))))) ∧ Side w wr
set_option maxRecDepth 100000 in
set_option maxHeartbeats 4000000 in
theorem jwrite_any (w : World) (S : Hp) (j d : Nat) (J : Jr) (D : Dev) (F : Assn) (v : Value) (Z : List Wr) (h : Sat w (jrA j d J * (devA S d D * (pool S * F)))) (hJ : J.Ok) (hN : J.Numbers) (hD : D.Ok)
    (hm : D.wait.length + Z.length ≤ 1000000) (hZ : Z.length ≤ 72) (hid : ∀ z ∈ Z, 0 ≤ z.1 ∧ z.1 < 3840 ∧ z.2.2.length = 480) (hr : Reads S v Z F) :
    Calls Tryz.prog 30 #[ptV j, v] w (JWriteQ S j d J (J.writeN D Z Z.length) F w) := by
  obtain ⟨r, t, hx⟩ := h.jrOpen
  have hv := (hr S (jrA j d J * devA S d D) w (Ext.refl S) (h.to (by ac_rfl))).1
  clear h
  obtain ⟨n, hn⟩ : ∃ n, n = Z.length := ⟨_, rfl⟩
  obtain ⟨aa, ac, hav⟩ : ∃ aa ac, v = .slice aa n ac := by
    rcases hv with ⟨rfl, h⟩ | ⟨g, o, c, rfl, _⟩
    · rw [hn, h]; exact ⟨_, _, rfl⟩
    · rw [hn]; exact ⟨_, _, rfl⟩
  subst hav
  rw [← hn] at hm hZ ⊢
  have Hn := SL.hid hn
  have Hr := SL.hid hr
  have Hid' := SL.hid hid
  clear hn hr hid hv
  have hZ' : (n : Int) ≤ 72 := by omega
  go_enter Tryz.func30, Tryz.ntmps30
  go_wp2
  go_loopw [12] (fun u wr => JWriteRel S j d r t J D Z n F w u wr) (fun u _ => n - (intOf u).toNat)
  case atStart => exact ⟨0, S, Nat.zero_le _, rfl, Ext.refl S, rfl, hx, Side.refl w⟩
  case round =>
    clear hx
    obtain ⟨k, S1, hk, rfl, hE, h0, hsat, hside⟩ := hrel
    by_cases hlt : k < n
    · have hlt' : (k : Int) < (n : Int) := by omega
      have hrd := Hr.out S1 (pt j (.cells (J.cells d r t) 72 (0, 0)) * (ringA r (ringL J.P) * (tableA t J.T * devA S1 d (J.writeN D Z k).2))) wr hE (hsat.to (by ac_rfl))
      obtain ⟨g, o, rfl, hc1, hc2⟩ : ∃ g o, aa = some ⟨g, o, none⟩ ∧ wr.cell? ⟨g, o + k * 2, none⟩ = some (.int .i64 (Z.getD k Wr.nil).1) ∧ wr.cell? ⟨g, o + k * 2 + 1, none⟩ = some (Z.getD k Wr.nil).2.1 := by
        have hn := Hn.out
        rcases hrd.1 with ⟨h, h0⟩ | ⟨g, o, c, h, _, _, hc⟩
        · rw [h0] at hn; simp at hn; omega
        · injection h with e1 e2 e3
          exact ⟨g, o, e1, (hc k (by omega)).1, (hc k (by omega)).2⟩
      have hmem : Z.getD k Wr.nil ∈ Z := by rw [List.getD, List.getElem?_eq_getElem (by have := Hn.out; omega)]; exact List.getElem_mem _
      obtain ⟨i0, i1, i2⟩ := Hid'.out _ hmem
      have hRd := hrd.2 _ hmem
      have hRdA : ∀ S' X w', Ext S S' → Sat w' (X * (pool S' * F)) → Rd w' (Z.getD k Wr.nil).2.1 (Z.getD k Wr.nil).2.2 := fun S' X w' e h => (Hr.out S' X w' e h).2 _ hmem
      have hst : J.writeN D Z (k + 1) = if (J.writeN D Z k).1 = 0 then
        (let R := (J.writeN D Z k).2.write ((J.hd + (k : Int)) % (J.P : Int) + 1) (enc (J.tag k Z.length (Z.getD k Wr.nil).1) ++ (Z.getD k Wr.nil).2.2)
         (if R.1 = 0 then 0 else 2, R.2)) else J.writeN D Z k := rfl
      rw [if_pos h0, ← Hn.out] at hst
      have hstop := J.writeN_stop D Z (k + 1) n (by omega)
      have hDk : (J.writeN D Z k).2.Ok := (J.writeN_keeps hD Z k (by omega)).ok hD (by omega)
      obtain ⟨da, dc, hda⟩ := hRd.shape
      generalize hz : Z.getD k Wr.nil = z at *
      obtain ⟨id, dv, db⟩ := z
      simp only at hc1 hc2 i0 i1 i2 hRd hRdA hst hda
      subst hda
      rw [i2] at hc2 hRd hRdA
      have hok := Jr.tag_ok hN (i := k) (n := n) (id := id) (by omega) hZ i0 i1
      have hfit := Jr.tag_fit hN k n id
      obtain ⟨tg, htg⟩ : ∃ tg, tg = J.tag k n id := ⟨_, rfl⟩
      rw [← htg] at hst hok hfit
      have hW := hsat.alloc (.cells #[.int .i64 id, .slice da 480 dc] 41 (0, 0))
      have dW := hside.alloc (.cells #[.int .i64 id, .slice da 480 dc] 41 (0, 0))
      obtain ⟨REST, hREST⟩ : ∃ X, X = ringA r (ringL J.P) * (tableA t J.T * (devA S1 d (J.writeN D Z k).2 * (pool S1 * F))) := ⟨_, rfl⟩
      rw [← hREST] at hW
      obtain ⟨BIG, hBIG⟩ : ∃ X, X = pt wr.heap.size (.cells #[.int .i64 id, .slice da 480 dc] 41 (0, 0)) * (pt j (.cells (J.cells d r t) 72 (0, 0)) * REST) := ⟨_, rfl⟩
      rw [← hBIG] at hW
      have gw0 : ∀ w', Sat w' BIG → w'.cell? ⟨wr.heap.size, 0, none⟩ = some (.int .i64 id) := fun w' h => (hBIG ▸ h).cell 0
      have gw1 : ∀ w', Sat w' BIG → w'.cell? ⟨wr.heap.size, 1, none⟩ = some (.slice da 480 dc) := fun w' h => (hBIG ▸ h).cell 1
      have g4 : ∀ w', Sat w' BIG → w'.cell? ⟨j, 4, none⟩ = some (.int .u32 J.ep) := fun w' h => (hBIG ▸ h).front2.cell 4
      have g5 : ∀ w', Sat w' BIG → w'.cell? ⟨j, 5, none⟩ = some (.int .u64 J.st) := fun w' h => (hBIG ▸ h).front2.cell 5
      have g6 : ∀ w', Sat w' BIG → w'.cell? ⟨j, 6, none⟩ = some (.int .u64 J.sq) := fun w' h => (hBIG ▸ h).front2.cell 6
      have hsq : IntKind.u64.wrap (J.sq + 1) = J.sq + 1 := by
        have := hN.sq0; have := hN.sq1
        rw [IntKind.wrap_u64]; omega
      have HB := SL.hid hBIG; have HREST := SL.hid hREST; have Htg := SL.hid htg; have Hst := SL.hid hst; have Hstop := SL.hid hstop; have Hok := SL.hid hok
      have HRd := SL.hid hRdA; have Hi2 := SL.hid i2; have HDk := SL.hid hDk; have H0 := SL.hid h0; have HE := SL.hid hE
      clear hsat hrd hRd hRdA hst hstop hok htg hREST hBIG hmem hz i2 hDk h0 hE hside
      go_wp2_with fail
      generalize wr.alloc (.cells #[.int .i64 id, .slice da 480 dc] 41 (0, 0)) = w1 at hW dW ⊢
      generalize wr.heap.size = bw at *
      have hWd := hW.drew
      have hA := hW.alloc (.cells #[.int .u32 J.ep, .int .u64 J.st, .int .u64 (J.sq + 1), .int .u64 J.sq, .int .i64 (k : Int), .int .i64 (n : Int), .int .i64 id] 59 (0, 0))
      have hA1 := hA.right.drew
      have hA0 := (hW.alloc (.cells #[.int .u32 0, .int .u64 0, .int .u64 0, .int .u64 0, .int .i64 0, .int .i64 0, .int .i64 0] 59 (0, 0))).right.drew
      go_region_held3 (fun w' => Sat w' BIG) (first | (with_reducible exact hW) | (with_reducible exact hWd) | (with_reducible exact hA0) | (with_reducible exact hA1)) (fail)
      have hT : Sat (w1.alloc (.cells #[.int .u32 J.ep, .int .u64 J.st, .int .u64 (J.sq + 1), .int .u64 J.sq, .int .i64 (k : Int), .int .i64 (n : Int), .int .i64 id] 59 (0, 0))).drew _ := hA.drew
      have dT := (dW.alloc (.cells #[.int .u32 J.ep, .int .u64 J.st, .int .u64 (J.sq + 1), .int .u64 J.sq, .int .i64 (k : Int), .int .i64 (n : Int), .int .i64 id] 59 (0, 0))).drew
      generalize (w1.alloc (.cells #[.int .u32 J.ep, .int .u64 J.st, .int .u64 (J.sq + 1), .int .u64 J.sq, .int .i64 (k : Int), .int .i64 (n : Int), .int .i64 id] 59 (0, 0))).drew = w2 at hT dT ⊢
      generalize w1.heap.size = tb at hT ⊢
      clear hA hA0 hA1 hWd hW dW g4 g5 g6 gw0
      have q0 : w2.cell? ⟨tb, 0, none⟩ = some (.int .u32 J.ep) := hT.cell 0
      have q1 : w2.cell? ⟨tb, 1, none⟩ = some (.int .u64 J.st) := hT.cell 1
      have q2 : w2.cell? ⟨tb, 2, none⟩ = some (.int .u64 (J.sq + 1)) := hT.cell 2
      have q3 : w2.cell? ⟨tb, 3, none⟩ = some (.int .u64 J.sq) := hT.cell 3
      have q4 : w2.cell? ⟨tb, 4, none⟩ = some (.int .i64 (k : Int)) := hT.cell 4
      have q5 : w2.cell? ⟨tb, 5, none⟩ = some (.int .i64 (n : Int)) := hT.cell 5
      have q6 : w2.cell? ⟨tb, 6, none⟩ = some (.int .i64 id) := hT.cell 6
      have qw := gw1 w2 hT.right
      have hrd2 : Rd w2 (.slice da 480 dc) db := by
        have hh := hT.right
        rw [HB.out, HREST.out] at hh
        exact HRd.out S1 (pt bw (.cells #[.int .i64 id, .slice da 480 dc] 41 (0, 0)) * (pt j (.cells (J.cells d r t) 72 (0, 0)) * (ringA r (ringL J.P) * (tableA t J.T * devA S1 d (J.writeN D Z k).2)))) w2 HE.out (hh.to (by ac_rfl))
      have henc := encode_yes tg hfit Hok.out (.slice da 480 dc) db Hi2.out w2 hrd2
      have hcells : tg.cells = #[.int .u32 J.ep, .int .u64 J.st, .int .u64 (J.sq + 1), .int .u64 J.sq, .int .i64 (k : Int), .int .i64 (n : Int), .int .i64 id] := by rw [Htg.out]; rfl
      rw [hcells] at henc
      clear hcells hrd2
      go_wp2_with fail
      refine henc.mono ?_
      rintro e w3 ⟨v3, rfl, h3, d3⟩
      have H3 := (h3.under hT).drop2
      have D3 := dT.trans d3
      clear henc h3 d3 hT dT q0 q1 q2 q3 q4 q5 q6 qw gw1
      obtain ⟨va, vc, rfl⟩ := sl_shape H3
      rw [HB.out, HREST.out] at H3
      have H4 : Sat w3 (pt j (.cells (J.cells d r t) 72 (0, 0)) * (ringA r (ringL J.P) * (devA S1 d (J.writeN D Z k).2 * (pool S1 * (bs 5 (.slice va (enc tg ++ db).length vc) (enc tg ++ db) * (tableA t J.T * F)))))) :=
        Sat.right (H3.to (by ac_rfl : _ = pt bw (.cells #[.int .i64 id, .slice da 480 dc] 41 (0, 0)) * (pt j (.cells (J.cells d r t) 72 (0, 0)) * (ringA r (ringL J.P) * (devA S1 d (J.writeN D Z k).2 * (pool S1 * (bs 5 (.slice va (enc tg ++ db).length vc) (enc tg ++ db) * (tableA t J.T * F))))))))
      clear H3
      generalize enc tg ++ db = L at H4 Hst ⊢
      have hL63 : L.length ≤ 9223372036854775807 := by
        rcases H4.front5.slCases with ⟨_, h0, _⟩ | ⟨g', cap', cur, hv, h5, h6, _⟩
        · omega
        · unfold maxLen at h6; omega
      have hget := get_any w3.drew r (ringL J.P) (J.hd + (k : Int)) _ H4.front2.drew (by rw [ringL_length]; exact hJ.p0) (by rw [ringL_length]; have := hJ.p1; omega)
      obtain ⟨kk, hkk, hkl⟩ := mod_nat (J.hd + (k : Int)) hJ.p0
      rw [ringL_length, hkk, Int.toNat_natCast, ringL_get hkl, ← hkk] at hget
      have hadd : IntKind.i64.wrap (J.hd + (k : Int)) = J.hd + (k : Int) := by
        have := hJ.hd0; have := hJ.hd1; have := hJ.p1
        rw [IntKind.wrap_i64]; omega
      have hwr : ∀ w', Sat w' (pt j (.cells (J.cells d r t) 72 (0, 0)) * (ringA r (ringL J.P) * (devA S1 d (J.writeN D Z k).2 * (pool S1 * (bs 5 (.slice va L.length vc) L * (tableA t J.T * F)))))) →
          Calls Tryz.prog 18 #[ptV d, .int .i64 ((J.hd + (k : Int)) % (J.P : Int) + 1), .slice va L.length vc] w' (WriteQ S1 d ((J.writeN D Z k).2.write ((J.hd + (k : Int)) % (J.P : Int) + 1) L).2 (.int .i64 ((J.writeN D Z k).2.write ((J.hd + (k : Int)) % (J.P : Int) + 1) L).1) (pt j (.cells (J.cells d r t) 72 (0, 0)) * (ringA r (ringL J.P) * (bs 5 (.slice va L.length vc) L * (tableA t J.T * F)))) w') := fun w' h' =>
        write_any w' S1 d (J.writeN D Z k).2 _ _ L _ (h'.to (by ac_rfl)) HDk.out h'.front5.bsRd (fun w'' D' h'' => h''.front5.bsRd) hL63
      have Hwr := SL.hid hwr
      obtain ⟨R, hR⟩ : ∃ R, R = (J.writeN D Z k).2.write ((J.hd + (k : Int)) % (J.P : Int) + 1) L := ⟨_, rfl⟩
      rw [← hR] at Hwr Hst
      clear hwr hkk hkl hR hL63
      generalize (J.hd + (k : Int)) % (J.P : Int) + 1 = sec at *
      have c0 : w3.cell? ⟨j, 0, none⟩ = some (ptV d) := H4.cell 0
      have c1 : w3.cell? ⟨j, 1, none⟩ = some (ptV r) := H4.cell 1
      have c7 : w3.cell? ⟨j, 7, none⟩ = some (.int .i64 J.hd) := H4.cell 7
      obtain ⟨rc, D'⟩ := R
      simp only at Hwr Hst
      have Hdr := SL.hid (Sat.drew H4)
      clear H4
      go_wp2_with fail
      go_region_held3 (fun w' => w'.cell? ⟨j, 0, none⟩ = some (ptV d) ∧ w'.cell? ⟨j, 1, none⟩ = some (ptV r) ∧ w'.cell? ⟨j, 7, none⟩ = some (.int .i64 J.hd)) (first | (with_reducible exact ⟨a0, a1, a7⟩) | (with_reducible exact ⟨b0, b1, b7⟩) | exact ⟨c0, c1, c7⟩) (first
        | (go_at_call 56; (with_reducible refine hget.mono ?_); rintro e w4 ⟨rfl, h4, d4⟩; have H5 := h4.keepW Hdr.out; have a0 : w4.cell? ⟨j, 0, none⟩ = some (ptV d) := H5.cell 0; have a1 : w4.cell? ⟨j, 1, none⟩ = some (ptV r) := H5.cell 1; have a7 : w4.cell? ⟨j, 7, none⟩ = some (.int .i64 J.hd) := H5.cell 7; have hw4 := Hwr.out w4 H5)
        | (go_at_call 18; (with_reducible refine hw4.mono ?_); rintro e w5 ⟨S2, E2, rfl, h5, d5⟩; have b0 : w5.cell? ⟨j, 0, none⟩ = some (ptV d) := h5.front3.cell 0; have b1 : w5.cell? ⟨j, 1, none⟩ = some (ptV r) := h5.front3.cell 1; have b7 : w5.cell? ⟨j, 7, none⟩ = some (.int .i64 J.hd) := h5.front3.cell 7))
      have D5 := ((D3.drew).trans d4).trans d5
      have H6 : Sat w5 (pt j (.cells (J.cells d r t) 72 (0, 0)) * (ringA r (ringL J.P) * (tableA t J.T * (devA S2 d D' * (pool S2 * F))))) :=
        Sat.right (h5.to (by ac_rfl : _ = bs 5 (.slice va L.length vc) L * (pt j (.cells (J.cells d r t) 72 (0, 0)) * (ringA r (ringL J.P) * (tableA t J.T * (devA S2 d D' * (pool S2 * F)))))))
      clear h4 d4 d5 h5 H5 Hdr hget Hwr hw4 a0 a1 a7 b0 b1 b7 c0 c1 c7 D3
      by_cases hrc : rc = 0
      · have Hq := SL.hid H6
        have HD5 := SL.hid D5
        have HE2 := SL.hid (HE.out.trans E2)
        rw [if_pos hrc] at Hst
        subst hrc
        clear H6 D5 E2
        go_wp2
        go_roundw
        case rel => exact ⟨k + 1, S2, by omega, by go_num, HE2.out, by rw [Hst.out], by rw [Hst.out]; exact Hq.out, HD5.out⟩
        case measure => simp [intOf]; omega
      · have hrb : (rc == 0) = false := by simpa using hrc
        rw [if_neg hrc] at Hst
        have hne : (J.writeN D Z (k + 1)).1 ≠ 0 := by rw [Hst.out]; show (2 : Int) ≠ 0; decide
        have hw : J.writeN D Z n = (2, D') := (Hstop.out hne).trans Hst.out
        have hfl := fail_any w5 j d J _ (Sat.jrShut (r := r) (t := t) H6)
        have Hw := SL.hid hw
        have HD5 := SL.hid D5
        have HE2 := SL.hid (HE.out.trans E2)
        clear hw hne H6 D5 E2 hrc
        go_wp2_with fail
        refine hfl.mono ?_
        rintro e w6 ⟨rfl, h6, d6⟩
        clear hfl
        go_wp2
        go_ret
        refine ⟨S2, HE2.out, by rw [Hw.out]; rfl, ?_, HD5.out.trans d6⟩
        rw [Hw.out]
        exact h6
    · obtain rfl : k = n := by omega
      have H4 := SL.hid hsat
      have h0' := SL.hid h0
      clear hsat hlt h0
      go_wp2
      go_ret
      refine ⟨S1, hE, by rw [h0'.out]; rfl, ?_, hside⟩
      rw [if_pos h0'.out]
      exact Sat.jrShut H4.out
end Go.Proofs.YtlfooilcngjeiaaGreat

/- journal: New. journal: New of what may not be; State. -/
import Derived.Test.YtlfooilcngjeiaaGreatJc
namespace Go.SL
set_option linter.unusedVariables false
set_option linter.unusedSimpArgs false
open Go.RowKit
theorem RdI.under {w w' : World} {X : Assn} {v : Value} {l : List Int} (h : RdI w v l) (hs : Sat w' (X * whole w)) : RdI w' v l := by
  rcases h with h | ⟨g, o, c, h1, h2, h3, h4⟩
  · exact .inl h
  · exact .inr ⟨g, o, c, h1, h2, h3, fun k hk => hs.cellOld (h4 k hk)⟩
theorem Tb.drop_ok {T : Tb} (h : T.Ok) (id : Int) : (T.drop id).2.Ok := by
  unfold Tb.drop
  split
  · refine ⟨by simpa using h.n, by simpa using h.m, fun v hv => ?_⟩
    simp only [List.length_set]
    rcases List.mem_or_eq_of_mem_set hv with hv | hv
    · exact h.ps v hv
    · exact .inl hv
  · exact h
theorem Tb.put_ok {T : Tb} (h : T.Ok) (id p : Int) : (T.put id p).2.Ok := by
  have hd := Tb.drop_ok h id
  have hl : (T.drop id).2.os.length = T.os.length := by unfold Tb.drop; split <;> simp
  unfold Tb.put
  split
  · rename_i hc
    refine ⟨by simpa using hd.n, by simpa using hd.m, fun v hv => ?_⟩
    simp only [List.length_set]
    rcases List.mem_or_eq_of_mem_set hv with hv | hv
    · exact hd.ps v hv
    · right; rw [hl, hv]; exact ⟨hc.2.2.1, hc.2.2.2.1⟩
  · exact h
theorem Tb.put_len (T : Tb) (id p : Int) : (T.put id p).2.ps.length = T.ps.length ∧ (T.put id p).2.os.length = T.os.length := by
  have h1 : (T.drop id).2.ps.length = T.ps.length := by unfold Tb.drop; split <;> simp
  have h2 : (T.drop id).2.os.length = T.os.length := by unfold Tb.drop; split <;> simp
  unfold Tb.put
  split
  · simp [h1, h2]
  · exact ⟨rfl, rfl⟩
def tbN (P : Nat) (l : List Int) : Nat → Tb
  | 0 => Tb.fresh l.length P
  | k + 1 => if 0 ≤ l.getD k 0 then ((tbN P l k).put (k : Int) (l.getD k 0)).2 else tbN P l k
theorem tbN_len (P : Nat) (l : List Int) (k : Nat) : (tbN P l k).ps.length = l.length ∧ (tbN P l k).os.length = P := by
  induction k with
  | zero => simp [tbN, Tb.fresh]
  | succ k ih =>
    rw [tbN]
    split
    · rw [(Tb.put_len _ _ _).1, (Tb.put_len _ _ _).2]; exact ih
    · exact ih
theorem tbN_ok (P : Nat) (l : List Int) (hP : P ≤ 1048576) (hl : l.length ≤ 1048576) (k : Nat) : (tbN P l k).Ok := by
  induction k with
  | zero => exact ⟨by simpa [tbN, Tb.fresh] using hl, by simpa [tbN, Tb.fresh] using hP, fun v hv => .inl (List.eq_of_mem_replicate hv)⟩
  | succ k ih =>
    rw [tbN]
    split
    · exact Tb.put_ok ih _ _
    · exact ih
def ringK (P k : Nat) : List Int := (List.range k).map (fun i : Nat => (i : Int) + 1) ++ List.replicate (P - k) 0
theorem ringK_len {P k : Nat} (h : k ≤ P) : (ringK P k).length = P := by simp [ringK]; omega
theorem ringK_next {P k : Nat} (h : k < P) : (ringK P k).set ((k : Int) % ((ringK P k).length : Int)).toNat ((k : Int) + 1) = ringK P (k + 1) := by
  rw [ringK_len (by omega), Int.emod_eq_of_lt (by omega) (by omega), Int.toNat_natCast]
  unfold ringK
  have e : P - k = (P - (k + 1)) + 1 := by omega
  rw [e, List.replicate_succ, List.set_append_right _ _ (by simp), List.range_succ]
  simp
theorem ringK_all (P : Nat) : ringK P P = ringL P := by simp [ringK, ringL]
def Jr.ofS (P : Nat) (s : Js) : Jr := ⟨P, tbN P s.at_ s.at_.length, s.at_.length, s.ep, s.st, s.sq, s.hd, s.us, 0, false⟩
theorem Jr.ofS_ok {P : Nat} {s : Js} (h : s.Right P) (h0 : 1 ≤ P) (h1 : P ≤ 20000) : (Jr.ofS P s).Ok := by
  have hl := tbN_len P s.at_ s.at_.length
  have := h.n1
  exact ⟨h0, h1, tbN_ok _ _ (by omega) (by omega) _, by rw [Jr.ofS]; simp only; rw [hl.1], hl.2, h.us0, h.us1, h.hd0, h.hd1, Int.le_refl _, by show (0 : Int) ≤ 48; decide⟩
end Go.SL
namespace Go.Proofs.YtlfooilcngjeiaaGreat
set_option linter.unusedVariables false
set_option linter.unusedSimpArgs false
open Go.RowKit Go.SL
def JNewQ (d : Nat) (J : Jr) (w : World) (e : Ending) (w' : World) : Prop := ∃ j, e = .returned (.tuple #[ptV j, .int .i64 0]) ∧ Sat w' (jrA j d J * whole w) ∧ Side w w'
def JNewNo (w : World) (e : Ending) (w' : World) : Prop := e = .returned (.tuple #[.pointer none, .int .i64 1]) ∧ Sat w' (whole w) ∧ Side w w'
def NewX (P : Nat) (s : Js) (n d r t : Nat) : Array Value := #[ptV d, ptV r, ptV t, .int .i64 (n : Int), .int .u32 s.ep, .int .u64 s.st, .int .u64 s.sq, .int .i64 s.hd, .int .i64 s.us, .int .i64 0, .bool false]
def NewRel1 (P : Nat) (s : Js) (n d j r t bx : Nat) (o : Obj) (w : World) (u : Value) (wr : World) : Prop :=
  ∃ k : Nat, k ≤ P ∧ u = .int .i64 (k : Int) ∧ Sat wr (pt j (.cells (NewX P s n d r t) 72 (0, 0)) * (ringA r (ringK P k) * (tableA t (tbN P s.at_ 0) * (pt bx o * whole w)))) ∧ Side w wr
def NewRel2 (P : Nat) (s : Js) (n d j r t bx : Nat) (o : Obj) (w : World) (u : Value) (wr : World) : Prop :=
  ∃ k : Nat, k ≤ n ∧ u = .int .i64 (k : Int) ∧ Sat wr (pt j (.cells (NewX P s n d r t) 72 (0, 0)) * (ringA r (ringL P) * (tableA t (tbN P s.at_ k) * (pt bx o * whole w)))) ∧ Side w wr
set_option maxRecDepth 100000 in
set_option maxHeartbeats 4000000 in
theorem jnew_any (w : World) (S : Hp) (d : Nat) (D : Dev) (F : Assn) (hd : Sat w (devA S d D * F)) (P : Nat) (s : Js) (a : Value) (ha : RdI w a s.at_) (hP0 : 1 ≤ P) (hP : P ≤ 20000) (hPs : P + 1 ≤ D.sec.length) (hDn : D.sec.length ≤ 20000) (hq : 0 ≤ s.sq) (hr : s.Right P) :
    Calls Tryz.prog 7 #[ptV d, .int .i64 (P : Int), s.v a] w (JNewQ d (Jr.ofS P s) w) := by
  have hn1 := hr.n1
  have hn0 := hr.n0
  have Hr := SL.hid hr
  obtain ⟨n, hn⟩ : ∃ n, n = s.at_.length := ⟨_, rfl⟩
  have hav : ∃ aa ac, a = .slice aa n ac := by
    rcases ha with ⟨_, _, rfl, h⟩ | ⟨g, o, c, rfl, _⟩
    · rw [hn, h]; exact ⟨_, _, rfl⟩
    · rw [hn]; exact ⟨_, _, rfl⟩
  obtain ⟨aa, ac, rfl⟩ := hav
  rw [← hn] at hn1 hn0
  have Hn := SL.hid hn
  have hbox := (Sat.whole w).alloc (.cells #[.int .u32 s.ep, .int .u64 s.st, .int .u64 s.sq, .int .i64 s.hd, .int .i64 s.us, .slice aa n ac] 35 (0, 0))
  have hs1 := (Side.refl w).alloc (.cells #[.int .u32 s.ep, .int .u64 s.st, .int .u64 s.sq, .int .i64 s.hd, .int .i64 s.us, .slice aa n ac] 35 (0, 0))
  have hsec := sectors_any _ S d D _ (hbox.under hd).right
  have hP0' : (1 : Int) ≤ (P : Int) := by omega
  have hP' : (P : Int) ≤ 20000 := by omega
  have hPs' : (P : Int) ≤ (D.sec.length : Int) - 1 := by omega
  have hDn' : (D.sec.length : Int) ≤ 20000 := by omega
  have hwr : IntKind.i64.wrap ((D.sec.length : Int) - 1) = (D.sec.length : Int) - 1 := by rw [IntKind.wrap_i64]; omega
  have hright := right_any' (P : Int) s (.slice aa n ac) _ (by omega) (by omega) hq (by rw [← hn]; omega) (ha.under hbox) true ⟨fun _ => hr, fun _ => rfl⟩
  have Ha := SL.hid ha
  clear hn hr hd ha hq
  unfold Js.v at hright ⊢
  obtain ⟨bx, hbx⟩ : ∃ bx, bx = w.heap.size := ⟨_, rfl⟩
  go_enter Tryz.func7, Tryz.ntmps7
  go_wp2_with fail
  rw [← hbx] at hbox ⊢
  generalize w.alloc (.cells #[.int .u32 s.ep, .int .u64 s.st, .int .u64 s.sq, .int .i64 s.hd, .int .i64 s.us, .slice aa n ac] 35 (0, 0)) = w1 at hbox hs1 hsec hright ⊢
  have c0 : w1.cell? ⟨bx, 0, none⟩ = some (.int .u32 s.ep) := hbox.cell 0
  have c1 : w1.cell? ⟨bx, 1, none⟩ = some (.int .u64 s.st) := hbox.cell 1
  have c2 : w1.cell? ⟨bx, 2, none⟩ = some (.int .u64 s.sq) := hbox.cell 2
  have c3 : w1.cell? ⟨bx, 3, none⟩ = some (.int .i64 s.hd) := hbox.cell 3
  have c4 : w1.cell? ⟨bx, 4, none⟩ = some (.int .i64 s.us) := hbox.cell 4
  have c5 : w1.cell? ⟨bx, 5, none⟩ = some (.slice aa n ac) := hbox.cell 5
  clear hbx
  go_wp2_with fail
  refine hsec.mono ?_
  rintro e w1' ⟨rfl, rfl⟩
  clear hsec
  go_wp2_with fail
  refine hright.mono ?_
  rintro e w2 ⟨rfl, h2, d2⟩
  have H2 := h2.keepW hbox
  have D2 := hs1.trans d2
  have b0 : w2.cell? ⟨bx, 0, none⟩ = some (.int .u32 s.ep) := H2.cell 0
  have b1 : w2.cell? ⟨bx, 1, none⟩ = some (.int .u64 s.st) := H2.cell 1
  have b2 : w2.cell? ⟨bx, 2, none⟩ = some (.int .u64 s.sq) := H2.cell 2
  have b3 : w2.cell? ⟨bx, 3, none⟩ = some (.int .i64 s.hd) := H2.cell 3
  have b4 : w2.cell? ⟨bx, 4, none⟩ = some (.int .i64 s.us) := H2.cell 4
  have b5 : w2.cell? ⟨bx, 5, none⟩ = some (.slice aa n ac) := H2.cell 5
  clear hright h2 d2 hbox hs1 c0 c1 c2 c3 c4 c5 hwr
  have hring := ringNew_any P 0 w2.drew hP0 (by omega)
  have htab := fun w => tabNew_any n P w (by omega) (by omega)
  have R2 := SL.hid (Sat.drew H2)
  clear H2
  go_wp2_with fail
  go_region_held3 (fun w' => w'.cell? ⟨bx, 0, none⟩ = some (.int .u32 s.ep) ∧ w'.cell? ⟨bx, 1, none⟩ = some (.int .u64 s.st) ∧ w'.cell? ⟨bx, 2, none⟩ = some (.int .u64 s.sq) ∧ w'.cell? ⟨bx, 3, none⟩ = some (.int .i64 s.hd) ∧ w'.cell? ⟨bx, 4, none⟩ = some (.int .i64 s.us) ∧ w'.cell? ⟨bx, 5, none⟩ = some (.slice aa n ac)) (first | (with_reducible exact ⟨f0, f1, f2, f3, f4, f5⟩) | (with_reducible exact ⟨cell_alloc _ _ _ _ f0, cell_alloc _ _ _ _ f1, cell_alloc _ _ _ _ f2, cell_alloc _ _ _ _ f3, cell_alloc _ _ _ _ f4, cell_alloc _ _ _ _ f5⟩) | (with_reducible exact ⟨e0, e1, e2, e3, e4, e5⟩) | exact ⟨b0, b1, b2, b3, b4, b5⟩) (first
    | (go_at_call 21; (with_reducible refine hring.mono ?_); rintro e w3 ⟨r, rfl, h3, d3⟩; have H3 := h3.under R2.out; have e0 : w3.cell? ⟨bx, 0, none⟩ = some (.int .u32 s.ep) := H3.front2.cell 0; have e1 : w3.cell? ⟨bx, 1, none⟩ = some (.int .u64 s.st) := H3.front2.cell 1; have e2 : w3.cell? ⟨bx, 2, none⟩ = some (.int .u64 s.sq) := H3.front2.cell 2; have e3 : w3.cell? ⟨bx, 3, none⟩ = some (.int .i64 s.hd) := H3.front2.cell 3; have e4 : w3.cell? ⟨bx, 4, none⟩ = some (.int .i64 s.us) := H3.front2.cell 4; have e5 : w3.cell? ⟨bx, 5, none⟩ = some (.slice aa n ac) := H3.front2.cell 5)
    | (go_at_call 22; (with_reducible refine (htab _).mono ?_); rintro e w4 ⟨t, rfl, h4, d4⟩; have H4 := h4.under H3; have f0 : w4.cell? ⟨bx, 0, none⟩ = some (.int .u32 s.ep) := H4.front3.cell 0; have f1 : w4.cell? ⟨bx, 1, none⟩ = some (.int .u64 s.st) := H4.front3.cell 1; have f2 : w4.cell? ⟨bx, 2, none⟩ = some (.int .u64 s.sq) := H4.front3.cell 2; have f3 : w4.cell? ⟨bx, 3, none⟩ = some (.int .i64 s.hd) := H4.front3.cell 3; have f4 : w4.cell? ⟨bx, 4, none⟩ = some (.int .i64 s.us) := H4.front3.cell 4; have f5 : w4.cell? ⟨bx, 5, none⟩ = some (.slice aa n ac) := H4.front3.cell 5))
  have H5 := H4.alloc (.cells (NewX P s n d r t) 72 (0, 0))
  have D5 := ((D2.drew.trans d3).trans d4).alloc (.cells (NewX P s n d r t) 72 (0, 0))
  clear h3 h4 hring htab d3 d4 D2 R2 H3 H4 e0 e1 e2 e3 e4 e5 f0 f1 f2 f3 f4 f5 b0 b1 b2 b3 b4 b5
  have H6 : Sat (w4.alloc (.cells (NewX P s n d r t) 72 (0, 0))) (pt w4.heap.size (.cells (NewX P s n d r t) 72 (0, 0)) * (ringA r (ringK P 0) * (tableA t (tbN P s.at_ 0) * (pt bx (.cells #[.int .u32 s.ep, .int .u64 s.st, .int .u64 s.sq, .int .i64 s.hd, .int .i64 s.us, .slice aa n ac] 35 (0, 0)) * whole w)))) := by
    have e1 : tbN P s.at_ 0 = Tb.fresh n P := by rw [Hn.out]; rfl
    have e2 : ringK P 0 = List.replicate P 0 := rfl
    rw [e1, e2]
    exact H5.to (by ac_rfl)
  clear H5
  unfold NewX at D5 H6
  generalize hw5 : (w4.alloc (.cells #[ptV d, ptV r, ptV t, .int .i64 (n : Int), .int .u32 s.ep, .int .u64 s.st, .int .u64 s.sq, .int .i64 s.hd, .int .i64 s.us, .int .i64 0, .bool false] 72 (0, 0))) = w5 at D5 H6 ⊢
  generalize w4.heap.size = j at H6 ⊢
  clear hw5
  go_wp2
  go_loopw [55] (fun u wr => NewRel1 P s n d j r t bx (.cells #[.int .u32 s.ep, .int .u64 s.st, .int .u64 s.sq, .int .i64 s.hd, .int .i64 s.us, .slice aa n ac] 35 (0, 0)) w u wr) (fun u _ => P - (intOf u).toNat)
  case atStart => exact ⟨0, Nat.zero_le _, rfl, H6, D5⟩
  case round =>
    clear H6 D5
    obtain ⟨k, hk, rfl, hsat, hside⟩ := hrel
    by_cases hlt : k < P
    · have hlt' : (k : Int) < (P : Int) := by omega
      have j1 : wr.cell? ⟨j, 1, none⟩ = some (ptV r) := hsat.cell 1
      have hset := set_any wr r (ringK P k) (k : Int) ((k : Int) + 1) _ hsat.front2 (by rw [ringK_len hk]; omega) (by rw [ringK_len hk]; omega)
      rw [ringK_next hlt] at hset
      have hw1 : IntKind.i64.wrap ((k : Int) + 1) = (k : Int) + 1 := by rw [IntKind.wrap_i64]; omega
      clear hsat
      go_wp2_with fail
      refine hset.mono ?_
      rintro e w6 ⟨rfl, h6, d6⟩
      have H7 := SL.hid h6.front2
      clear hset h6
      go_wp2
      go_roundw
      case rel => exact ⟨k + 1, by omega, by go_num, H7.out, hside.trans d6⟩
      case measure => simp [intOf]; omega
    · obtain rfl : k = P := by omega
      rw [ringK_all] at hsat
      have h5 : wr.cell? ⟨bx, 5, none⟩ = some (.slice aa n ac) := hsat.front4.cell 5
      have H7 := SL.hid hsat
      clear hsat hlt
      go_wp2
      go_loopw [70] (fun u wr => NewRel2 k s n d j r t bx (.cells #[.int .u32 s.ep, .int .u64 s.st, .int .u64 s.sq, .int .i64 s.hd, .int .i64 s.us, .slice aa n ac] 35 (0, 0)) w u wr) (fun u _ => n - (intOf u).toNat)
      case atStart => exact ⟨0, Nat.zero_le _, rfl, H7.out, hside⟩
      case round =>
        clear H7 hside h5
        obtain ⟨i, hi, rfl, hsat, hside⟩ := hrel
        have j2 : wr.cell? ⟨j, 2, none⟩ = some (ptV t) := hsat.cell 2
        have htl := tbN_len k s.at_ i
        have htk := tbN_ok k s.at_ (by omega) (by have := Hn.out; omega) i
        by_cases hlt : i < n
        · have hlt' : (i : Int) < (n : Int) := by omega
          obtain ⟨g, o, rfl, hcell⟩ : ∃ g o, aa = some ⟨g, o, none⟩ ∧ wr.cell? ⟨g, o + i, none⟩ = some (.int .i64 (s.at_.getD i 0)) := by
            have hn := Hn.out
            rcases Ha.out with ⟨_, _, h, h0⟩ | ⟨g, o, c, h, _, _, hc⟩
            · rw [h0] at hn; simp at hn; omega
            · injection h with e1 e2 e3
              exact ⟨g, o, e1, (hsat.to (by ac_rfl : _ = (pt j _ * (ringA r (ringL k) * (tableA t (tbN k s.at_ i) * pt bx _))) * whole w)).cellOld (hc i (by omega))⟩
          have hst : tbN k s.at_ (i + 1) = if 0 ≤ s.at_.getD i 0 then ((tbN k s.at_ i).put (i : Int) (s.at_.getD i 0)).2 else tbN k s.at_ i := rfl
          generalize s.at_.getD i 0 = v at hcell hst
          by_cases hv : 0 ≤ v
          · rw [if_pos hv] at hst
            have hput := put_any wr t (tbN k s.at_ i) (i : Int) v _ hsat.front3 htk
            rw [← hst] at hput
            generalize ((tbN k s.at_ i).put (i : Int) v).1 = pb at hput
            clear hsat hst htl htk
            go_wp2_with fail
            refine hput.mono ?_
            rintro e w6 ⟨rfl, h6, d6⟩
            have H7 := SL.hid h6.front3
            clear hput h6
            go_wp2
            go_roundw
            case rel => exact ⟨i + 1, by omega, by go_num, H7.out.to (by ac_rfl), hside.trans d6⟩
            case measure => simp [intOf]; omega
          · rw [if_neg hv] at hst
            have H7 := SL.hid hsat
            have Hst := SL.hid hst
            clear hsat hst htl htk
            go_wp2
            go_roundw
            case rel => exact ⟨i + 1, by omega, by go_num, by rw [Hst.out]; exact H7.out, hside⟩
            case measure => simp [intOf]; omega
        · obtain rfl : i = n := by omega
          have H7 := SL.hid hsat
          clear hsat hlt htl htk
          go_wp2
          go_ret2
          refine ⟨j, rfl, Sat.jrShut (r := r) (t := t) ?_, hside⟩
          have e1 : (Jr.ofS k s).cells d r t = NewX k s i d r t := by unfold Jr.ofS Jr.cells NewX; rw [Hn.out]
          have e2 : (Jr.ofS k s).T = tbN k s.at_ i := by rw [Hn.out]; rfl
          rw [e1, e2]
          exact (Sat.drop4 H7.out).to (by unfold Jr.ofS; ac_rfl)
end Go.Proofs.YtlfooilcngjeiaaGreat
namespace Go.Proofs.YtlfooilcngjeiaaGreat
set_option linter.unusedVariables false
set_option linter.unusedSimpArgs false
open Go.RowKit Go.SL
set_option maxRecDepth 100000 in
set_option maxHeartbeats 4000000 in
theorem jnew_no (w : World) (S : Hp) (d : Nat) (D : Dev) (F : Assn) (hd : Sat w (devA S d D * F)) (P : Int) (s : Js) (a : Value) (ha : RdI w a s.at_) (hP0 : -9223372036854775808 ≤ P) (hPs : P + 1 ≤ D.sec.length) (hDn : D.sec.length ≤ 20000) (hl : s.at_.length ≤ 9223372036854775807) (hq : 0 ≤ s.sq) (hr : ¬ (1 ≤ P ∧ s.Right P)) :
    Calls Tryz.prog 7 #[ptV d, .int .i64 P, s.v a] w (JNewNo w) := by
  obtain ⟨n, hn⟩ : ∃ n, n = s.at_.length := ⟨_, rfl⟩
  have hav : ∃ aa ac, a = .slice aa n ac := by
    rcases ha with ⟨_, _, rfl, h⟩ | ⟨g, o, c, rfl, _⟩
    · rw [hn, h]; exact ⟨_, _, rfl⟩
    · rw [hn]; exact ⟨_, _, rfl⟩
  obtain ⟨aa, ac, rfl⟩ := hav
  have hbox := (Sat.whole w).alloc (.cells #[.int .u32 s.ep, .int .u64 s.st, .int .u64 s.sq, .int .i64 s.hd, .int .i64 s.us, .slice aa n ac] 35 (0, 0))
  have hs1 := (Side.refl w).alloc (.cells #[.int .u32 s.ep, .int .u64 s.st, .int .u64 s.sq, .int .i64 s.hd, .int .i64 s.us, .slice aa n ac] 35 (0, 0))
  have hsec := sectors_any _ S d D _ (hbox.under hd).right
  have hPs' : P ≤ (D.sec.length : Int) - 1 := by omega
  have hDn' : (D.sec.length : Int) ≤ 20000 := by omega
  have hwr : IntKind.i64.wrap ((D.sec.length : Int) - 1) = (D.sec.length : Int) - 1 := by rw [IntKind.wrap_i64]; omega
  have hright := fun h1 : 1 ≤ P => right_any' P s (.slice aa n ac) _ (by omega) (by omega) hq hl (ha.under hbox) false ⟨fun h => (by cases h), fun h => absurd ⟨h1, h⟩ hr⟩
  clear hn hr hd ha hq hl
  unfold Js.v at hright ⊢
  by_cases h1 : P < 1
  · clear hright
    go_enter Tryz.func7, Tryz.ntmps7
    go_wp2_with fail
    go_ret2
    exact ⟨rfl, hbox.right, hs1⟩
  · have hright := hright (by omega)
    obtain ⟨bx, hbx⟩ : ∃ bx, bx = w.heap.size := ⟨_, rfl⟩
    go_enter Tryz.func7, Tryz.ntmps7
    go_wp2_with fail
    rw [← hbx] at hbox ⊢
    generalize w.alloc (.cells #[.int .u32 s.ep, .int .u64 s.st, .int .u64 s.sq, .int .i64 s.hd, .int .i64 s.us, .slice aa n ac] 35 (0, 0)) = w1 at hbox hs1 hsec hright ⊢
    have c0 : w1.cell? ⟨bx, 0, none⟩ = some (.int .u32 s.ep) := hbox.cell 0
    have c1 : w1.cell? ⟨bx, 1, none⟩ = some (.int .u64 s.st) := hbox.cell 1
    have c2 : w1.cell? ⟨bx, 2, none⟩ = some (.int .u64 s.sq) := hbox.cell 2
    have c3 : w1.cell? ⟨bx, 3, none⟩ = some (.int .i64 s.hd) := hbox.cell 3
    have c4 : w1.cell? ⟨bx, 4, none⟩ = some (.int .i64 s.us) := hbox.cell 4
    have c5 : w1.cell? ⟨bx, 5, none⟩ = some (.slice aa n ac) := hbox.cell 5
    clear hbx
    go_wp2_with fail
    refine hsec.mono ?_
    rintro e w1' ⟨rfl, rfl⟩
    clear hsec
    go_wp2_with fail
    refine hright.mono ?_
    rintro e w2 ⟨rfl, h2, d2⟩
    have H2 := (h2.keepW hbox).right
    have D2 := hs1.trans d2
    clear hright h2 d2 hbox hs1 c0 c1 c2 c3 c4 c5 hwr
    go_wp2
    go_ret2
    exact ⟨rfl, H2, D2⟩
/-- State: what it tells. -/
def Jr.ats (J : Jr) : List Int := (List.range J.T.ps.length).map fun i : Nat => (told J.T.ps (i : Int)).getD (-1)
def atsN (T : Tb) (n : Nat) (ys : List (Int × Int)) : List Int := ys.foldl (fun l p => l.set p.1.toNat p.2) (List.replicate n (-1))
theorem atsN_len (T : Tb) (n : Nat) (ys : List (Int × Int)) : (atsN T n ys).length = n := by
  suffices ∀ (l : List Int), (ys.foldl (fun l p => l.set p.1.toNat p.2) l).length = l.length by
    unfold atsN; rw [this]; simp
  induction ys with
  | nil => intro l; rfl
  | cons y ys ih => intro l; rw [List.foldl_cons, ih, List.length_set]
theorem atsN_snoc (T : Tb) (n : Nat) (ys : List (Int × Int)) (x : Int × Int) : atsN T n (ys ++ [x]) = (atsN T n ys).set x.1.toNat x.2 := by
  unfold atsN; rw [List.foldl_append]; rfl
theorem allN_fst (T : Tb) (k : Nat) : ∀ p ∈ allN T k, ∃ i : Nat, p.1 = (i : Int) ∧ i < k ∧ told T.ps (i : Int) = some p.2 := by
  intro p hp
  obtain ⟨i, hi, h⟩ := List.mem_filterMap.1 hp
  cases ht : told T.ps (i : Int) with
  | none => rw [ht] at h; cases h
  | some q => rw [ht] at h; cases h; exact ⟨i, rfl, List.mem_range.1 hi, ht⟩
theorem ats_all (T : Tb) (k : Nat) (hk : k ≤ T.ps.length) (i : Nat) (hi : i < T.ps.length) :
    (atsN T T.ps.length (allN T k)).getD i 0 = if i < k then (told T.ps (i : Int)).getD (-1) else -1 := by
  induction k with
  | zero => simp [allN, atsN, List.getD, hi]
  | succ k ih =>
    have ih := ih (by omega)
    rw [allN_succ]
    match ht : told T.ps (k : Int) with
    | none =>
      simp only [List.append_nil]
      rw [ih]
      by_cases h : i < k
      · rw [if_pos h, if_pos (by omega)]
      · rw [if_neg h]
        by_cases h2 : i < k + 1
        · obtain rfl : i = k := by omega
          rw [if_pos h2, ht]; rfl
        · rw [if_neg h2]
    | some q =>
      simp only
      rw [atsN_snoc, Int.toNat_natCast, List.getD, List.getElem?_set]
      by_cases h : k = i
      · subst h
        rw [if_pos rfl, if_pos (by rw [atsN_len]; exact hi), if_pos (by omega), ht]; rfl
      · rw [if_neg h]
        have : (atsN T T.ps.length (allN T k))[i]?.getD 0 = _ := ih
        rw [this]
        by_cases h2 : i < k
        · rw [if_pos h2, if_pos (by omega)]
        · rw [if_neg h2, if_neg (by omega)]
theorem ats_eq (T : Tb) : atsN T T.ps.length (tbAll T) = (List.range T.ps.length).map fun i : Nat => (told T.ps (i : Int)).getD (-1) := by
  have e : tbAll T = allN T T.ps.length := rfl
  rw [e]
  apply List.ext_getElem
  · rw [atsN_len]; simp
  · intro i h1 h2
    rw [atsN_len] at h1
    have := ats_all T T.ps.length (Nat.le_refl _) i h1
    rw [if_pos h1, List.getD, List.getElem?_eq_getElem (by rw [atsN_len]; exact h1)] at this
    rw [List.getElem_map, List.getElem_range]
    exact this
end Go.Proofs.YtlfooilcngjeiaaGreat

/- JournalGoes: the walk. -/
import Derived.Test.YtlfooilcngjeiaaHe
import Derived.Test.YtlfooilcngjeiaaGb
import Derived.Deep.DeepCutAuto
import Derived.BigQuiet
import Derived.Deep.QuietTactic
import Derived.Deep.CutBlock
import Derived.Deep.CutRange
namespace Go.Proofs.Ytlfooilcngjeiaa
set_option linter.unusedVariables false
set_option linter.unusedSimpArgs false
open Go.RowKit Go.SL
/-- Rows that were read, two journals on one device. -/
def G2Rel (j kj d sb B : Nat) (OS : Obj) (J K : Jr) (has : Has) (w : World) (u14 u15 : Value) (wr : World) : Prop :=
  ∃ (i : Nat) (S : Hp) (D : Dev) (R : List (Value × List UInt8)) (Bk : Assn), i ≤ 10 ∧ u15 = .int .i64 (i : Int) ∧ R.length = i ∧ RowsOf has R ∧ Keeps Bk R ∧ JW 10 200 (B + 2 * i) J D has ∧ JW 10 200 (B + 2 * i) K D has ∧
    Sat wr (sl 51 1 u14 i (R.map Prod.fst) * (Bk * (jrA kj d K * (jrA j d J * (devA S d D * (pool S * (pt sb OS * whole w))))))) ∧ Side w wr
def G2Out (kj d sb B : Nat) (OS : Obj) (K : Jr) (has : Has) (w : World) (u14 : Value) (wr : World) : Prop :=
  ∃ (S : Hp) (D : Dev) (R : List (Value × List UInt8)) (Bk : Assn), R.length = 10 ∧ RowsOf has R ∧ Keeps Bk R ∧ JW 10 200 (B + 20) K D has ∧
    Sat wr (sl 51 1 u14 10 (R.map Prod.fst) * (Bk * (jrA kj d K * (devA S d D * (pool S * (pt sb OS * whole w)))))) ∧ Side w wr
def G3Rel (kj d sb B : Nat) (sq : Int) (OS : Obj) (w : World) (u14 u20 : Value) (wr : World) : Prop :=
  ∃ (i : Nat) (S : Hp) (K : Jr) (D : Dev) (has : Has) (R : List (Value × List UInt8)) (Bk : Assn), i ≤ 10 ∧ u20 = .int .i64 (i : Int) ∧ R.length = 10 ∧ RowsOf has R ∧ Keeps Bk R ∧ JW 10 200 (B + i) K D has ∧ sq ≤ K.sq ∧
    Sat wr (sl 51 1 u14 10 (R.map Prod.fst) * (Bk * (jrA kj d K * (devA S d D * (pool S * (pt sb OS * whole w)))))) ∧ Side w wr
def G3Out (kj d sb B : Nat) (sq : Int) (OS : Obj) (w : World) (u14 : Value) (wr : World) : Prop :=
  ∃ (S : Hp) (K : Jr) (D : Dev) (has : Has) (R : List (Value × List UInt8)) (Bk : Assn), R.length = 10 ∧ RowsOf has R ∧ Keeps Bk R ∧ JW 10 200 (B + 10) K D has ∧ sq ≤ K.sq ∧
    Sat wr (sl 51 1 u14 10 (R.map Prod.fst) * (Bk * (jrA kj d K * (devA S d D * (pool S * (pt sb OS * whole w)))))) ∧ Side w wr
def G4Rel (hg cap : Nat) (R : List (Value × List UInt8)) (L : Wo) (Y : Assn) (w : World) (u23 : Value) (wr : World) : Prop :=
  ∃ (n : Nat) (cur : Array Value), n ≤ L.length ∧ u23 = .int .i64 (n : Int) ∧ cur.size = cap ∧ cur.toList.take 10 = (updR R L n).map Prod.fst ∧ Sat wr (pt hg (.cells cur 51 (0, 0)) * Y) ∧ Side w wr
def wrsSl (wb wcp : Nat) (L : Wo) : Assn := sl 53 2 (.slice (some ⟨wb, 0, none⟩) L.length wcp) L.length (SL.flatW L.wr)
def G5Out (Y : Assn) (w wr : World) : Prop := Sat wr Y ∧ Side w wr
def G5Rel (kj d B : Nat) (K : Jr) (has : Has) (Y : Assn) (w : World) (u25 : Value) (wr : World) : Prop :=
  ∃ (i : Nat) (S : Hp) (D : Dev), i ≤ 10 ∧ u25 = .int .i64 (i : Int) ∧ JW 10 200 (B + i) K D has ∧ Sat wr (jrA kj d K * (devA S d D * (pool S * Y))) ∧ Side w wr
theorem keeps_updR {Bk : Assn} {R : List (Value × List UInt8)} (hBk : Keeps Bk R) {L : Wo} (h480 : ∀ x ∈ L, x.2.2.length = 480) : ∀ n, n ≤ L.length → Keeps (Bk * blksA (L.map fun x => (x.1, x.2.2))) (updR R L n) := by
  intro n
  induction n with
  | zero => intro _; exact hBk.more _
  | succ n ih =>
    intro hn
    have hn' : n < L.length := by omega
    rw [updR_succ R L hn']
    refine (ih (by omega)).set _ _ _ fun X w hs => ?_
    exact blks_rd (p := (L[n].1, L[n].2.2)) (hs.to (by ac_rfl : _ = blksA (L.map fun x => (x.1, x.2.2)) * (Bk * X))) (List.mem_map.2 ⟨L[n], List.getElem_mem hn', rfl⟩) (h480 _ (List.getElem_mem hn'))
set_option maxRecDepth 100000 in
set_option maxHeartbeats 4000000 in
theorem goes_any (a0 : Option Addr) (len0 cap0 : Nat) (X : Nat → StepV) (a1 : Option Addr) (len1 cap1 : Nat) (Y : Nat → StepV) (w : World) (hX : IsSteps w a0 len0 cap0 X) (hz : IsSteps w a1 len1 cap1 Y) :
    Calls Try.prog 5 #[.slice a0 len0 cap0, .slice a1 len1 cap1] w (ShownQ w) := by
  have hlen0 := hX.len_le
  have hlen1 := hz.len_le
  have HX := SL.hid hX; have Hz := SL.hid hz; clear hX hz
  go_enter Try.func5, Try.ntmps5
  go_wp2_with fail
  refine (shown_any w).mono ?_
  rintro e w1 ⟨rfl, h1, d1⟩
  go_wp2_with fail
  refine (new_any 201 (by decide) (by decide) w1).mono ?_
  rintro e w2 ⟨d, rfl, h2, d2⟩
  have H2 := (h2 NoB).under h1
  clear h2 h1
  go_wp2_with fail
  refine (fresh_any 10 (by decide) w2).mono ?_
  rintro e w3 ⟨a, rfl, h3, d3⟩
  have H3 := h3.under H2
  clear h3 H2
  have hnew : Calls Try.prog 14 #[ptV d, .int .i64 200, (freshS 10).v a] w3 (JNewQ d (J0 200 10) w3) := jfresh_any w3 NoB d (Dev.fresh 201) _ 10 200 a H3.front2 (rdI_sl (by rw [List.length_replicate]; exact H3)) (by decide) (by decide) (by decide) (by decide) (by rw [devLen]; decide) (by rw [devLen]; decide)
  go_wp2_with fail
  (with_reducible refine hnew.mono ?_)
  rintro e w4 ⟨j, rfl, h4, d4⟩
  have H4 : Sat w4 (jrA j d (J0 200 10) * (devA NoB d (Dev.fresh 201) * (pool NoB * whole w))) := (h4.under H3.right.poolEmp).to (by ac_rfl)
  have D4 := ((d1.trans d2).trans d3).trans d4
  clear h4 H3 hnew d1 d2 d3 d4
  go_upto_block 0 with (fail)
  go_cut [10] from 51 to 67 (fun _ wx => S1Out j d w wx)
  case first =>
   go_wp2_with fail
   go_loopw [10] (fun u wr => S1Rel 30 j d 0 w u wr) (fun u _ => 30 - (intOf u).toNat)
   case atStart => exact ⟨0, NoB, _, _, _, Nat.zero_le _, rfl, jw_fresh (by decide) (by decide) (by decide) (by decide), H4, D4⟩
   case round =>
     clear H4 D4
     obtain ⟨i, S, J, D, has, hi, rfl, hW, hsat, hside⟩ := hrel
     have hi' : (i : Int) ≤ 30 := by omega
     by_cases hlt : i < len0 ∧ i < 30
     · obtain ⟨hlt, h30⟩ := hlt
       have hlt' : (i : Int) < (len0 : Int) := by omega
       have h30' : (i : Int) < 30 := by omega
       obtain ⟨b, off, rfl, c0, c1, c2, c3, hlc, hcap⟩ := HX.out.cell hlt
       have hold : ∀ {ad : Addr} {u : Value}, w.cell? ad = some u → wr.cell? ad = some u := fun hc => (hsat.to (by ac_rfl : _ = (jrA j d J * (devA S d D * pool S)) * whole w)).cellOld hc
       have c0' := hold c0
       have c1' := hold c1
       have c2' := hold c2
       have c3' := c3.keep fun _ _ => hold
       have hwr := writes_any wr (X i) c3' (if (X i).len < 30 then (X i).len else 30) rfl
       unfold StepV.v at hwr
       have HW := SL.hid hW; have HS := SL.hid hsat
       clear c0 c1 c2 c3 c3' hold hW hsat
       generalize X i = x at *
       obtain ⟨xa, xl, xc, xz, xd, xn⟩ := x
       dsimp only at c0' c1' c2' hwr
       go_wp2_with fail
       (with_reducible refine hwr.mono ?_)
       rintro e w5 ⟨v, L, rfl, hL, h5, d5⟩
       have H5 := h5.under HS.out
       have h480 := stepW_480 _ _ _ hL
       have hLl : L.length ≤ 1000 := by have := Wo.len hL; split at this <;> omega
       have hcm := cany_any w5 S j d J D (whole w) v L has (H5.to (by ac_rfl)) HW.out (by decide) (by omega) h480 hLl
       have D5 := hside.trans d5
       clear hwr h5 d5 HS H5 h480 hLl hL c0' c1' c2' hside HW
       go_wp2_with fail
       (with_reducible refine hcm.mono ?_)
       rintro e w6 ⟨S6, J6, D6, has6, rc, E6, rfl, h6, d6, hW6⟩
       have H6 := SL.hid ((h6.to (by ac_rfl : _ = wrsA v L * (jrA j d J6 * (devA S6 d D6 * (pool S6 * whole w))))).right)
       have DD := SL.hid (D5.trans d6)
       have HW6 := SL.hid hW6
       clear hcm h6 d6 D5 hW6
       go_wp2
       go_roundw
       case rel => exact ⟨i + 1, S6, J6, D6, has6, by omega, by go_num, HW6.out, H6.out, DD.out⟩
       case measure => simp [intOf]; omega
     · have hd : (decide ((i : Int) < (len0 : Int)) && decide ((i : Int) < 30)) = false := by
         rw [Bool.and_eq_false_iff]
         by_cases h : i < len0
         · exact .inr (by simp; omega)
         · exact .inl (by simp; omega)
       have HS := SL.hid hsat
       clear hsat
       have fin : S1Out j d w wr := ⟨30, S, J, D, has, by omega, jw_more hW (by omega), HS.out, hside⟩
       have Hfin := SL.hid fin
       by_cases hl : i < len0
       · have hl' : (i : Int) < (len0 : Int) := by omega
         obtain rfl : i = 30 := by omega
         clear fin hW
         go_wp2_with fail
         go_meet
         exact Hfin.out
       · have hl' : ¬ (i : Int) < (len0 : Int) := by omega
         clear fin hW
         go_wp2_with fail
         go_meet
         exact Hfin.out
  case rest =>
    obtain ⟨B, S, J, D, has, hB, hW, hsat, hside⟩ := hcut
    have hn10 : J.T.ps.length = 10 := by have := hW.inv.ok.ps; rw [hW.jn] at this; omega
    have hats : (Jr.ats J).length = 10 := by unfold Jr.ats; rw [List.length_map, List.length_range, hn10]
    have hst := state_any wc j d J _ hsat hW.inv.ok
    have e11 : ∀ ag, (Jr.js J).v (.slice (some ⟨ag, 0, none⟩) J.T.ps.length J.T.ps.length) = .agg #[.int .u32 J.ep, .int .u64 J.st, .int .u64 J.sq, .int .i64 J.hd, .int .i64 J.us, .slice (some ⟨ag, 0, none⟩) 10 10] := fun ag => by rw [hn10]; rfl
    have HA := SL.hid hats
    have Hn10 := SL.hid hn10
    clear hats hn10
    go_wp2_with fail
    (with_reducible refine hst.mono ?_)
    rintro e w5 ⟨ag, rfl, h5, d5⟩
    rw [e11]
    have H5 := h5.alloc (.cells #[.int .u32 J.ep, .int .u64 J.st, .int .u64 J.sq, .int .i64 J.hd, .int .i64 J.us, .slice (some ⟨ag, 0, none⟩) 10 10] 26 (0, 0))
    have D5 := (hside.trans d5).alloc (.cells #[.int .u32 J.ep, .int .u64 J.st, .int .u64 J.sq, .int .i64 J.hd, .int .i64 J.us, .slice (some ⟨ag, 0, none⟩) 10 10] 26 (0, 0))
    clear hst h5 d5 hside hsat
    have hnew : ∀ w' F, Sat w' (pt ag (.cells (ints (Jr.ats J)) 3 (0, 0)) * (devA S d D * F)) → Calls Try.prog 14 #[ptV d, .int .i64 200, .agg #[.int .u32 J.ep, .int .u64 J.st, .int .u64 J.sq, .int .i64 J.hd, .int .i64 J.us, .slice (some ⟨ag, 0, none⟩) 10 10]] w' (JNewQ d (Jr.ofS 200 (Jr.js J)) w') := fun w' F h' => by
      rw [← e11 ag]
      have hr := state_right hW.inv (by rw [hW.jn]; decide)
      rw [hW.jP] at hr
      have hsec := hW.inv.sec
      rw [hW.jP] at hsec
      exact jnew_any w' S d D _ h'.front2 200 (Jr.js J) _ (.inr ⟨ag, 0, 10, by rw [Hn10.out, show (Jr.js J).at_ = Jr.ats J from rfl, HA.out], by rw [show (Jr.js J).at_ = Jr.ats J from rfl, HA.out]; exact Nat.le_refl _, by unfold maxLen; omega, fun k hk => by
        rw [Nat.zero_add]; exact (h'.cell k).trans (get_ints_lt hk)⟩) (by decide) (by decide) (by omega) (by have := hW.inv.dok.n; omega) hW.inv.nums.sq0 hr
    clear e11
    have hwk := jw_made hW (by decide)
    obtain ⟨K, hK⟩ : ∃ K, K = Jr.ofS 200 (Jr.js J) := ⟨_, rfl⟩
    have hrm : ¬ ((K.P : Int) - K.us - K.fr < (J.P : Int) - J.us - J.fr) := by
      have := hW.inv.ok.fr0
      rw [hK, hW.jP]
      show ¬ ((200 : Nat) : Int) - J.us - 0 < _
      omega
    have hsq : Hid (J.sq = K.sq) := by rw [hK]; exact SL.hid rfl
    rw [← hK] at hwk hnew
    have Hrm := SL.hid hrm
    clear hrm
    have HK := SL.hid hK
    clear hK
    go_wp2_with fail
    generalize w5.alloc (.cells #[.int .u32 J.ep, .int .u64 J.st, .int .u64 J.sq, .int .i64 J.hd, .int .i64 J.us, .slice (some ⟨ag, 0, none⟩) 10 10] 26 (0, 0)) = w6 at H5 D5 ⊢
    generalize w5.heap.size = sb at H5 ⊢
    obtain ⟨OS, hOS⟩ : ∃ o, o = Obj.cells #[.int .u32 J.ep, .int .u64 J.st, .int .u64 J.sq, .int .i64 J.hd, .int .i64 J.us, .slice (some ⟨ag, 0, none⟩) 10 10] 26 (0, 0) := ⟨_, rfl⟩
    rw [← hOS] at H5
    have hnw := hnew w6 _ (H5.to (by ac_rfl : _ = pt ag (.cells (ints (Jr.ats J)) 3 (0, 0)) * (devA S d D * (pt sb OS * (jrA j d J * (pool S * whole w))))))
    have HOS := SL.hid hOS
    clear hnew hOS
    (with_reducible refine hnw.mono ?_)
    rintro e w7 ⟨kj, rfl, h7, d7⟩
    have H7 := h7.under H5
    have D7 := D5.trans d7
    have hr1 := room_any w7 kj d K _ H7 hwk.inv.ok
    have hr2 := fun w' F (h' : Sat w' (jrA j d J * F)) => room_any w' j d J F h' hW.inv.ok
    obtain ⟨rk, hrk⟩ : ∃ x, x = (K.P : Int) - K.us - K.fr := ⟨_, rfl⟩
    obtain ⟨rj, hrj⟩ : ∃ x, x = (J.P : Int) - J.us - J.fr := ⟨_, rfl⟩
    have hrm := Hrm.out
    rw [← hrk] at hr1 hrm
    rw [← hrj] at hr2 hrm
    have hrd : decide (rk < rj) = false := by simpa using hrm
    clear hrm
    have Hr2 := SL.hid hr2
    clear hnw h7 d7 H5 D5 hrk hrj hr2
    go_wp2_with fail
    (with_reducible refine hr1.mono ?_)
    rintro e w8 ⟨rfl, h8, d8⟩
    have H8 := h8.keepW H7
    have D8 := D7.trans d8
    have hr3 := Hr2.out w8 _ (H8.to (by ac_rfl : _ = jrA j d J * (jrA kj d K * (pt sb OS * (pt ag (.cells (ints (Jr.ats J)) 3 (0, 0)) * (devA S d D * (pool S * whole w)))))))
    clear h8 d8 H7 D7 hr1
    go_wp2_with fail
    (with_reducible refine hr3.mono ?_)
    rintro e w9 ⟨rfl, h9, d9⟩
    have H9 : Sat w9 (jrA kj d K * (jrA j d J * (devA S d D * (pool S * (pt sb OS * whole w))))) := ((h9.keepW H8).to (by ac_rfl : _ = pt ag (.cells (ints (Jr.ats J)) 3 (0, 0)) * (jrA kj d K * (jrA j d J * (devA S d D * (pool S * (pt sb OS * whole w))))))).right
    have D9 := D8.trans d9
    clear h9 d9 H8 D8 hr3
    go_upto_block 2 with (fail)
    go_cut [14] from 89 to 121 (fun u14 wx => G2Out kj d sb B OS K has w u14 wx)
    case first =>
      go_wp2_with fail
      go_loopw [14, 15] (fun u14 u15 wr => G2Rel j kj d sb B OS J K has w u14 u15 wr) (fun _ u _ => 10 - (intOf u).toNat)
      case atStart => exact ⟨0, S, D, [], emp, Nat.zero_le _, rfl, rfl, fun k p h => by (simp at h), Keeps.nil, hW, hwk, (by rw [emp_star]; exact H9.slNil _ _), D9⟩
      case round =>
        clear H9 D9
        obtain ⟨i, S5, D5, R, Bk, hi, rfl, hRl, hR, hBk, hJ5, hK5, hsat, hside⟩ := hrel
        have hi' : (i : Int) ≤ 10 := by omega
        by_cases hlt : i < 10
        · have hlt' : (i : Int) < 10 := by omega
          obtain ⟨a14, c14, rfl⟩ := sl_shape hsat
          have hrd := jreadC_any wr S5 j d J D5 (sl 51 1 (.slice a14 i c14) i (R.map Prod.fst) * (Bk * (jrA kj d K * (pt sb OS * whole w)))) has (hsat.to (by ac_rfl)) hJ5 (by omega) (id := (i : Int)) (by omega) (by omega)
          clear hsat hlt hi
          go_wp2_with fail
          (with_reducible refine hrd.mono ?_)
          rintro e w10 ⟨dv, r, rfl, h10, d10, r1, r2⟩
          have hJ6 := jw_cr hJ5 r1 r2
          have hK6 := jw_cr hK5 r1 r2
          have hrd2 := jreadC_any w10 S5 kj d K _ (bs 5 dv ((has (i : Int)).getD (zs 480)) * (jrA j d J * (sl 51 1 (.slice a14 i c14) i (R.map Prod.fst) * (Bk * (pt sb OS * whole w))))) has (h10.to (by ac_rfl)) hK6 (by omega) (id := (i : Int)) (by omega) (by omega)
          have D10 := hside.trans d10
          clear hrd hJ5 hK5 h10 d10 hside
          go_wp2_with fail
          (with_reducible refine hrd2.mono ?_)
          rintro e w11 ⟨dv2, r', rfl, h11, d11, r3, r4⟩
          have hJ7 := SL.hid (jw_cr hJ6 r3 r4)
          have hK7 := SL.hid (jw_cr hK6 r3 r4)
          have c1 : (convert 51 9 dv2).run Try.prog w11 = .ok (.string (str ((has (i : Int)).getD (zs 480)))) w11 := run_text w11 dv2 _ h11.bsRd
          have H11 : Sat w11 (bs 5 dv ((has (i : Int)).getD (zs 480)) * (bs 5 dv2 ((has (i : Int)).getD (zs 480)) * (jrA kj d K * (devA S5 d { D5 with cr := r' } * (pool S5 * (jrA j d J * (sl 51 1 (.slice a14 i c14) i (R.map Prod.fst) * (Bk * (pt sb OS * whole w))))))))) := h11.to (by ac_rfl)
          have c2 : (convert 51 9 dv).run Try.prog w11 = .ok (.string (str ((has (i : Int)).getD (zs 480)))) w11 := run_text w11 dv _ H11.bsRd
          obtain ⟨l, hl⟩ : ∃ l, l = (has (i : Int)).getD (zs 480) := ⟨_, rfl⟩
          rw [← hl] at c1 c2
          have hdv : ∃ a c, dv = .slice a l.length c := by rw [hl]; exact sl_shape H11
          obtain ⟨da, dc, rfl⟩ := hdv
          have D11 := SL.hid (D10.trans d11)
          have Hs : Sat w11 (sl 51 1 (.slice a14 i c14) i (R.map Prod.fst) * (bs 5 (.slice da l.length dc) l * (Bk * (jrA kj d K * (jrA j d J * (devA S5 d { D5 with cr := r' } * (pool S5 * (pt sb OS * whole w)))))))) := by
            rw [← hl] at H11
            exact (H11.to (by ac_rfl : _ = bs 5 dv2 l * (sl 51 1 (.slice a14 i c14) i (R.map Prod.fst) * (bs 5 (.slice da l.length dc) l * (Bk * (jrA kj d K * (jrA j d J * (devA S5 d { D5 with cr := r' } * (pool S5 * (pt sb OS * whole w)))))))))).right
          obtain ⟨a15, c15, w12, hrun, h12, d12⟩ := append_row Hs (.slice da l.length dc) rfl (by omega)
          have H12 := SL.hid h12; have D12 := SL.hid (D11.out.trans d12); have Hl := SL.hid hl; have HBk := SL.hid hBk; have HR := SL.hid hR; have Hrun := SL.hid hrun
          clear hrd2 h11 d11 H11 h12 d12 hl Hs hrun hBk hR hJ6 hK6 D10 r1 r2 r3 r4
          go_wp2_with (at_builtin; refine wpList_append_run Hrun.out _ _ rfl rfl rfl rfl rfl ?_)
          go_roundw
          case rel =>
            refine ⟨i + 1, S5, { D5 with cr := r' }, R ++ [(.slice da l.length dc, l)], bs 5 (.slice da l.length dc) l * Bk, by omega, by go_num, by simp [hRl], ?_, HBk.out.snoc _ _ _, hJ7.out, hK7.out, ?_, D12.out⟩
            · have := HR.out.snoc (.slice da l.length dc)
              rw [hRl, ← Hl.out] at this
              exact this
            · rw [List.map_append]
              exact H12.out.to (by ac_rfl)
          case measure => simp [intOf]; omega
        · obtain rfl : i = 10 := by omega
          have hfin : G2Out kj d sb B OS K has w u14 wr := ⟨S5, D5, R, Bk, hRl, hR, hBk, hK5, (hsat.to (by ac_rfl : _ = jrA j d J * (sl 51 1 u14 10 (R.map Prod.fst) * (Bk * (jrA kj d K * (devA S5 d D5 * (pool S5 * (pt sb OS * whole w)))))))).right, hside⟩
          have Hfin := SL.hid hfin
          clear hsat hBk hR hside hfin hJ5 hK5
          go_wp2_with fail
          go_meet
          exact Hfin.out
    case rest =>
      clear H9 D9
      obtain ⟨S2, D2, R2, Bk2, hRl2, hR2, hBk2, hK2, hsat2, hside2⟩ := hcut
      go_upto_block 4 with (fail)
      go_cut [] from 122 to 159 (fun wx => G3Out kj d sb (B + 20) K.sq OS w u14 wx)
      case first =>
        go_wp2_with fail
        go_loopw [20] (fun u20 wr => G3Rel kj d sb (B + 20) K.sq OS w u14 u20 wr) (fun u _ => 10 - (intOf u).toNat)
        case atStart => exact ⟨0, S2, K, D2, has, R2, Bk2, Nat.zero_le _, rfl, hRl2, hR2, hBk2, hK2, Int.le_refl _, hsat2, hside2⟩
        case round =>
          clear hsat2 hside2 hR2 hBk2 hK2 hRl2
          obtain ⟨i, S, K5, D5, has5, R, Bk, hi, rfl, hRl, hR, hBk, hK5, hsq5, hsat, hside⟩ := hrel
          have hi' : (i : Int) ≤ 10 := by omega
          by_cases hlt : i < len1 ∧ i < 10
          · obtain ⟨hlt, h10⟩ := hlt
            have hlt' : (i : Int) < (len1 : Int) := by omega
            have h10' : (i : Int) < 10 := by omega
            obtain ⟨b, off, rfl, c0, c1, c2, c3, hlc, hcap⟩ := Hz.out.cell hlt
            have hold : ∀ {ad : Addr} {u : Value}, w.cell? ad = some u → wr.cell? ad = some u := fun hc => (hsat.to (by ac_rfl : _ = (sl 51 1 u14 10 (R.map Prod.fst) * (Bk * (jrA kj d K5 * (devA S d D5 * (pool S * pt sb OS))))) * whole w)).cellOld hc
            have c0' := hold c0
            have c1' := hold c1
            have c2' := hold c2
            have c3' := c3.keep fun _ _ => hold
            have hwr := writes_any wr (Y i) c3' (if (Y i).len < 30 then (Y i).len else 30) rfl
            unfold StepV.v at hwr
            have HK5 := SL.hid hK5; have HS := SL.hid hsat; have HR := SL.hid hR; have HBk := SL.hid hBk; have Hsq5 := SL.hid hsq5; have Hside := SL.hid hside
            clear c0 c1 c2 c3 c3' hold hK5 hsat hR hBk hsq5 hside
            generalize Y i = x at *
            obtain ⟨xa, xl, xc, xz, xd, xn⟩ := x
            dsimp only at c0' c1' c2' hwr
            go_wp2_with fail
            (with_reducible refine hwr.mono ?_)
            rintro e w5 ⟨v, L, rfl, hL, h5, d5⟩
            have H5 := h5.under HS.out
            have h480 := stepW_480 _ _ _ hL
            have hLl : L.length ≤ 30 := by have := Wo.len hL; split at this <;> omega
            have H5' : Sat w5 (jrA kj d K5 * (devA S d D5 * (pool S * (wrsA v L * (sl 51 1 u14 10 (R.map Prod.fst) * (Bk * (pt sb OS * whole w))))))) := H5.to (by ac_rfl)
            have D5' := Hside.out.trans d5
            clear hwr h5 d5 hL c0' c1' c2' H5
            by_cases hb : Batch ((10 : Nat) : Int) L.bl
            · have hcm := cyes_any w5 S kj d K5 D5 _ v L has5 H5' HK5.out (by decide) (by omega) h480 hb
              have Hb := SL.hid hb
              clear hb
              go_wp2_with fail
              (with_reducible refine hcm.mono ?_)
              rintro e w6 ⟨S6, K6, D6, E6, rfl, h6, d6, hK6, _, _, _, _, _, hsq6⟩
              have H6 : Sat w6 (wrsA v L * (sl 51 1 u14 10 (R.map Prod.fst) * (jrA kj d K6 * (devA S6 d D6 * (pool S6 * (Bk * (pt sb OS * whole w))))))) := h6.to (by ac_rfl)
              have D6' := D5'.trans d6
              have HK6 := SL.hid hK6
              have hl0 := Hb.out.n0
              rw [bl_len] at hl0
              obtain ⟨wb, wcp, rfl, hw1, hw2⟩ := wrsA_cells H6 (by omega)
              rcases H6.front2.slCases with ⟨_, h0, _⟩ | ⟨hg, cap, cur, rfl, h3, h4, h5, h6', hF⟩
              · omega
              have HF : Sat w6 (pt hg (.cells cur 51 (0, 0)) * (wrsA (.slice (some ⟨wb, 0, none⟩) L.length wcp) L * (jrA kj d K6 * (devA S6 d D6 * (pool S6 * (Bk * (pt sb OS * whole w))))))) := hF.to (by ac_rfl)
              have hcap10 : (10 : Int) ≤ (cap : Int) := by omega
              have hcapm : (cap : Int) ≤ 9223372036854775807 := by unfold maxLen at h4; omega
              have hwm : (wcp : Int) ≤ 9223372036854775807 := by unfold maxLen at hw2; omega
              have hwl : (L.length : Int) ≤ (wcp : Int) := by omega
              have hl30 : (L.length : Int) ≤ 30 := by omega
              obtain ⟨m, hm⟩ : ∃ m, m = L.length := ⟨_, rfl⟩
              have H5s := SL.hid h5; have H6s := SL.hid h6'; have HFh := SL.hid HF; have HD6 := SL.hid D6'; have Hsq6 := SL.hid hsq6
              obtain ⟨Yy, hYy⟩ : ∃ X, X = wrsA (.slice (some ⟨wb, 0, none⟩) L.length wcp) L * (jrA kj d K6 * (devA S6 d D6 * (pool S6 * (Bk * (pt sb OS * whole w))))) := ⟨_, rfl⟩
              have HYy := SL.hid hYy
              have Hm := SL.hid hm
              have h480' := SL.hid h480
              rw [← hm] at hwl hl30 ⊢
              clear hcm h6 d6 D5' hK6 hsq6 H5' H6 hF HF h5 h6' D6' h480 hLl hl0 hw1 hw2 hYy hm h3 h4
              go_wp2_with fail
              go_loopw [23] (fun u23 wr => G4Rel hg cap R L Yy w u23 wr) (fun u _ => m - (intOf u).toNat)
              case atStart => exact ⟨0, cur, Nat.zero_le _, rfl, (by have := H5s.out; omega), (by rw [H6s.out]; simp [updR]), (by rw [HYy.out]; exact HFh.out), HD6.out⟩
              case round =>
                clear H5s H6s HFh HD6
                obtain ⟨n, cur', hn, rfl, hsz, htk, hs4, hd4⟩ := hrel
                rw [← Hm.out] at hn
                by_cases hnl : n < m
                · have hnl' : (n : Int) < (m : Int) := by omega
                  have hnL : n < L.length := by rw [← Hm.out]; exact hnl
                  have hid := Hb.out.id (L[n].2.1, L[n].2.2) (List.mem_map.2 ⟨L[n], List.getElem_mem hnL, rfl⟩)
                  have hs4' : Sat wr (wrsA (.slice (some ⟨wb, 0, none⟩) L.length wcp) L * (pt hg (.cells cur' 51 (0, 0)) * (jrA kj d K6 * (devA S6 d D6 * (pool S6 * (Bk * (pt sb OS * whole w))))))) := hs4.to (by rw [HYy.out]; ac_rfl)
                  obtain ⟨q1, q2⟩ := wrsA_cell hs4' hnL
                  obtain ⟨id, hid2⟩ : ∃ k : Nat, L[n].2.1 = (k : Int) := Int.eq_ofNat_of_zero_le hid.1
                  rw [hid2] at q1 hid
                  have hid10 : (id : Int) < 10 := hid.2
                  have hid10' : id < 10 := by omega
                  have hcellold : ∃ u, cur'[id]? = some u := by
                    have : id < cur'.size := by omega
                    exact ⟨_, Array.getElem?_eq_getElem this⟩
                  obtain ⟨uo, huo⟩ := hcellold
                  have q3 : wr.cell? ⟨hg, id, none⟩ = some uo := (hs4.cell id).trans huo
                  have q4 : wr.frozen? ⟨hg, id, none⟩ = false := hs4.frozen id
                  have hset := hs4.setCell id (.slice (some ⟨L[n].1, 0, none⟩) 480 480)
                  have htk2 : (cur'.setIfInBounds id (.slice (some ⟨L[n].1, 0, none⟩) 480 480)).toList.take 10 = (updR R L (n + 1)).map Prod.fst := by
                    rw [updR_succ R L hnL, List.map_set, ← htk, hid2]
                    simp [List.take_set]
                  have Hset := SL.hid hset; have Htk2 := SL.hid htk2; have Hsz := SL.hid hsz; have Hd4 := SL.hid hd4
                  obtain ⟨g, hg1⟩ : ∃ g, g = L[n].1 := ⟨_, rfl⟩
                  rw [← hg1] at q2 Hset Htk2
                  have S8 : Sat wr Yy := hs4.right
                  have S9 := Hset.out.right
                  have S8d := S8.drew
                  have S9d := S9.drew
                  have gb1 : ∀ w', Sat w' Yy → w'.cell? ⟨wb, n * 2, none⟩ = some (.int .i64 (id : Int)) := fun w' h => by
                    rw [HYy.out] at h
                    rw [← hid2]; exact (wrsA_cell h hnL).1
                  have gb2 : ∀ w', Sat w' Yy → w'.cell? ⟨wb, n * 2 + 1, none⟩ = some (.slice (some ⟨g, 0, none⟩) 480 480) := fun w' h => by
                    rw [HYy.out] at h
                    rw [hg1]; exact (wrsA_cell h hnL).2
                  clear hs4 hs4' hset htk2 hsz hd4 htk hid hid2 huo hg1 q1 q2
                  go_wp2_with fail
                  go_region_held3 (fun w' => Sat w' Yy) (first | (with_reducible exact S8) | (with_reducible exact S9) | (with_reducible exact S9d) | (with_reducible exact S8d)) (fail)
                  go_wp2
                  go_roundw
                  case rel => exact ⟨n + 1, cur'.setIfInBounds id (.slice (some ⟨g, 0, none⟩) 480 480), by rw [← Hm.out]; omega, by go_num, by rw [Array.size_setIfInBounds]; exact Hsz.out, Htk2.out, Hset.out.drew, (Hd4.out.setCell _ _).drew⟩
                  case measure => simp [intOf]; omega
                · obtain rfl : n = m := by omega
                  have hrows := updR_rows HR.out Hb.out L.length (Nat.le_refl _)
                  rw [← bl_len, List.take_length, bl_len] at hrows
                  have hlen := updR_len R L L.length (Nat.le_refl _)
                  rw [Hm.out] at htk
                  have hsl := Sat.slOf (n := 10) (sz := 1) (cap := cap) hs4 (by omega) (by unfold maxLen; omega) (by omega)
                  rw [Nat.mul_one, htk, HYy.out] at hsl
                  have hs5 : Sat wr (wrsSl wb wcp L * (sl 51 1 (.slice (some ⟨hg, 0, none⟩) 10 cap) 10 ((updR R L L.length).map Prod.fst) * ((Bk * blksA (L.map fun x => (x.1, x.2.2))) * (jrA kj d K6 * (devA S6 d D6 * (pool S6 * (pt sb OS * whole w))))))) := hsl.to (by unfold wrsA wrsSl; ac_rfl)
                  have HS5 := SL.hid hs5.right; have Hrows := SL.hid hrows; have Hlen := SL.hid (hlen.trans hRl); have Hd4 := SL.hid hd4
                  have HKB := SL.hid (keeps_updR HBk.out h480'.out L.length (Nat.le_refl _))
                  clear hs4 hs5 hsl hrows hlen htk hsz hd4
                  go_wp2
                  go_roundw
                  case rel => exact ⟨i + 1, S6, K6, D6, updB has5 L.bl, updR R L L.length, Bk * blksA (L.map fun x => (x.1, x.2.2)), by omega, by go_num, Hlen.out, Hrows.out, HKB.out, jw_more HK6.out (by omega), Int.le_trans Hsq5.out Hsq6.out, HS5.out, Hd4.out⟩
                  case measure => simp [intOf]; omega
            · have hcm := cno_any w5 S kj d K5 D5 _ v L has5 H5' HK5.out h480 (by omega) hb
              clear hb
              go_wp2_with fail
              (with_reducible refine hcm.mono ?_)
              rintro e w6 ⟨S6, E6, rfl, h6, d6⟩
              have H6 : Sat w6 (wrsA v L * (sl 51 1 u14 10 (R.map Prod.fst) * (Bk * (jrA kj d K5 * (devA S6 d D5 * (pool S6 * (pt sb OS * whole w))))))) := h6.to (by ac_rfl)
              have HH6 := SL.hid H6.right; have HD6 := SL.hid (D5'.trans d6)
              clear hcm h6 d6 H6 H5' D5' h480 hLl
              go_wp2
              go_roundw
              case rel => exact ⟨i + 1, S6, K5, D5, has5, R, Bk, by omega, by go_num, hRl, HR.out, HBk.out, jw_more HK5.out (by omega), Hsq5.out, HH6.out, HD6.out⟩
              case measure => simp [intOf]; omega
          · have hd : (decide ((i : Int) < (len1 : Int)) && decide ((i : Int) < 10)) = false := by
              rw [Bool.and_eq_false_iff]
              by_cases h : i < len1
              · exact .inr (by simp; omega)
              · exact .inl (by simp; omega)
            have fin : G3Out kj d sb (B + 20) K.sq OS w u14 wr := ⟨S, K5, D5, has5, R, Bk, hRl, hR, hBk, jw_more hK5 (by omega), hsq5, hsat, hside⟩
            have Hfin := SL.hid fin
            clear fin hsat hside hK5 hR hBk hsq5
            by_cases hl : i < len1
            · have hl' : (i : Int) < (len1 : Int) := by omega
              obtain rfl : i = 10 := by omega
              go_wp2_with fail
              go_meet
              exact Hfin.out
            · have hl' : ¬ (i : Int) < (len1 : Int) := by omega
              go_wp2_with fail
              go_meet
              exact Hfin.out
      case rest =>
        clear hsat2 hside2 hR2 hBk2 hK2 hRl2
        obtain ⟨S3, K3, D3, has3, R3, Bk3, hRl, hR, hBk, hK3, hsq3, hsat, hside⟩ := hcut
        have hn10 : K3.T.ps.length = 10 := by have := hK3.inv.ok.ps; rw [hK3.jn] at this; omega
        have hats : (Jr.ats K3).length = 10 := by unfold Jr.ats; rw [List.length_map, List.length_range, hn10]
        have hst := state_any wc kj d K3 _ (hsat.to (by ac_rfl : _ = jrA kj d K3 * (sl 51 1 u14 10 (R3.map Prod.fst) * (Bk3 * (devA S3 d D3 * (pool S3 * (pt sb OS * whole w))))))) hK3.inv.ok
        have e11 : ∀ ag, (Jr.js K3).v (.slice (some ⟨ag, 0, none⟩) K3.T.ps.length K3.T.ps.length) = .agg #[.int .u32 K3.ep, .int .u64 K3.st, .int .u64 K3.sq, .int .i64 K3.hd, .int .i64 K3.us, .slice (some ⟨ag, 0, none⟩) 10 10] := fun ag => by rw [hn10]; rfl
        clear hats hn10
        have HE11 := SL.hid e11
        clear e11
        go_wp2_with fail
        (with_reducible refine hst.mono ?_)
        rintro e w5 ⟨ag2, rfl, h5, d5⟩
        rw [HE11.out]
        have H5 := h5.alloc (.cells #[.int .u32 K3.ep, .int .u64 K3.st, .int .u64 K3.sq, .int .i64 K3.hd, .int .i64 K3.us, .slice (some ⟨ag2, 0, none⟩) 10 10] 26 (0, 0))
        have D5 := (hside.trans d5).alloc (.cells #[.int .u32 K3.ep, .int .u64 K3.st, .int .u64 K3.sq, .int .i64 K3.hd, .int .i64 K3.us, .slice (some ⟨ag2, 0, none⟩) 10 10] 26 (0, 0))
        clear hst h5 d5 hside hsat
        go_upto_block 8 with (fail)
        generalize w5.alloc (.cells #[.int .u32 K3.ep, .int .u64 K3.st, .int .u64 K3.sq, .int .i64 K3.hd, .int .i64 K3.us, .slice (some ⟨ag2, 0, none⟩) 10 10] 26 (0, 0)) = w6 at H5 D5 ⊢
        generalize w5.heap.size = sb2 at H5 ⊢
        obtain ⟨O2, hO2⟩ : ∃ o, o = Obj.cells #[.int .u32 K3.ep, .int .u64 K3.st, .int .u64 K3.sq, .int .i64 K3.hd, .int .i64 K3.us, .slice (some ⟨ag2, 0, none⟩) 10 10] 26 (0, 0) := ⟨_, rfl⟩
        rw [← hO2] at H5
        have H6 : Sat w6 (sl 51 1 u14 10 (R3.map Prod.fst) * (pt ag2 (.cells (ints (Jr.ats K3)) 3 (0, 0)) * (Bk3 * (jrA kj d K3 * (devA S3 d D3 * (pool S3 * (pt sb2 O2 * (pt sb OS * whole w)))))))) := H5.to (by ac_rfl)
        rcases H6.slCases with ⟨_, h0, _⟩ | ⟨hg, cap, cur, rfl, h3, h4, h5, h6', hF⟩
        · omega
        obtain ⟨Y, hY⟩ : ∃ X, X = pt hg (.cells cur 51 (0, 0)) * (Bk3 * (pt sb2 O2 * (pt sb OS * whole w))) := ⟨_, rfl⟩
        have H7 : Sat w6 (jrA kj d K3 * (devA S3 d D3 * (pool S3 * Y))) := (hF.to (by rw [hY]; ac_rfl : _ = pt ag2 (.cells (ints (Jr.ats K3)) 3 (0, 0)) * (jrA kj d K3 * (devA S3 d D3 * (pool S3 * Y))))).right
        have hcap10 : (10 : Int) ≤ (cap : Int) := by omega
        have hcapm : (cap : Int) ≤ 9223372036854775807 := by unfold maxLen at h4; omega
        have hcell : ∀ k, (hk : k < R3.length) → cur[k]? = some R3[k].1 := fun k hk => by
          have := congrArg (·[k]?) h6'
          simp only [List.getElem?_take, Array.getElem?_toList, List.getElem?_map] at this
          rw [if_pos (by omega), List.getElem?_eq_getElem hk] at this
          exact this
        have HY := SL.hid hY; have HO2 := SL.hid hO2; have Hcell := SL.hid hcell; have HR := SL.hid hR; have HBk := SL.hid hBk; have HRl := SL.hid hRl
        clear H5 H6 hF h5 h6' h3 h4 hY hO2 hcell hR hBk hRl
        go_cut [] from 162 to 183 (fun wx => G5Out Y w wx)
        case first =>
          go_wp2_with fail
          go_loopw [25] (fun u25 wr => G5Rel kj d (B + 30) K3 has3 Y w u25 wr) (fun u _ => 10 - (intOf u).toNat)
          case atStart => exact ⟨0, S3, D3, Nat.zero_le _, rfl, hK3, H7, D5⟩
          case round =>
            clear H7 D5
            obtain ⟨i, S, D4, hi, rfl, hK4, hsat, hside⟩ := hrel
            by_cases hlt : i < 10
            · have hlt' : (i : Int) < 10 := by omega
              have hrd := jreadC_any wr S kj d K3 D4 Y has3 hsat hK4 (by omega) (id := (i : Int)) (by omega) (by omega)
              have HK4 := SL.hid hK4; have Hside := SL.hid hside
              clear hsat hK4 hside
              go_wp2_with fail
              (with_reducible refine hrd.mono ?_)
              rintro e w10 ⟨dv, r, rfl, h10, d10, r1, r2⟩
              have hiR : i < R3.length := by rw [HRl.out]; exact hlt
              have hrow := HR.out i R3[i] (List.getElem?_eq_getElem hiR)
              obtain ⟨l, hl⟩ : ∃ l, l = (has3 (i : Int)).getD (zs 480) := ⟨_, rfl⟩
              rw [← hl] at h10 hrow
              obtain ⟨BIG, hBIG⟩ : ∃ X, X = bs 5 dv l * (jrA kj d K3 * (devA S d { D4 with cr := r } * (pool S * Y))) := ⟨_, rfl⟩
              have H10 : Sat w10 BIG := hBIG ▸ h10
              have HB := SL.hid hBIG
              obtain ⟨xv, hxv⟩ : ∃ x, x = R3[i].1 := ⟨_, rfl⟩
              have cx : ∀ w', Sat w' BIG → (convert 51 9 dv).run Try.prog w' = .ok (.string (str l)) w' := fun w' h => run_text w' dv _ (HB.out ▸ h).bsRd
              have cy : ∀ w', Sat w' BIG → (convert 51 9 xv).run Try.prog w' = .ok (.string (str l)) w' := fun w' h => by
                have h' : Sat w' (Bk3 * (bs 5 dv l * (jrA kj d K3 * (devA S d { D4 with cr := r } * (pool S * (pt hg (.cells cur 51 (0, 0)) * (pt sb2 O2 * (pt sb OS * whole w)))))))) := h.to (by rw [HB.out, HY.out]; ac_rfl)
                have := HBk.out.get h' hiR
                rw [hrow, ← hxv] at this
                exact run_text w' xv _ this
              have cz : ∀ w', Sat w' BIG → w'.cell? ⟨hg, i, none⟩ = some xv := fun w' h => by
                have h' : Sat w' (pt hg (.cells cur 51 (0, 0)) * (bs 5 dv l * (jrA kj d K3 * (devA S d { D4 with cr := r } * (pool S * (Bk3 * (pt sb2 O2 * (pt sb OS * whole w)))))))) := h.to (by rw [HB.out, HY.out]; ac_rfl)
                rw [hxv]; exact (h'.cell i).trans (Hcell.out i hiR)
              have HJ := SL.hid (jw_cr HK4.out r1 r2)
              have HD := SL.hid (Hside.out.trans d10)
              clear hrd h10 d10 r1 r2 hrow hl hBIG hxv hiR
              go_wp2_with fail
              go_region_held (fun w' => Sat w' BIG) (first | assumption | exact H10.drew) (fail)
              all_goals
                go_wp2
                go_roundw
                case rel => exact ⟨i + 1, S, { D4 with cr := r }, by omega, by go_num, HJ.out, (HB.out ▸ H10.drew : Sat _ (bs 5 dv l * (jrA kj d K3 * (devA S d { D4 with cr := r } * (pool S * Y))))).right, HD.out.drew⟩
                case measure => simp [intOf]; omega
            · obtain rfl : i = 10 := by omega
              have fin : G5Out Y w wr := ⟨hsat.right.right.right, hside⟩
              have Hfin := SL.hid fin
              clear fin hsat hside hK4
              go_wp2_with fail
              go_meet
              exact Hfin.out
        case rest =>
          clear H7 D5
          obtain ⟨hsat, hside⟩ := hcut
          rw [HY.out, HO2.out, HOS.out] at hsat
          have y0 : wc.cell? ⟨sb2, 0, none⟩ = some (.int .u32 K3.ep) := hsat.front3.cell 0
          have y1 : wc.cell? ⟨sb2, 1, none⟩ = some (.int .u64 K3.st) := hsat.front3.cell 1
          have y2 : wc.cell? ⟨sb2, 2, none⟩ = some (.int .u64 K3.sq) := hsat.front3.cell 2
          have z0 : wc.cell? ⟨sb, 0, none⟩ = some (.int .u32 J.ep) := hsat.front4.cell 0
          have z1 : wc.cell? ⟨sb, 1, none⟩ = some (.int .u64 J.st) := hsat.front4.cell 1
          have z2 : wc.cell? ⟨sb, 2, none⟩ = some (.int .u64 J.sq) := hsat.front4.cell 2
          rw [hK3.ep] at y0
          rw [hK3.st] at y1
          rw [hW.ep] at z0
          rw [hW.st] at z1
          have hge : J.sq ≤ K3.sq := by rw [hsq.out]; exact hsq3
          have Hs := SL.hid hsat.right.right.right.right; have Hd := SL.hid hside
          clear hsat hside
          generalize K3.sq = s1 at y2 hge
          generalize J.sq = s2 at z2 hge
          go_wp2
          go_ret
          exact ⟨rfl, Hs.out, Hd.out⟩
end Go.Proofs.Ytlfooilcngjeiaa

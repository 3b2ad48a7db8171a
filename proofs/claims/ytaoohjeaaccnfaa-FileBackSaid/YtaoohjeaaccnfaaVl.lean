/- FileBack: the walk. -/
import Derived.Test.YtaoohjeaaccnfaaVj
import Derived.Deep.DeepCutAuto
import Derived.Deep.CutBlock
import Derived.Deep.CutRange
namespace Go.SL
set_option linter.unusedVariables false
set_option linter.unusedSimpArgs false
theorem countP_win {p : Nat → Bool} {lo c : Nat} (h : ∀ i, p i = true → lo ≤ i ∧ i < lo + c) : ∀ N, (List.range N).countP p ≤ min N (lo + c) - lo
  | 0 => by simp
  | N + 1 => by
    have := countP_win h N
    rw [List.range_succ, List.countP_append]
    simp only [List.countP_cons, List.countP_nil]
    split
    · rename_i hN
      have := h N hN
      omega
    · omega
theorem needP_win {p : Nat → Bool} {lo c : Nat} (h : ∀ i, p i = true → lo ≤ i ∧ i < lo + c) : needP p ≤ c + 2 := by
  unfold needP cntP
  have := countP_win h 256
  split <;> omega
theorem touched_win {off m i : Nat} (h : touched off m i = true) : off / 480 ≤ i ∧ i < off / 480 + (m / 480 + 2) := by
  have := touched_iff.1 h
  omega
def fb1 (off : Nat) (d : List UInt8) : AF := (newF 1).wr off d
theorem fb1_need (off : Nat) {d : List UInt8} (h : d.length ≤ 4000) : needP (fb1 off d).pr ≤ 12 := by
  have := needP_win (p := (fb1 off d).pr) (lo := off / 480) (c := d.length / 480 + 2) (fun i hi => touched_win (off := off) (m := d.length) (i := i) (by
    have e : (fb1 off d).pr i = (false || touched off d.length i) := rfl
    rw [e, Bool.false_or] at hi; exact hi))
  omega
def fbSz (off : Nat) (d : List UInt8) : Nat := if d.length = 0 then 0 else off + d.length
theorem fb1_sz (off : Nat) (d : List UInt8) : (fb1 off d).sz = fbSz off d := by
  show (if d.length = 0 then 0 else max 0 (off + d.length)) = _
  unfold fbSz; split <;> omega
def fbL (off : Nat) (d : List UInt8) (fr n : Nat) : List UInt8 := (fb1 off d).sub fr n
theorem fbL_length (off : Nat) (d : List UInt8) (fr n : Nat) : (fbL off d fr n).length = min n (fbSz off d - fr) := by
  unfold fbL AF.sub; rw [List.length_map, List.length_range, fb1_sz]
theorem fbL_get {off : Nat} {d : List UInt8} {fr n k : Nat} (hk : k < (fbL off d fr n).length) : (fbL off d fr n).getD k 0 = if off ≤ fr + k then d.getD (fr + k - off) 0 else 0 := by
  have hl := fbL_length off d fr n
  unfold fbL AF.sub at hk ⊢
  rw [List.length_map, List.length_range] at hk
  rw [List.getD, List.getElem?_map, List.getElem?_range hk]
  show (fb1 off d).dat (fr + k) = _
  show (if off ≤ fr + k ∧ fr + k < off + d.length then d.getD (fr + k - off) 0 else 0) = _
  rw [fb1_sz] at hk
  unfold fbSz at hk
  by_cases h1 : off ≤ fr + k
  · rw [if_pos h1, if_pos ⟨h1, by split at hk <;> omega⟩]
  · rw [if_neg h1, if_neg (fun h => h1 h.1)]
end Go.SL
namespace Go.Proofs.Ytaoohjeaaccnfaa.Fs
set_option linter.unusedVariables false
set_option linter.unusedSimpArgs false
open Go.RowKit Go.SL Go.Proofs.Ytaoohjeaaccnfaa.Ba
def BkRel (L : List UInt8) (w0 : World) (v i : Value) (F : Assn) (wr : World) : Prop :=
  ∃ k : Nat, k ≤ L.length ∧ i = .int .i64 (k : Int) ∧ Side w0 wr ∧ Sat wr (bs 5 v L * F)
set_option maxRecDepth 100000 in
set_option maxHeartbeats 4000000 in
theorem back_any (z0 : Int) (a : Option Addr) (len cap : Nat) (l : List UInt8) (z2 z3 : Int) (w : World) (hb : IsBytes w a len cap l) : Calls Try.prog 3 #[.int .i64 z0, .slice a len cap, .int .i64 z2, .int .i64 z3] w (LawQ w) := by
  refine callsQ fun Q HQ => ?_
  have hand0 := and_mask 24 (by decide) z0 16777215 rfl
  have hand2 := and16 z2
  have hand3 := and16 z3
  obtain ⟨hl, hlc, hcap⟩ := hb.len
  have hcap' : (cap : Int) ≤ 9223372036854775807 := by omega
  have hlc' : (len : Int) ≤ (cap : Int) := by omega
  obtain ⟨m, hm⟩ : ∃ m, min len 4000 = m := ⟨_, rfl⟩
  have hmc : (m : Int) ≤ (cap : Int) := by omega
  have hb2 := hb.take (show m ≤ len by omega)
  obtain ⟨d, hd⟩ : ∃ d, l.take m = d := ⟨_, rfl⟩
  rw [hd] at hb2
  have hm4 : m ≤ 4000 := by omega
  have hm4' : (m : Int) ≤ 4000 := by omega
  have Hm := SL.hid hm
  have Hb := SL.hid hb2
  have p24 : ((2 ^ 24 : Nat) : Int) = 16777216 := rfl
  rw [p24] at hand0
  obtain ⟨off, ho⟩ : ∃ s : Nat, (z0 % 16777216).tmod 110001 = (s : Int) := ⟨((z0 % 16777216).tmod 110001).toNat, by rw [Int.tmod_eq_emod_of_nonneg (by omega)]; omega⟩
  have ho1 : off ≤ 110000 := by have h := ho; rw [Int.tmod_eq_emod_of_nonneg (by omega)] at h; omega
  obtain ⟨r2, h2⟩ : ∃ s : Nat, (z2 % 65536).tmod 6000 = (s : Int) := ⟨((z2 % 65536).tmod 6000).toNat, by rw [Int.tmod_eq_emod_of_nonneg (by omega)]; omega⟩
  have h21 : r2 ≤ 5999 := by have h := h2; rw [Int.tmod_eq_emod_of_nonneg (by omega)] at h; omega
  obtain ⟨n, h3⟩ : ∃ s : Nat, (z3 % 65536).tmod 6000 = (s : Int) := ⟨((z3 % 65536).tmod 6000).toNat, by rw [Int.tmod_eq_emod_of_nonneg (by omega)]; omega⟩
  have h31 : n ≤ 5999 := by have h := h3; rw [Int.tmod_eq_emod_of_nonneg (by omega)] at h; omega
  have ho1' : (off : Int) ≤ 110000 := by omega
  have h21' : (r2 : Int) ≤ 5999 := by omega
  have h31' : (n : Int) ≤ 5999 := by omega
  clear hb hl hcap hlc hb2 hm hd l p24
  go_enter Try.func3, Try.ntmps3
  go_wp2_with fail
  refine (shown_any w).mono ?_
  rintro e w1 ⟨rfl, h1, d1⟩
  go_upto_region 3 with (fail)
  go_cut [1] from 23 to 27 (fun u0 wx => u0 = .slice a m cap ∧ wx = w1)
  case first =>
    by_cases hn : 4000 < len
    · have e : m = 4000 := by have := Hm.out; omega
      subst e
      have hn' : (4000 : Int) < (len : Int) := by omega
      go_wp2_with fail
      go_meet
      exact ⟨rfl, rfl⟩
    · have e : m = len := by have := Hm.out; omega
      subst e
      have hn' : ¬ (4000 : Int) < (m : Int) := by omega
      go_wp2_with fail
      go_meet
      exact ⟨rfl, rfl⟩
  case rest =>
    obtain ⟨rfl, rfl⟩ := hcut
    have hm := made_x 40 (by decide) (by decide) _ _ h1
    clear Hm len hlc'
    go_wp2_with fail
    refine hm.mono ?_
    rintro e w2 ⟨x, b, rfl, d2, h2⟩
    have hA := h2.alloc (.cells #[.pointer (some ⟨b, 0, none⟩), .int .i64 40] 26 (0, 0))
    have D := SL.hid ((d1.trans d2).alloc (.cells #[.pointer (some ⟨b, 0, none⟩), .int .i64 40] 26 (0, 0)))
    have H : Hid (Sat (w2.alloc (.cells #[.pointer (some ⟨b, 0, none⟩), .int .i64 40] 26 (0, 0))) (fsA x b rootA 38 * (whole w * (pt w2.heap.size (spO b 40) * emp)))) := (Sat.addEmp hA).to (by ac_rfl)
    clear h1 h2 hA d1 d2 hm
    unfold spV
    go_wp2_with fail
    generalize w2.alloc (.cells #[.pointer (some ⟨b, 0, none⟩), .int .i64 40] 26 (0, 0)) = w3 at *
    generalize w2.heap.size = sc at *
    have hc := y_new H.out (.inl rfl : (1 : Int) = 1 ∨ (1 : Int) = 2) (by decide)
    refine hc.mono ?_
    rintro e w4 ⟨id, rfl, -, -, -, d', h⟩
    replace D := SL.hid (D.out.trans d')
    replace H := SL.hid h
    clear hc h d'
    have cA : w4.cell? ⟨sc, 0, none⟩ = some (.pointer (some ⟨b, 0, none⟩)) := H.out.front3.cell 0
    have cB : w4.cell? ⟨sc, 1, none⟩ = some (.int .i64 40) := H.out.front3.cell 1
    have hml : d.length = m := (Hb.out.len).1
    have hwa := y_write (f := newF 1) (id := id) (l := d) (va := a) (cap := cap) (upO_same _ _ _) off (hD_old (by have := Hb.out.rd; rw [hml]; exact this)) (by omega) (by omega) (by omega) (by
      have h1 := fb1_need off (d := d) (by omega); have h0 : needP (newF 1).pr = 1 := needP_none
      show needP (fb1 off d).pr ≤ _
      omega) H.out
    rw [hml] at hwa
    have Hml := SL.hid hml
    rw [upO_up] at hwa
    obtain ⟨k1, hk1⟩ : ∃ k, 38 - 1 + needP (newF 1).pr - needP ((newF 1).wr off d).pr = k := ⟨_, rfl⟩
    rw [hk1] at hwa
    have hwa3 : Calls Try.prog 11 #[spV b 40, .int .i64 (id : Int), .int .i64 (off : Int), .slice a m cap] w4 (YE x b (upO rootA id (some (fb1 off d))) k1 0 (whole w * (pt sc (spO b 40) * emp)) w4) := hwa
    have Hwa := SL.hid hwa3
    clear hwa hwa3 hk1 hml
    go_upto_if 51 with (first | (go_at_call 11; refine Hwa.out.mono ?_; rintro e w6 ⟨rfl, d', h⟩))
    replace D := SL.hid (D.out.trans d')
    replace H := SL.hid h
    clear h d' Hwa cA cB
    obtain ⟨sz, hsz⟩ : ∃ s, fbSz off d = s := ⟨_, rfl⟩
    have HZ := SL.hid hsz
    have hszc : (0 < m ∧ sz = off + m) ∨ (m = 0 ∧ sz = 0) := by
      have := Hml.out
      rw [← hsz]; unfold fbSz; split <;> omega
    clear hsz
    generalize hb : decide ((0 : Int) < (m : Int)) = c
    go_cut [14] from 49 to 55 (fun u wx => u = .int .i64 (sz : Int) ∧ wx = w6)
    case first =>
      clear HZ
      cases c
      · have c1 : ¬ (0 : Int) < (m : Int) := by simpa using hb
        obtain rfl : sz = 0 := by omega
        clear hszc hb
        go_wp2_with fail
        go_meet
        exact ⟨rfl, rfl⟩
      · have c1 : (0 : Int) < (m : Int) := by simpa using hb
        obtain rfl : sz = off + m := by omega
        clear hszc hb
        go_wp2_with fail
        go_meet
        exact ⟨by go_num, rfl⟩
    case rest =>
      obtain ⟨rfl, rfl⟩ := hcut
      obtain ⟨fr, hfr⟩ : ∃ f, max (off - 600) 0 + r2 = f := ⟨_, rfl⟩
      have hfr1 : fr ≤ 200000 := by omega
      have hfr1' : (fr : Int) ≤ 200000 := by omega
      go_upto_region 13 with (fail)
      go_cut [2] from 56 to 62 (fun u wx => u = .int .i64 (fr : Int) ∧ wx = wc)
      case first =>
        by_cases c1 : off < 600
        · have c1' : (off : Int) - 600 < 0 := by omega
          have e : fr = r2 := by omega
          clear hfr hfr1 hfr1'
          subst e
          go_wp2_with fail
          all_goals
            go_meet; exact ⟨by go_num, rfl⟩
        · have c1' : ¬ (off : Int) - 600 < 0 := by omega
          have e : fr = off - 600 + r2 := by omega
          clear hfr hfr1 hfr1'
          subst e
          go_wp2_with fail
          all_goals
            go_meet; exact ⟨by go_num, rfl⟩
      case rest =>
        obtain ⟨rfl, rfl⟩ := hcut
        have cA : wc.cell? ⟨sc, 0, none⟩ = some (.pointer (some ⟨b, 0, none⟩)) := H.out.front3.cell 0
        have cB : wc.cell? ⟨sc, 1, none⟩ = some (.int .i64 40) := H.out.front3.cell 1
        have hr := y_read H.out (f := fb1 off d) (upO_same _ _ _) fr n
        have hLl := fbL_length off d fr n
        rw [HZ.out] at hLl
        have HG := SL.hid (fun k hk => fbL_get (off := off) (d := d) (fr := fr) (n := n) (k := k) hk)
        have hr2 : Calls Try.prog 12 #[spV b 40, .int .i64 (id : Int), .int .i64 (fr : Int), .int .i64 (n : Int)] wc (YB x b (upO rootA id (some (fb1 off d))) k1 (fbL off d fr n) (whole w * (pt sc (spO b 40) * emp)) wc) := hr
        clear hr
        generalize fbL off d fr n = L at *
        have Hr := SL.hid hr2; have HL := SL.hid hLl
        clear hr2 hLl hfr
        go_wp2_with fail
        refine Hr.out.mono ?_
        rintro e w7 ⟨v, rfl, d', h⟩
        replace D := SL.hid (D.out.trans d')
        replace H := SL.hid h
        obtain ⟨va, vc, rfl⟩ := sl_shape h
        clear h d' Hr cA cB
        have hLn : L.length ≤ 5999 := by have := HL.out; omega
        have hLn' : (L.length : Int) ≤ 5999 := by omega
        have HL2 : Hid ((L.length : Int) = min (n : Int) (max ((sz : Int) - (fr : Int)) 0)) := by have := HL.out; show _ = _; omega
        obtain ⟨ln, hln⟩ : ∃ ln, L.length = ln := ⟨_, rfl⟩
        rw [hln] at HL2 hLn hLn'
        have HLN := SL.hid hln
        rw [hln]
        clear hln
        go_upto_region 16 with (fail)
        go_cut [86] from 74 to 86 (fun u wx => u = .bool false ∧ wx = w7)
        case first =>
          by_cases c1 : (sz : Int) - (fr : Int) < 0
          · have c2 : ¬ (n : Int) < 0 := by omega
            have e : ln = 0 := by have := HL2.out; omega
            subst e
            by_cases c3 : (0 : Int) < (n : Int)
            all_goals
              clear hfr1 hLn hLn' hszc
              go_wp2_with fail
              go_meet
              exact ⟨by first | rfl | (simp; omega), rfl⟩
          · by_cases c2 : (sz : Int) - (fr : Int) < (n : Int)
            · have e : (ln : Int) = (sz : Int) - (fr : Int) := by have := HL2.out; omega
              go_wp2_with fail
              go_meet
              exact ⟨by simp [e], rfl⟩
            · have e : ln = n := by have := HL2.out; omega
              subst e
              go_wp2_with fail
              go_meet
              exact ⟨by simp, rfl⟩
        case rest =>
          obtain ⟨rfl, rfl⟩ := hcut
          go_wp2_with fail
          go_loopw [17] (fun i wr => BkRel L w (.slice va L.length vc) i (fsA x b (upO rootA id (some (fb1 off d))) k1 * (whole w * (pt sc (spO b 40) * emp))) wr) (fun i _ => ln - (intOf i).toNat)
          case atStart => exact ⟨0, Nat.zero_le _, rfl, D.out, H.out⟩
          case round =>
            obtain ⟨k, hk, rfl, ds, hs⟩ := hrel
            rw [HLN.out] at hk
            have HS := SL.hid hs
            clear H D
            by_cases hlt : k < ln
            · have hlt' : (k : Int) < (ln : Int) := by omega
              obtain ⟨g, vc', e, k1', k2', k3', -, -⟩ := bs_set hs (i := k) (by rw [HLN.out]; exact hlt)
              simp only [Value.slice.injEq] at e
              obtain ⟨rfl, -, -⟩ := e
              have cb := k3' k (by rw [HLN.out]; exact hlt)
              rw [HG.out k (by rw [HLN.out]; exact hlt)] at cb
              by_cases h1 : off ≤ fr + k
              · rw [if_pos h1] at cb
                have h1' : (off : Int) ≤ (fr : Int) + (k : Int) := by omega
                have hidx : fr + k - off < m := by
                  have := HL2.out; omega
                obtain ⟨ab, ao, rfl, hcell⟩ := Hb.out.cell hidx
                obtain ⟨j, hj⟩ : ∃ j, fr + k - off = j := ⟨_, rfl⟩
                rw [hj] at hcell cb hidx
                have cd : wr.cell? ⟨ab, ao + j, none⟩ = some (SL.u8 (d.getD j 0)) := (hs.to (by ac_rfl : _ = (bs 5 (.slice (some ⟨g, 0, none⟩) L.length vc) L * (fsA x b (upO rootA id (some (fb1 off d))) k1 * (pt sc (spO b 40) * emp))) * whole w)).cellOld hcell
                have hji : (fr : Int) + (k : Int) - (off : Int) = (j : Int) := by omega
                have hjm : (j : Int) < (m : Int) := by omega
                obtain ⟨yi, hyi⟩ : ∃ yi, SL.u8 (d.getD j 0) = .int .u8 yi := ⟨_, rfl⟩
                rw [hyi] at cd cb
                clear hs k1' k2' k3' hcell hj hyi
                go_wp2_with fail
                go_roundw
                case rel => exact ⟨k + 1, by rw [HLN.out]; omega, by go_num, ds, HS.out⟩
                case measure => simp [intOf]; omega
              · rw [if_neg h1] at cb
                have h1' : ¬ (off : Int) ≤ (fr : Int) + (k : Int) := by omega
                have cb' : wr.cell? ⟨g, k, none⟩ = some (.int .u8 0) := cb
                clear hs k1' k2' k3' cb
                go_wp2_with fail
                go_roundw
                case rel => exact ⟨k + 1, by rw [HLN.out]; omega, by go_num, ds, HS.out⟩
                case measure => simp [intOf]; omega
            · obtain rfl : k = ln := by omega
              go_wp2_with fail
              exact HQ.out _ _ ⟨rfl, HS.out.right.right.left, ds⟩
end Go.Proofs.Ytaoohjeaaccnfaa.Fs

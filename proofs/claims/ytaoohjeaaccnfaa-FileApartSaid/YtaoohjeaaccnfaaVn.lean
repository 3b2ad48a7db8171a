/- FileApart: the walk. -/
import Derived.Test.YtaoohjeaaccnfaaVm
namespace Go.Proofs.Ytaoohjeaaccnfaa.Fs
set_option linter.unusedVariables false
set_option linter.unusedSimpArgs false
open Go.RowKit Go.SL Go.Proofs.Ytaoohjeaaccnfaa.Ba
/-- Three spaces, and two files in the first one. -/
structure Sp3 where
  x1 : Fx 80
  x2 : Fx 80
  x3 : Fx 80
  b1 : Nat
  b2 : Nat
  b3 : Nat
  s1 : Nat
  s2 : Nat
  s3 : Nat
  f : Nat
  g : Nat
  x : Nat
  y : Nat
def Apart (p : Sp3) (w0 wr : World) (F1 F2 G1 G2 : AF) (G : Assn) : Prop :=
  ∃ (A1 A2 A3 : Nat → Option AF) (k1 k2 k3 : Nat), (smallF F1 ∧ smallF F2 ∧ smallF G1 ∧ smallF G2) ∧ p.f ≠ p.g ∧ A1 p.f = some F1 ∧ A1 p.g = some F2 ∧ A2 p.x = some G1 ∧ A3 p.y = some G2 ∧ k1 + needP F1.pr + needP F2.pr = 78 ∧ k2 + needP G1.pr = 78 ∧ k3 + needP G2.pr = 78 ∧
    Side w0 wr ∧ Sat wr (fsA p.x1 p.b1 A1 k1 * (fsA p.x2 p.b2 A2 k2 * (fsA p.x3 p.b3 A3 k3 * (pt p.s1 (spO p.b1 80) * (pt p.s2 (spO p.b2 80) * (pt p.s3 (spO p.b3 80) * G))))))
section
variable {p : Sp3} {w0 wr : World} {F1 F2 G1 G2 : AF} {G P : Assn}
theorem Apart.cells (h : Apart p w0 wr F1 F2 G1 G2 G) : wr.cell? ⟨p.s1, 0, none⟩ = some (.pointer (some ⟨p.b1, 0, none⟩)) ∧ wr.cell? ⟨p.s1, 1, none⟩ = some (.int .i64 80) ∧ wr.cell? ⟨p.s2, 0, none⟩ = some (.pointer (some ⟨p.b2, 0, none⟩)) ∧ wr.cell? ⟨p.s2, 1, none⟩ = some (.int .i64 80) ∧ wr.cell? ⟨p.s3, 0, none⟩ = some (.pointer (some ⟨p.b3, 0, none⟩)) ∧ wr.cell? ⟨p.s3, 1, none⟩ = some (.int .i64 80) := by
  obtain ⟨A1, A2, A3, k1, k2, k3, -, -, -, -, -, -, -, -, -, -, hs⟩ := h
  exact ⟨hs.front4.cell 0, hs.front4.cell 1, hs.front5.cell 0, hs.front5.cell 1, hs.front6.cell 0, hs.front6.cell 1⟩
theorem Apart.frame (h : Apart p w0 wr F1 F2 G1 G2 G) : Side w0 wr ∧ ∃ P, Sat wr (P * G) := by
  obtain ⟨A1, A2, A3, k1, k2, k3, -, -, -, -, -, -, -, -, -, hd, hs⟩ := h
  exact ⟨hd, _, hs.to (by ac_rfl : _ = (fsA p.x1 p.b1 A1 k1 * (fsA p.x2 p.b2 A2 k2 * (fsA p.x3 p.b3 A3 k3 * (pt p.s1 (spO p.b1 80) * (pt p.s2 (spO p.b2 80) * pt p.s3 (spO p.b3 80)))))) * G)⟩
theorem Apart.row {tb : Nat} {c0 c1 c2 c3 c4 : Value} {T : TypeId} (h : Apart p w0 wr F1 F2 G1 G2 (pt tb (.cells #[c0, c1, c2, c3, c4] T (0, 0)) * G)) : wr.cell? ⟨tb, 0, none⟩ = some c0 ∧ wr.cell? ⟨tb, 1, none⟩ = some c1 ∧ wr.cell? ⟨tb, 2, none⟩ = some c2 ∧ wr.cell? ⟨tb, 3, none⟩ = some c3 ∧ wr.cell? ⟨tb, 4, none⟩ = some c4 := by
  obtain ⟨-, P, hs⟩ := h.frame
  exact ⟨hs.front2.cell 0, hs.front2.cell 1, hs.front2.cell 2, hs.front2.cell 3, hs.front2.cell 4⟩
theorem Apart.alloc (h : Apart p w0 wr F1 F2 G1 G2 G) (o : Obj) : Apart p w0 (wr.alloc o) F1 F2 G1 G2 (pt wr.heap.size o * G) := by
  obtain ⟨A1, A2, A3, k1, k2, k3, h1, h2, h3, h4, h5, h6, h7, h8, h9, hd, hs⟩ := h
  exact ⟨A1, A2, A3, k1, k2, k3, h1, h2, h3, h4, h5, h6, h7, h8, h9, hd.alloc o, (hs.alloc o).to (by ac_rfl)⟩
theorem Apart.drop (h : Apart p w0 wr F1 F2 G1 G2 (P * G)) : Apart p w0 wr F1 F2 G1 G2 G := by
  obtain ⟨A1, A2, A3, k1, k2, k3, h1, h2, h3, h4, h5, h6, h7, h8, h9, hd, hs⟩ := h
  exact ⟨A1, A2, A3, k1, k2, k3, h1, h2, h3, h4, h5, h6, h7, h8, h9, hd, (hs.to (by ac_rfl : _ = P * (fsA p.x1 p.b1 A1 k1 * (fsA p.x2 p.b2 A2 k2 * (fsA p.x3 p.b3 A3 k3 * (pt p.s1 (spO p.b1 80) * (pt p.s2 (spO p.b2 80) * (pt p.s3 (spO p.b3 80) * G)))))))).right⟩
variable (h : Apart p w0 wr F1 F2 G1 G2 G) (kd nd : Int) (off sz : Nat) (dt : Int) (ho : off ≤ 8999) (hz : sz ≤ 1499)
def ApQ (p : Sp3) (w0 : World) (F1 F2 G1 G2 : AF) (G : Assn) (e : Ending) (w' : World) : Prop := e = .returned (.tuple #[]) ∧ Apart p w0 w' F1 F2 G1 G2 G
include h ho hz
theorem Apart.f (d : Unit) : Calls Try.prog 15 #[spV p.b1 80, .int .i64 (p.f : Int), stV kd nd (off : Int) (sz : Int) dt] wr (ApQ p w0 (stepF F1 kd off sz dt) F2 G1 G2 G) := by
  obtain ⟨A1, A2, A3, k1, k2, k3, ⟨u1, u2, u3, u4⟩, h2, h3, h4, h5, h6, h7, h8, h9, hd, hs⟩ := h
  refine (change_any hs h3 u1 kd nd off sz dt ho hz (by have := u2.need; omega)).mono ?_
  rintro e w' ⟨rfl, d', hs'⟩
  have u1' := u1.step kd ho (sz := (sz : Int)) (by omega) dt
  exact ⟨rfl, _, A2, A3, _, k2, k3, ⟨u1', u2, u3, u4⟩, h2, upO_same _ _ _, (upO_other _ _ (fun e => h2 e.symm)).trans h4, h5, h6, by have := u1'.need; have := u2.need; omega, h8, h9, hd.trans d', hs'⟩
theorem Apart.g (d : Unit) : Calls Try.prog 15 #[spV p.b1 80, .int .i64 (p.g : Int), stV kd nd (off : Int) (sz : Int) dt] wr (ApQ p w0 F1 (stepF F2 kd off sz dt) G1 G2 G) := by
  obtain ⟨A1, A2, A3, k1, k2, k3, ⟨u1, u2, u3, u4⟩, h2, h3, h4, h5, h6, h7, h8, h9, hd, hs⟩ := h
  refine (change_any hs h4 u2 kd nd off sz dt ho hz (by have := u1.need; omega)).mono ?_
  rintro e w' ⟨rfl, d', hs'⟩
  have u1' := u2.step kd ho (sz := (sz : Int)) (by omega) dt
  exact ⟨rfl, _, A2, A3, _, k2, k3, ⟨u1, u1', u3, u4⟩, h2, (upO_other _ _ h2).trans h3, upO_same _ _ _, h5, h6, by have := u1'.need; have := u1.need; omega, h8, h9, hd.trans d', hs'⟩
theorem Apart.x (d : Unit) : Calls Try.prog 15 #[spV p.b2 80, .int .i64 (p.x : Int), stV kd nd (off : Int) (sz : Int) dt] wr (ApQ p w0 F1 F2 (stepF G1 kd off sz dt) G2 G) := by
  obtain ⟨A1, A2, A3, k1, k2, k3, ⟨u1, u2, u3, u4⟩, h2, h3, h4, h5, h6, h7, h8, h9, hd, hs⟩ := h
  refine (change_any hs.front2 h5 u3 kd nd off sz dt ho hz (by omega)).mono ?_
  rintro e w' ⟨rfl, d', hs'⟩
  have u1' := u3.step kd ho (sz := (sz : Int)) (by omega) dt
  exact ⟨rfl, A1, _, A3, k1, _, k3, ⟨u1, u2, u1', u4⟩, h2, h3, h4, upO_same _ _ _, h6, h7, by have := u1'.need; omega, h9, hd.trans d', hs'.front2⟩
theorem Apart.y (d : Unit) : Calls Try.prog 15 #[spV p.b3 80, .int .i64 (p.y : Int), stV kd nd (off : Int) (sz : Int) dt] wr (ApQ p w0 F1 F2 G1 (stepF G2 kd off sz dt) G) := by
  obtain ⟨A1, A2, A3, k1, k2, k3, ⟨u1, u2, u3, u4⟩, h2, h3, h4, h5, h6, h7, h8, h9, hd, hs⟩ := h
  refine (change_any hs.front3 h6 u4 kd nd off sz dt ho hz (by omega)).mono ?_
  rintro e w' ⟨rfl, d', hs'⟩
  have u1' := u4.step kd ho (sz := (sz : Int)) (by omega) dt
  exact ⟨rfl, A1, A2, _, k1, k2, _, ⟨u1, u2, u3, u1'⟩, h2, h3, h4, h5, upO_same _ _ _, h7, h8, by have := u1'.need; omega, hd.trans d', hs'.back3⟩
end
section
variable {p : Sp3} {w0 wr : World} {F1 F2 : AF} {G : Assn}
def AlkQ (p : Sp3) (w0 : World) (F1 F2 : AF) (G : Assn) (e : Ending) (w' : World) : Prop := e = .returned (.bool true) ∧ Apart p w0 w' F1 F2 F1 F2 G
theorem Apart.alike1 (h : Apart p w0 wr F1 F2 F1 F2 G) : Calls Try.prog 16 #[spV p.b1 80, .int .i64 (p.f : Int), spV p.b2 80, .int .i64 (p.x : Int)] wr (AlkQ p w0 F1 F2 G) := by
  obtain ⟨A1, A2, A3, k1, k2, k3, h1, h2, h3, h4, h5, h6, h7, h8, h9, hd, hs⟩ := h
  refine (alike_any hs h3 h5).mono ?_
  rintro e w' ⟨rfl, d', hs'⟩
  exact ⟨rfl, A1, A2, A3, k1, k2, k3, h1, h2, h3, h4, h5, h6, h7, h8, h9, hd.trans d', hs'⟩
theorem Apart.alike2 (h : Apart p w0 wr F1 F2 F1 F2 G) : Calls Try.prog 16 #[spV p.b1 80, .int .i64 (p.g : Int), spV p.b3 80, .int .i64 (p.y : Int)] wr (AlkQ p w0 F1 F2 G) := by
  obtain ⟨A1, A2, A3, k1, k2, k3, h1, h2, h3, h4, h5, h6, h7, h8, h9, hd, hs⟩ := h
  refine (alike_any (hs.to (by ac_rfl : _ = fsA p.x1 p.b1 A1 k1 * (fsA p.x3 p.b3 A3 k3 * (fsA p.x2 p.b2 A2 k2 * (pt p.s1 (spO p.b1 80) * (pt p.s2 (spO p.b2 80) * (pt p.s3 (spO p.b3 80) * G))))))) h4 h6).mono ?_
  rintro e w' ⟨rfl, d', hs'⟩
  exact ⟨rfl, A1, A2, A3, k1, k2, k3, h1, h2, h3, h4, h5, h6, h7, h8, h9, hd.trans d', hs'.to (by ac_rfl)⟩
end
def ApRel (p : Sp3) (w0 : World) (i : Value) (wr : World) : Prop := ∃ (k : Nat) (F1 F2 : AF), i = .int .i64 (k : Int) ∧ Apart p w0 wr F1 F2 F1 F2 (whole w0)
set_option maxRecDepth 100000 in
set_option maxHeartbeats 4000000 in
theorem apart_any (a : Option Addr) (len cap : Nat) (X : Nat → Fst) (w : World) (hst : IsSteps w a len cap X) : Calls Try.prog 5 #[.slice a len cap] w (LawQ w) := by
  refine callsQ fun Q HQ => ?_
  have Hst := SL.hid hst
  clear hst
  go_enter Try.func5, Try.ntmps5
  go_wp2_with fail
  refine (shown_any w).mono ?_
  rintro e w1 ⟨rfl, h1, d1⟩
  have hm := made_x 80 (by decide) (by decide) _ _ h1
  go_wp2_with fail
  refine hm.mono ?_
  rintro e w2 ⟨x1, b1, rfl, d2, h2⟩
  have hA := h2.alloc (spO b1 80)
  have D := SL.hid ((d1.trans d2).alloc (spO b1 80))
  have hm := made_x 80 (by decide) (by decide) _ _ hA
  have Hm := SL.hid hm
  clear h1 h2 hA d1 d2 hm
  unfold spV
  go_wp2_with fail
  generalize w2.alloc (.cells #[.pointer (some ⟨b1, 0, none⟩), .int .i64 80] 26 (0, 0)) = w3 at *
  generalize w2.heap.size = s1 at *
  refine Hm.out.mono ?_
  clear Hm
  rintro e w4 ⟨x2, b2, rfl, d2, h2⟩
  have hA := h2.alloc (spO b2 80)
  replace D := SL.hid ((D.out.trans d2).alloc (spO b2 80))
  have hm := made_x 80 (by decide) (by decide) _ _ hA
  have Hm := SL.hid hm
  clear h2 hA d2 hm
  unfold spV
  go_wp2_with fail
  generalize w4.alloc (.cells #[.pointer (some ⟨b2, 0, none⟩), .int .i64 80] 26 (0, 0)) = w5 at *
  generalize w4.heap.size = s2 at *
  refine Hm.out.mono ?_
  clear Hm
  rintro e w6 ⟨x3, b3, rfl, d2, h2⟩
  have hA := h2.alloc (spO b3 80)
  replace D := SL.hid ((D.out.trans d2).alloc (spO b3 80))
  have H := SL.hid (hA.to (by ac_rfl : _ = fsA x1 b1 rootA 78 * (fsA x2 b2 rootA 78 * (fsA x3 b3 rootA 78 * (pt s1 (spO b1 80) * (pt s2 (spO b2 80) * (pt w6.heap.size (spO b3 80) * whole w)))))))
  clear h2 hA d2
  unfold spV
  go_upto_region 5 with (fail)
  generalize w6.alloc (.cells #[.pointer (some ⟨b3, 0, none⟩), .int .i64 80] 26 (0, 0)) = w7 at *
  generalize w6.heap.size = s3 at *
  have c0 : w7.cell? ⟨s1, 0, none⟩ = some (.pointer (some ⟨b1, 0, none⟩)) := H.out.front4.cell 0
  have c1 : w7.cell? ⟨s1, 1, none⟩ = some (.int .i64 80) := H.out.front4.cell 1
  have hn1 := SL.hid (y_new H.out (.inl rfl : (1 : Int) = 1 ∨ (1 : Int) = 2) (by decide))
  go_wp2_with fail
  refine hn1.out.mono ?_
  rintro e w8 ⟨f, rfl, f0, f1, f2, d', h⟩
  replace D := SL.hid (D.out.trans d')
  replace H := SL.hid h
  clear h d' hn1 c0 c1
  have c0 : w8.cell? ⟨s1, 0, none⟩ = some (.pointer (some ⟨b1, 0, none⟩)) := H.out.front4.cell 0
  have c1 : w8.cell? ⟨s1, 1, none⟩ = some (.int .i64 80) := H.out.front4.cell 1
  have hn1 := SL.hid (y_new H.out (.inl rfl : (1 : Int) = 1 ∨ (1 : Int) = 2) (by decide))
  go_wp2_with fail
  refine hn1.out.mono ?_
  rintro e w9 ⟨g, rfl, g0, g1, g2, d', h⟩
  have hfg : f ≠ g := by
    rintro rfl
    rw [upO_same] at g0
    cases g0
  replace D := SL.hid (D.out.trans d')
  replace H := SL.hid h.front2
  clear h d' hn1 c0 c1 f0 g0
  have c0 : w9.cell? ⟨s2, 0, none⟩ = some (.pointer (some ⟨b2, 0, none⟩)) := H.out.front5.cell 0
  have c1 : w9.cell? ⟨s2, 1, none⟩ = some (.int .i64 80) := H.out.front5.cell 1
  have hn1 := SL.hid (y_new H.out (.inl rfl : (1 : Int) = 1 ∨ (1 : Int) = 2) (by decide))
  go_wp2_with fail
  refine hn1.out.mono ?_
  rintro e w10 ⟨x, rfl, -, -, -, d', h⟩
  replace D := SL.hid (D.out.trans d')
  replace H := SL.hid h.front3
  clear h d' hn1 c0 c1
  have c0 : w10.cell? ⟨s3, 0, none⟩ = some (.pointer (some ⟨b3, 0, none⟩)) := H.out.front6.cell 0
  have c1 : w10.cell? ⟨s3, 1, none⟩ = some (.int .i64 80) := H.out.front6.cell 1
  have hn1 := SL.hid (y_new H.out (.inl rfl : (1 : Int) = 1 ∨ (1 : Int) = 2) (by decide))
  go_wp2_with fail
  refine hn1.out.mono ?_
  rintro e w11 ⟨y, rfl, -, -, -, d', h⟩
  have hn0 : needP (newF 1).pr = 1 := needP_none
  have hap : Apart ⟨x1, x2, x3, b1, b2, b3, s1, s2, s3, f, g, x, y⟩ w w11 (newF 1) (newF 1) (newF 1) (newF 1) (whole w) :=
    ⟨_, _, _, _, _, _, ⟨smallF.new 1, smallF.new 1, smallF.new 1, smallF.new 1⟩, hfg, (upO_other _ _ hfg).trans (upO_same _ _ _), upO_same _ _ _, upO_same _ _ _, upO_same _ _ _, by rw [hn0], by rw [hn0], by rw [hn0], D.out.trans d', h.to (by ac_rfl)⟩
  have HAP := SL.hid hap
  clear h d' hn1 c0 c1 hap hn0 H D hfg f1 f2 g1 g2
  go_wp2_with fail
  go_loopw [18] (fun i wr => ApRel ⟨x1, x2, x3, b1, b2, b3, s1, s2, s3, f, g, x, y⟩ w i wr) (fun i _ => len - (intOf i).toNat)
  case atStart => exact ⟨0, _, _, rfl, HAP.out⟩
  case round =>
    obtain ⟨k, F1, F2, rfl, hap⟩ := hrel
    clear HAP
    by_cases hlt : k < len ∧ k < 40
    · obtain ⟨hl, h30⟩ := hlt
      have hl' : (k : Int) < (len : Int) := by omega
      have h30' : (k : Int) < 40 := by omega
      obtain ⟨ab, ao, rfl, hlc, hcap, q0, q1, q2, q3, q4⟩ := Hst.out.cell hl
      obtain ⟨hfd, P, hfs⟩ := hap.frame
      have e0 := hfs.cellOld q0
      have e1 := hfs.cellOld q1
      have e2 := hfs.cellOld q2
      have e3 := hfs.cellOld q3
      have e4 := hfs.cellOld q4
      have hlc' : (len : Int) ≤ (cap : Int) := by omega
      have hcap' : (cap : Int) ≤ 9223372036854775807 := by omega
      generalize (X k).kd = kd at *
      generalize (X k).nd = nd at *
      generalize (X k).off = off0 at *
      generalize (X k).sz = sz0 at *
      generalize (X k).dt = dt at *
      clear q0 q1 q2 q3 q4 hfs hfd hlc hcap
      have hands := and16 sz0
      have hando := and16 off0
      have handn := and_mask 1 (by decide) nd 1 rfl
      have p1 : ((2 ^ 1 : Nat) : Int) = 2 := rfl
      rw [p1] at handn
      obtain ⟨sz, hsz⟩ : ∃ s : Nat, (sz0 % 65536).tmod 1500 = (s : Int) := ⟨((sz0 % 65536).tmod 1500).toNat, by rw [Int.tmod_eq_emod_of_nonneg (by omega)]; omega⟩
      have hsz1 : sz ≤ 1499 := by have h := hsz; rw [Int.tmod_eq_emod_of_nonneg (by omega)] at h; omega
      obtain ⟨off, hof⟩ : ∃ s : Nat, (off0 % 65536).tmod 9000 = (s : Int) := ⟨((off0 % 65536).tmod 9000).toNat, by rw [Int.tmod_eq_emod_of_nonneg (by omega)]; omega⟩
      have hof1 : off ≤ 8999 := by have h := hof; rw [Int.tmod_eq_emod_of_nonneg (by omega)] at h; omega
      clear p1
      go_upto_if 104 with (fail)
      have hA := hap.alloc (.cells #[.int .i64 kd, .int .i64 nd, .int .i64 (off : Int), .int .i64 (sz : Int), .int .i64 dt] 40 (0, 0))
      clear hap e0 e1 e2 e3 e4
      generalize wr.alloc (.cells #[.int .i64 kd, .int .i64 nd, .int .i64 (off : Int), .int .i64 (sz : Int), .int .i64 dt] 40 (0, 0)) = w12 at *
      generalize wr.heap.size = tb at *
      clear handn hands hando hsz hof
      by_cases hn2 : nd % 2 = 0
      · have hn2' : (nd % 2 == 0) = true := by rw [beq_iff_eq]; exact hn2
        obtain ⟨t0, t1, t2, t3, t4⟩ := hA.row
        obtain ⟨r0, r1, r2, r3, r4, r5⟩ := hA.cells
        have hc := SL.hid (hA.f kd nd off sz dt hof1 hsz1 ())
        clear hA
        go_wp2_with fail
        refine hc.out.mono ?_
        clear hc t0 t1 t2 t3 t4 r0 r1 r2 r3 r4 r5
        rintro e w13 ⟨rfl, hB⟩
        obtain ⟨t0, t1, t2, t3, t4⟩ := hB.row
        obtain ⟨r0, r1, r2, r3, r4, r5⟩ := hB.cells
        have hc := SL.hid (hB.x kd nd off sz dt hof1 hsz1 ())
        clear hB
        go_wp2_with fail
        refine hc.out.mono ?_
        clear hc t0 t1 t2 t3 t4 r0 r1 r2 r3 r4 r5
        rintro e w14 ⟨rfl, hC⟩
        have HC := SL.hid hC.drop
        clear hC
        go_wp2_with fail
        go_roundw
        case rel => exact ⟨k + 1, _, _, by go_num, HC.out⟩
        case measure => simp [intOf]; omega
      · have hn2' : (nd % 2 == 0) = false := by rw [beq_eq_false_iff_ne]; exact hn2
        obtain ⟨t0, t1, t2, t3, t4⟩ := hA.row
        obtain ⟨r0, r1, r2, r3, r4, r5⟩ := hA.cells
        have hc := SL.hid (hA.g kd nd off sz dt hof1 hsz1 ())
        clear hA
        go_wp2_with fail
        refine hc.out.mono ?_
        clear hc t0 t1 t2 t3 t4 r0 r1 r2 r3 r4 r5
        rintro e w13 ⟨rfl, hB⟩
        obtain ⟨t0, t1, t2, t3, t4⟩ := hB.row
        obtain ⟨r0, r1, r2, r3, r4, r5⟩ := hB.cells
        have hc := SL.hid (hB.y kd nd off sz dt hof1 hsz1 ())
        clear hB
        go_wp2_with fail
        refine hc.out.mono ?_
        clear hc t0 t1 t2 t3 t4 r0 r1 r2 r3 r4 r5
        rintro e w14 ⟨rfl, hC⟩
        have HC := SL.hid hC.drop
        clear hC
        go_wp2_with fail
        go_roundw
        case rel => exact ⟨k + 1, _, _, by go_num, HC.out⟩
        case measure => simp [intOf]; omega
    · have hout : (¬ (k : Int) < (len : Int)) ∨ ((k : Int) < (len : Int) ∧ ¬ (k : Int) < 40) := by omega
      obtain ⟨r0, r1, r2, r3, r4, r5⟩ := hap.cells
      have hc := SL.hid hap.alike1
      clear hlt hap
      rcases hout with ho | ⟨ho1, ho2⟩
      all_goals
        go_wp2_with fail
        refine hc.out.mono ?_
        clear hc r0 r1 r2 r3 r4 r5
        rintro e w13 ⟨rfl, hB⟩
        obtain ⟨r0, r1, r2, r3, r4, r5⟩ := hB.cells
        have hc := SL.hid hB.alike2
        clear hB
        go_wp2_with fail
        refine hc.out.mono ?_
        clear hc r0 r1 r2 r3 r4 r5
        rintro e w14 ⟨rfl, hC⟩
        obtain ⟨hd, P, hs⟩ := hC.frame
        have HS := SL.hid hs.right
        clear hC hs
        go_wp2_with fail
        exact HQ.out _ _ ⟨rfl, HS.out, hd⟩
end Go.Proofs.Ytaoohjeaaccnfaa.Fs

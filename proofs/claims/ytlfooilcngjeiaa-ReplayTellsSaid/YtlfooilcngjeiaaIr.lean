/- What comes in is what the walks are told: tags that are written to places. ReplayTells: the law's walk. -/
import Derived.Test.YtlfooilcngjeiaaIo
import Derived.Test.YtlfooilcngjeiaaQt
import Derived.Test.YtlfooilcngjeiaaQs
import Derived.Deep.DeepCutAuto
import Derived.BigQuiet
import Derived.Deep.QuietTactic
import Derived.Deep.CutBlock
import Derived.Deep.CutRange
namespace Go.SL
set_option linter.unusedVariables false
set_option linter.unusedSimpArgs false
structure FdV where
  pl : Int
  t : Tg
  torn : Bool
end Go.SL
namespace Go.Proofs.Ytlfooilcngjeiaa
set_option linter.unusedVariables false
set_option linter.unusedSimpArgs false
open Go.RowKit Go.SL Go.ChangeShapes Go.WideShapes Go.ChangeAt
/-- The cells of one. -/
def FdAt (w : World) (b o : Nat) (x : FdV) : Prop :=
  w.cell? ⟨b, o, none⟩ = some (.int .i64 x.pl) ∧ w.cell? ⟨b, o + 1, none⟩ = some (.int .u32 x.t.ep) ∧ w.cell? ⟨b, o + 2, none⟩ = some (.int .u64 x.t.st) ∧ w.cell? ⟨b, o + 3, none⟩ = some (.int .u64 x.t.sq) ∧ w.cell? ⟨b, o + 4, none⟩ = some (.int .u64 x.t.fl) ∧
  w.cell? ⟨b, o + 5, none⟩ = some (.int .i64 x.t.ix) ∧ w.cell? ⟨b, o + 6, none⟩ = some (.int .i64 x.t.ct) ∧ w.cell? ⟨b, o + 7, none⟩ = some (.int .i64 x.t.id) ∧ w.cell? ⟨b, o + 8, none⟩ = some (.bool x.torn)
/-- Tags that came in. -/
def IsFds (w : World) (a : Option Addr) (len cap : Nat) (X : Nat → FdV) : Prop :=
  len = 0 ∨ ∃ b off, a = some ⟨b, off, none⟩ ∧ len ≤ cap ∧ cap ≤ maxLen ∧ ∀ i, i < len → FdAt w b (off + i * 9) (X i) ∧ (X i).t.Fit
section
variable {H : Type} {enc : TypeId × Value → H} {w : World}
set_option maxRecDepth 100000 in
theorem tag_of {fuel : Nat} {cs : List Value} {x : DataW H × List MemPlace} (hf : DataW.trod enc Try.prog w 0 (fun _ => true) true fuel 74 cs = some x) : ∃ t : Tg, cs = t.cells.toList ∧ t.Fit := by
  have hC : Try.prog.cellsOf 74 = 7 := by kernel_rfl
  have hC2 : Try.prog.cellsOf 3 = 1 := by kernel_rfl
  have hC3 : Try.prog.cellsOf 23 = 1 := by kernel_rfl
  have hC4 : Try.prog.cellsOf 22 = 1 := by kernel_rfl
  obtain ⟨ys, n', _, _, hlen, hyl, hfl⟩ := DataW.trod_struct Try.underlying74 hf
  rw [hC] at hlen
  match cs, hlen, hfl with
  | [c0, c1, c2, c3, c4, c5, c6], _, hfl =>
    have f0 := hfl 0 _ rfl
    have f1 := hfl 1 _ rfl
    have f2 := hfl 2 _ rfl
    have f3 := hfl 3 _ rfl
    have f4 := hfl 4 _ rfl
    have f5 := hfl 5 _ rfl
    have f6 := hfl 6 _ rfl
    have hy7 : ys.length = 7 := hyl
    rw [List.getElem?_eq_getElem (by omega)] at f0 f1 f2 f3 f4 f5 f6
    replace f0 : DataW.trod enc Try.prog w 0 (fun _ => true) true n' 22 (List.take (Try.prog.cellsOf 22) [c0, c1, c2, c3, c4, c5, c6]) = some (ys[0]) := f0
    replace f1 : DataW.trod enc Try.prog w 0 (fun _ => true) true n' 23 (List.take (Try.prog.cellsOf 23) [c1, c2, c3, c4, c5, c6]) = some (ys[1]) := f1
    replace f2 : DataW.trod enc Try.prog w 0 (fun _ => true) true n' 23 (List.take (Try.prog.cellsOf 23) [c2, c3, c4, c5, c6]) = some (ys[2]) := f2
    replace f3 : DataW.trod enc Try.prog w 0 (fun _ => true) true n' 23 (List.take (Try.prog.cellsOf 23) [c3, c4, c5, c6]) = some (ys[3]) := f3
    replace f4 : DataW.trod enc Try.prog w 0 (fun _ => true) true n' 3 (List.take (Try.prog.cellsOf 3) [c4, c5, c6]) = some (ys[4]) := f4
    replace f5 : DataW.trod enc Try.prog w 0 (fun _ => true) true n' 3 (List.take (Try.prog.cellsOf 3) [c5, c6]) = some (ys[5]) := f5
    replace f6 : DataW.trod enc Try.prog w 0 (fun _ => true) true n' 3 (List.take (Try.prog.cellsOf 3) [c6]) = some (ys[6]) := f6
    rw [hC4] at f0
    rw [hC3] at f1 f2 f3
    rw [hC2] at f4 f5 f6
    obtain ⟨v0, e0, _, b0⟩ := DataW.trod_int Try.underlying22 f0
    obtain ⟨v1, e1, _, b1⟩ := DataW.trod_int Try.underlying23 f1
    obtain ⟨v2, e2, _, b2⟩ := DataW.trod_int Try.underlying23 f2
    obtain ⟨v3, e3, _, b3⟩ := DataW.trod_int Try.underlying23 f3
    obtain ⟨v4, e4, _, _⟩ := DataW.trod_int Try.underlying3 f4
    obtain ⟨v5, e5, _, _⟩ := DataW.trod_int Try.underlying3 f5
    obtain ⟨v6, e6, _, _⟩ := DataW.trod_int Try.underlying3 f6
    simp at e0 e1 e2 e3 e4 e5 e6
    have g0 := bounds_u32 b0
    have g1 := bounds_u64 b1
    have g2 := bounds_u64 b2
    have g3 := bounds_u64 b3
    exact ⟨⟨v0, v1, v2, v3, v4, v5, v6⟩, by rw [e0, e1, e2, e3, e4, e5, e6]; rfl, ⟨by exact g0.1, by have := g0.2; show v0 < _; omega, by exact g1.1, by have := g1.2; show v1 < _; omega, by exact g2.1, by have := g2.2; show v2 < _; omega, by exact g3.1, by have := g3.2; show v3 < _; omega⟩⟩
set_option maxRecDepth 100000 in
/-- A slice of these, opened. -/
theorem fds_of {fuel : Nat} {a : Option Addr} {len cap : Nat} {x : DataW H × List MemPlace} (hf : DataW.trod enc Try.prog w 0 (fun _ => true) true fuel 71 [.slice a len cap] = some x) : ∃ X, IsFds w a len cap X := by
  have hC : Try.prog.cellsOf 76 = 9 := by kernel_rfl
  have hC1 : Try.prog.cellsOf 74 = 7 := by kernel_rfl
  have hC2 : Try.prog.cellsOf 3 = 1 := by kernel_rfl
  have hC3 : Try.prog.cellsOf 4 = 1 := by kernel_rfl
  have hnil : FdV := ⟨0, ⟨0, 0, 0, 0, 0, 0, 0⟩, false⟩
  rcases Go.Deep.open_slice Try.underlying71 hf with ⟨hcs, _⟩ | ⟨ad, l, c, m, n, D, Pl, hcs, _, hl, hm, hmm, _, hi⟩
  · simp at hcs
    obtain ⟨rfl, rfl, rfl⟩ := hcs
    exact ⟨fun _ => hnil, .inl rfl⟩
  · simp at hcs
    obtain ⟨rfl, rfl, rfl⟩ := hcs
    simp only [if_true] at hmm
    rw [hC] at hi
    by_cases h0 : len = 0
    · exact ⟨fun _ => hnil, .inl h0⟩
    have key : ∀ i, i < len → ∃ s : FdV, (∀ j, j < 9 → w.cell? ((ad.add (i * 9)).add j) = (#[.int .i64 s.pl, .int .u32 s.t.ep, .int .u64 s.t.st, .int .u64 s.t.sq, .int .u64 s.t.fl, .int .i64 s.t.ix, .int .i64 s.t.ct, .int .i64 s.t.id, .bool s.torn] : Array Value)[j]?) ∧ s.t.Fit := by
      intro i hil
      obtain ⟨cs', hc, ht⟩ := hi i (by omega)
      obtain ⟨ys, n', _, _, hlen, hyl, hfl⟩ := DataW.trod_struct Try.underlying76 ht
      obtain ⟨_, hcl, hat⟩ := World.cells?_some hc
      rw [hC] at hlen
      match cs', hlen, hat, hfl with
      | [c0, c1, c2, c3, c4, c5, c6, c7, c8], _, hat, hfl =>
        have f0 := hfl 0 _ rfl
        have f1 := hfl 1 _ rfl
        have f2 := hfl 2 _ rfl
        have hy3 : ys.length = 3 := hyl
        rw [List.getElem?_eq_getElem (by omega)] at f0 f1 f2
        replace f0 : DataW.trod enc Try.prog w 0 (fun _ => true) true n' 3 (List.take (Try.prog.cellsOf 3) [c0, c1, c2, c3, c4, c5, c6, c7, c8]) = some (ys[0]) := f0
        replace f1 : DataW.trod enc Try.prog w 0 (fun _ => true) true n' 74 (List.take (Try.prog.cellsOf 74) [c1, c2, c3, c4, c5, c6, c7, c8]) = some (ys[1]) := f1
        replace f2 : DataW.trod enc Try.prog w 0 (fun _ => true) true n' 4 (List.take (Try.prog.cellsOf 4) [c8]) = some (ys[2]) := f2
        rw [hC2] at f0
        rw [hC1] at f1
        rw [hC3] at f2
        obtain ⟨v0, e0, _, _⟩ := DataW.trod_int Try.underlying3 f0
        obtain ⟨t, e1, hfit⟩ := tag_of f1
        obtain ⟨v2, e2, _⟩ := DataW.trod_bool Try.underlying4 f2
        simp at e0 e2
        simp only [List.take_succ_cons, List.take_zero, Tg.cells, List.cons.injEq, and_true] at e1
        obtain ⟨g1, g2, g3, g4, g5, g6, g7⟩ := e1
        refine ⟨⟨v0, t, v2⟩, fun j hj => ?_, hfit⟩
        have hj' := hat j (by simpa using hj)
        rw [e0, g1, g2, g3, g4, g5, g6, g7, e2] at hj'
        rw [hj']; simp
    have hspot : ∃ b off, ad = ⟨b, off, none⟩ := by
      obtain ⟨s, h1, _⟩ := key 0 (by omega)
      have h1 := h1 0 (by omega)
      obtain ⟨b, off, spot⟩ := ad
      have : spot = none := by simpa [Addr.add] using World.cell?_spot h1
      exact ⟨b, off, by rw [this]⟩
    obtain ⟨b, off, rfl⟩ := hspot
    have key2 : ∀ i, ∃ s : FdV, i < len → FdAt w b (off + i * 9) s ∧ s.t.Fit := by
      intro i
      by_cases hil : i < len
      · obtain ⟨s, h1, h2⟩ := key i hil
        have hh : ∀ j, j < 9 → w.cell? ⟨b, off + i * 9 + j, none⟩ = (#[.int .i64 s.pl, .int .u32 s.t.ep, .int .u64 s.t.st, .int .u64 s.t.sq, .int .u64 s.t.fl, .int .i64 s.t.ix, .int .i64 s.t.ct, .int .i64 s.t.id, .bool s.torn] : Array Value)[j]? := fun j hj => by
          have := h1 j hj
          rwa [Addr.add_lit, Addr.add_lit] at this
        exact ⟨s, fun _ => ⟨⟨hh 0 (by omega), hh 1 (by omega), hh 2 (by omega), hh 3 (by omega), hh 4 (by omega), hh 5 (by omega), hh 6 (by omega), hh 7 (by omega), hh 8 (by omega)⟩, h2⟩⟩
      · exact ⟨hnil, fun h => absurd h hil⟩
    exact ⟨fun i => Classical.choose (key2 i), .inr ⟨b, off, rfl, hl, hm, fun i hil => Classical.choose_spec (key2 i) hil⟩⟩
end
end Go.Proofs.Ytlfooilcngjeiaa
namespace Go.Proofs.Ytlfooilcngjeiaa
set_option linter.unusedVariables false
set_option linter.unusedSimpArgs false
open Go.RowKit Go.SL
theorem crash_two (w : World) (S : Hp) (d kb : Nat) (D : Dev) (F : Assn) (h : Sat w (devA S d D * (pt kb (.cells #[.int .i64 2] 3 (0, 0)) * F))) (hD : D.Ok) :
    Calls Try.prog 28 #[ptV d, .slice (some ⟨kb, 0, none⟩) 1 1] w (DevQ S d (D.crash [2]) (.tuple #[]) (pt kb (.cells #[.int .i64 2] 3 (0, 0)) * F) w) := by
  obtain ⟨x, hx⟩ := h.devEx
  refine crash_any w S d D x [2] _ _ hx hD ⟨_, 1, rfl, by decide, fun i hi => ⟨kb, 0, rfl, fun w' Y D' _ h' => ?_⟩⟩
  have hi0 : i = 0 := by simpa using hi
  subst hi0
  exact h'.front2.cell 0
theorem info_rtag0 : (Try.prog.info? 80).map (·.size) = some 7 := by kernel_rfl
theorem info_rtag (t : Tg) : (Try.prog.info? 80).map (·.size) = some t.cells.size := info_rtag0
theorem scanSt_facts {L : List Fnd} {P B : Nat} {s : Js} (hf : ∀ x ∈ L, FndOk (B : Int) P x) (hs : scanSt L P B = some s) : s.at_.length = B ∧ 0 ≤ s.sq := by
  have hfr := flr_range hf
  have hq := sqI_eq (L := L)
  unfold scanSt at hs
  split at hs
  · cases hs
  · injection hs with hs
    subst hs
    exact ⟨whereL_len _ _ _, by show 0 ≤ sqI L; omega⟩
structure TRow (P B : Nat) (D : Dev) (hs : List Bool) (ts : List Tg) : Prop where
  row : DRow D P
  tells : RowT (B : Int) D P Tg.zero hs ts
  hl : hs.length = P
  tl : ts.length = P
def TlBody (d hb tb : Nat) (S : Hp) (D : Dev) (hs : List Bool) (ts : List Tg) (w : World) : Assn :=
  devA S d D * (pool S * (pt hb (.cells (mks hs) 4 (0, 0)) * (pt tb (.cells (tagsC ts) 80 (0, 0)) * whole w)))
def TlRel (P B d hb tb : Nat) (w : World) (u12 : Value) (wr : World) : Prop :=
  ∃ (i : Nat) (S : Hp) (D : Dev) (hs : List Bool) (ts : List Tg), i ≤ 60 ∧ u12 = .int .i64 (i : Int) ∧ TRow P B D hs ts ∧ Sat wr (TlBody d hb tb S D hs ts w) ∧ Side w wr
def TlOut (P B d hb tb : Nat) (w wr : World) : Prop :=
  ∃ (S : Hp) (D : Dev) (hs : List Bool) (ts : List Tg), TRow P B D hs ts ∧ Sat wr (TlBody d hb tb S D hs ts w) ∧ Side w wr
def Tl2Rel (P : Nat) (hs : List Bool) (ts : List Tg) (Z : Assn) (w : World) (u18 u19 : Value) (wr : World) : Prop :=
  ∃ k : Nat, k ≤ P ∧ u19 = .int .i64 (k : Int) ∧ Sat wr (sl 83 8 u18 (foundL Tg.zero hs ts k).length (flatR (foundL Tg.zero hs ts k)) * Z) ∧ Side w wr
def EncO9 (ok : Bool) (l : List UInt8) (X : Assn) (w : World) (u14 u15 : Value) (wr : World) : Prop :=
  if ok = true then u15 = .int .i64 0 ∧ (∃ a c, u14 = .slice a 512 c) ∧ Sat wr (bs 5 u14 l * X) ∧ Side w wr else u15 = .int .i64 1 ∧ (∃ a n c, u14 = .slice a n c) ∧ Sat wr X ∧ Side w wr
theorem IsFds.at {w : World} {a : Option Addr} {len cap : Nat} {X : Nat → FdV} (h : IsFds w a len cap X) {i : Nat} (hi : i < len) : ∃ b off, a = some ⟨b, off, none⟩ ∧ len ≤ cap ∧ cap ≤ maxLen ∧ FdAt w b (off + i * 9) (X i) ∧ (X i).t.Fit := by
  rcases h with h0 | ⟨b, off, rfl, h1, h2, h3⟩
  · omega
  · exact ⟨b, off, rfl, h1, h2, h3 i hi⟩
theorem IsFds.len_le {w : World} {a : Option Addr} {len cap : Nat} {X : Nat → FdV} (h : IsFds w a len cap X) : (len : Int) ≤ 9223372036854775807 := by
  rcases h with h0 | ⟨b, off, rfl, h1, h2, h3⟩
  · omega
  · unfold maxLen at h2; omega
set_option maxRecDepth 100000 in
set_option maxHeartbeats 4000000 in
theorem tells_any (p b : Int) (a : Option Addr) (len cap : Nat) (X : Nat → FdV) (w : World) (hX : IsFds w a len cap X) :
    Calls Try.prog 9 #[.int .i64 p, .int .i64 b, .slice a len cap] w (ShownQ w) := by
  have hlen := hX.len_le
  have HX := SL.hid hX; clear hX
  have ha := and16 p
  have hb := and16 b
  obtain ⟨P, hP, hP1, hP2⟩ : ∃ P : Nat, (P : Int) = 1 + p % 65536 % 40 ∧ 1 ≤ P ∧ P ≤ 40 := ⟨(1 + p % 65536 % 40).toNat, by omega, by omega, by omega⟩
  obtain ⟨B, hB, hB1, hB2⟩ : ∃ B : Nat, (B : Int) = 1 + b % 65536 % 40 ∧ 1 ≤ B ∧ B ≤ 40 := ⟨(1 + b % 65536 % 40).toNat, by omega, by omega, by omega⟩
  have hs0 : 0 ≤ p % 65536 := by omega
  have hs1 : p % 65536 ≤ 65535 := by omega
  have hs2 : 0 ≤ b % 65536 := by omega
  have hs3 : b % 65536 ≤ 65535 := by omega
  have HP := SL.hid hP; have HB := SL.hid hB
  have hPm : (P : Int) ≤ 40 := by omega
  have hPn : (1 : Int) ≤ (P : Int) := by omega
  have hBm : (B : Int) ≤ 40 := by omega
  have hBn : (1 : Int) ≤ (B : Int) := by omega
  generalize p % 65536 = p1 at *
  generalize b % 65536 = b1 at *
  clear hP hB
  have hmk1 := make_mks P (by omega)
  have hmk2 := make_tags P (by omega)
  obtain ⟨M0, hM0⟩ : ∃ M, M = mks (List.replicate P false) := ⟨_, rfl⟩
  obtain ⟨T0, hT0⟩ : ∃ M, M = tagsC (List.replicate P Tg.zero) := ⟨_, rfl⟩
  rw [← hM0] at hmk1
  rw [← hT0] at hmk2
  have HM0 := SL.hid hM0; have HT0 := SL.hid hT0
  clear hM0 hT0
  have Hmk1 := SL.hid hmk1; have Hmk2 := SL.hid hmk2
  clear hmk1 hmk2
  go_enter Try.func9, Try.ntmps9
  go_wp2_with fail
  refine (shown9_any w).mono ?_
  rintro e w1 ⟨rfl, h1, d1⟩
  have hnew : Calls Try.prog 13 #[.int .i64 ((P : Int) + 1)] w1 (NewQ (P + 1) w1) := by
    have := new_any (P + 1) (by omega) (by omega) w1
    push_cast at this
    exact this
  go_wp2_with fail
  rw [← HP.out, ← HB.out]
  refine hnew.mono ?_
  rintro e w2 ⟨d, rfl, h2, d2⟩
  have H2 : Sat w2 (devA NoB d (Dev.fresh (P + 1)) * (pool NoB * whole w)) := ((h2 NoB).under h1).poolEmp.front2
  have D2 := d1.trans d2
  clear h1 h2 d1 d2 hnew
  have hmk1 := Hmk1.out
  have hmk2 := Hmk2.out
  have H3 := (H2.alloc (.cells M0 4 (0, 0))).alloc (.cells T0 80 (0, 0))
  have D3 := (D2.alloc (.cells M0 4 (0, 0))).alloc (.cells T0 80 (0, 0))
  rw [World.size_alloc] at H3
  go_upto_block 0 with (fail)
  clear hmk1 hmk2 Hmk1 Hmk2
  generalize (w2.alloc (.cells M0 4 (0, 0))).alloc (.cells T0 80 (0, 0)) = w3 at H3 D3 ⊢
  generalize w2.heap.size + 1 = tb at H3 ⊢
  generalize w2.heap.size = mb at H3 ⊢
  go_cut [] from 49 to 134 (fun wx => TlOut P B d mb tb w wx)
  case first =>
    go_wp2_with fail
    go_loopw [12] (fun u wr => TlRel P B d mb tb w u wr) (fun u _ => 60 - (intOf u).toNat)
    case atStart =>
      refine ⟨0, NoB, Dev.fresh (P + 1), List.replicate P false, List.replicate P Tg.zero, Nat.zero_le _, rfl, ⟨fresh_row (by omega), row_fresh _ _ _ _, by simp, by simp⟩, ?_, D3⟩
      rw [HM0.out, HT0.out] at H3
      exact H3.to (by unfold TlBody; ac_rfl)
    case round =>
      clear H3 D3 H2 D2
      obtain ⟨i, S, D, hs, ts, hi, rfl, hT, hsat, hside⟩ := hrel
      have hi' : (i : Int) ≤ 60 := by omega
      by_cases hlt : i < len ∧ i < 60
      · obtain ⟨hlt, h60⟩ := hlt
        have hlt' : (i : Int) < (len : Int) := by omega
        have h60' : (i : Int) < 60 := by omega
        obtain ⟨xb, off, rfl, hlc, hcap, hat, hfit⟩ := HX.out.at hlt
        have hs1 : Sat wr ((devA S d D * (pool S * (pt mb (.cells (mks hs) 4 (0, 0)) * pt tb (.cells (tagsC ts) 80 (0, 0))))) * whole w) := hsat.to (by unfold TlBody; ac_rfl)
        have c0 := hs1.cellOld hat.1
        have c1 := hs1.cellOld hat.2.1
        have c2 := hs1.cellOld hat.2.2.1
        have c3 := hs1.cellOld hat.2.2.2.1
        have c4 := hs1.cellOld hat.2.2.2.2.1
        have c5 := hs1.cellOld hat.2.2.2.2.2.1
        have c6 := hs1.cellOld hat.2.2.2.2.2.2.1
        have c7 := hs1.cellOld hat.2.2.2.2.2.2.2.1
        have c8 := hs1.cellOld hat.2.2.2.2.2.2.2.2
        obtain ⟨Y, hY⟩ : ∃ Y, Y = TlBody d mb tb S D hs ts w := ⟨_, rfl⟩
        rw [← hY] at hsat
        have hold : ∀ w', Sat w' Y → FdAt w' xb (off + i * 9) (X i) := fun w' h' => by
          have h2 : Sat w' ((devA S d D * (pool S * (pt mb (.cells (mks hs) 4 (0, 0)) * pt tb (.cells (tagsC ts) 80 (0, 0))))) * whole w) := h'.to (by rw [hY]; unfold TlBody; ac_rfl)
          obtain ⟨a0, a1, a2, a3, a4, a5, a6, a7, a8⟩ := hat
          exact ⟨h2.cellOld a0, h2.cellOld a1, h2.cellOld a2, h2.cellOld a3, h2.cellOld a4, h2.cellOld a5, h2.cellOld a6, h2.cellOld a7, h2.cellOld a8⟩
        have hap := and16 (X i).pl
        have HY := SL.hid hY
        have Hat := SL.hid hat
        clear hat hs1 hY
        generalize X i = x at *
        obtain ⟨pl, t, torn⟩ := x
        dsimp only at c0 c1 c2 c3 c4 c5 c6 c7 c8 hfit hap
        have Hold := SL.hid hold
        have Hfit := SL.hid hfit
        have HT := SL.hid hT
        clear hold hfit hT
        obtain ⟨q, hq, hqP⟩ : ∃ q : Nat, (pl % 65536).tmod (P : Int) = (q : Int) ∧ q < P := by
          have e0 := Int.emod_nonneg pl (show (65536 : Int) ≠ 0 by decide)
          have e1 := Int.emod_nonneg (pl % 65536) (show (P : Int) ≠ 0 by omega)
          have e2 := Int.emod_lt_of_pos (pl % 65536) (show (0 : Int) < P by omega)
          exact ⟨((pl % 65536) % (P : Int)).toNat, by rw [Int.tmod_eq_emod_of_nonneg e0]; omega, by omega⟩
        have hPz : ¬ (P : Int) = 0 := by omega
        have hqP' : (q : Int) < (P : Int) := by omega
        have Hsat := SL.hid hsat; have Hside := SL.hid hside
        clear hsat hside
        go_wp2_with fail
        clear hap hq
        go_cut [14, 15] from 67 to 76 (fun u14 u15 wx => EncO9 t.ok (enc t ++ zs 480) Y w u14 u15 wx)
        case first =>
          clear c0 c1 c2 c3 c4 c5 c6 c7 c8
          have g1 : ∀ w', Sat w' Y → w'.cell? ⟨xb, off + i * 9 + 1, none⟩ = some (.int .u32 t.ep) := fun w' h => (Hold.out w' h).2.1
          have g2 : ∀ w', Sat w' Y → w'.cell? ⟨xb, off + i * 9 + 2, none⟩ = some (.int .u64 t.st) := fun w' h => (Hold.out w' h).2.2.1
          have g3 : ∀ w', Sat w' Y → w'.cell? ⟨xb, off + i * 9 + 3, none⟩ = some (.int .u64 t.sq) := fun w' h => (Hold.out w' h).2.2.2.1
          have g4 : ∀ w', Sat w' Y → w'.cell? ⟨xb, off + i * 9 + 4, none⟩ = some (.int .u64 t.fl) := fun w' h => (Hold.out w' h).2.2.2.2.1
          have g5 : ∀ w', Sat w' Y → w'.cell? ⟨xb, off + i * 9 + 5, none⟩ = some (.int .i64 t.ix) := fun w' h => (Hold.out w' h).2.2.2.2.2.1
          have g6 : ∀ w', Sat w' Y → w'.cell? ⟨xb, off + i * 9 + 6, none⟩ = some (.int .i64 t.ct) := fun w' h => (Hold.out w' h).2.2.2.2.2.2.1
          have g7 : ∀ w', Sat w' Y → w'.cell? ⟨xb, off + i * 9 + 7, none⟩ = some (.int .i64 t.id) := fun w' h => (Hold.out w' h).2.2.2.2.2.2.2.1
          have hmk : ∀ w, (Instr.makeSlice 51 (.int .i64 480) (.int .i64 480)).run Try.prog w =
            .ok (.slice (some ⟨w.heap.size, 0, none⟩) 480 480) (w.alloc (.cells (u8s (zs 480)) 5 (0, 0))) := make_bytes 480 (by omega)
          have Henc : Hid (∀ w' bz, Sat w' (pt bz (.cells (u8s (zs 480)) 5 (0, 0)) * Y) → Side w w' → Calls Try.prog 30 #[.agg #[.int .u32 t.ep, .int .u64 t.st, .int .u64 t.sq, .int .u64 t.fl, .int .i64 t.ix, .int .i64 t.ct, .int .i64 t.id], .slice (some ⟨bz, 0, none⟩) 480 480] w'
              (fun e w2 => ∃ u14 u15, e = .returned (.tuple #[u14, u15]) ∧ EncO9 t.ok (enc t ++ zs 480) Y w u14 u15 w2 ∧ Sat w2 Y)) := SL.hid fun w' bz h hd => by
            have hrz : Rd w' (.slice (some ⟨bz, 0, none⟩) 480 480) (zs 480) := by
              have := rd_row (c := 480) h.heap
              rwa [length_zs] at this
            cases hok : t.ok with
            | true =>
              refine (encode_yes t Hfit.out hok _ _ (length_zs 480) w' hrz).mono ?_
              rintro e w2 ⟨v, rfl, h2, d2⟩
              have h3 := h2.under h
              refine ⟨v, _, rfl, ?_, h3.drop2.right⟩
              unfold EncO9
              rw [if_pos rfl]
              refine ⟨rfl, ?_, h3.drop2, hd.trans d2⟩
              obtain ⟨a, c, hv⟩ := sl_shape h3
              exact ⟨a, c, by rw [hv, List.length_append, enc_length, length_zs]⟩
            | false =>
              refine (encode_no t hok _ _ w' hrz).mono ?_
              rintro e w2 ⟨rfl, h2, d2⟩
              refine ⟨_, _, rfl, ?_, (h2.keepW h).right⟩
              unfold EncO9
              rw [if_neg (by decide)]
              exact ⟨rfl, ⟨_, _, _, rfl⟩, (h2.keepW h).right, hd.trans d2⟩
          have K0 : Sat wr Y := Hsat.out
          have Kd : Sat wr.drew Y := Hsat.out
          obtain ⟨Z0, hZ0⟩ : ∃ Z, Z = u8s (zs 480) := ⟨_, rfl⟩
          rw [← hZ0] at hmk Henc
          have Ka1 := Hsat.out.alloc (.cells Z0 5 (0, 0))
          have Ka2 : Sat (wr.alloc (.cells Z0 5 (0, 0))).drew (pt wr.heap.size (.cells Z0 5 (0, 0)) * Y) := Ka1
          have Kb1 : Sat (wr.alloc (.cells Z0 5 (0, 0))) Y := Ka1.right
          have Kb2 : Sat (wr.alloc (.cells Z0 5 (0, 0))).drew Y := Ka1.right
          have Hd2 : Hid (Side w (wr.alloc (.cells Z0 5 (0, 0))).drew) := SL.hid (Hside.out.alloc _).drew
          clear hZ0 HT HY Hfit Hold
          generalize hEO : EncO9 t.ok (enc t ++ zs 480) Y w = EO at Henc ⊢
          have HEO := SL.hid hEO
          clear hEO
          go_region_held3 (fun w' => Sat w' Y) (first | (with_reducible exact K0) | (with_reducible exact Kd) | (with_reducible exact Kb1) | (with_reducible exact Kb2) | (with_reducible exact K5)) (first
            | (go_at_call 30; (with_reducible refine (Henc.out _ _ Ka2 Hd2.out).mono ?_); rintro e w5 ⟨u14, u15, rfl, hO, K5⟩))
          all_goals
            go_wp2
            go_meet
            rw [HEO.out]; exact hO
        case rest =>
          clear c0 c1 c2 c3 c4 c5 c6 c7 c8
          cases hok : t.ok with
          | false =>
            rw [hok] at hcut
            unfold EncO9 at hcut
            rw [if_neg (by decide)] at hcut
            obtain ⟨rfl, ⟨ea, en, ec, rfl⟩, hsat, hside⟩ := hcut
            have Hs := SL.hid hsat; have Hd := SL.hid hside
            clear hsat hside
            go_wp2_with fail
            go_roundw
            case rel => exact ⟨i + 1, S, D, hs, ts, by omega, by go_num, HT.out, by rw [← HY.out]; exact Hs.out, Hd.out⟩
            case measure => simp [intOf]; omega
          | true =>
            rw [hok] at hcut
            unfold EncO9 at hcut
            rw [if_pos rfl] at hcut
            obtain ⟨rfl, ⟨ba, bc, rfl⟩, hsat, hside⟩ := hcut
            have hl512 : (enc t ++ zs 480).length = 512 := by rw [List.length_append, enc_length, length_zs]
            obtain ⟨D1, D2, e1, o1, e2, r2, t2⟩ := put_row HT.out.row hqP (by omega) hl512
            obtain ⟨LL, hLL⟩ : ∃ LL, LL = enc t ++ zs 480 := ⟨_, rfl⟩
            rw [← hLL] at hsat hl512 e1 t2
            have HLL := SL.hid hLL; have Ht2 := SL.hid t2; have Hr2 := SL.hid r2; have Hl := SL.hid hl512
            have Hok := SL.hid hok
            have H4 : Sat wc (devA S d D * (pool S * (bs 5 (.slice ba 512 bc) LL * (pt mb (.cells (mks hs) 4 (0, 0)) * (pt tb (.cells (tagsC ts) 80 (0, 0)) * whole w))))) := hsat.to (by rw [HY.out]; unfold TlBody; ac_rfl)
            have hwr := write_any wc S d D ((q : Int) + 1) _ LL _ H4 HT.out.row.ok H4.front3.bsRd (fun w' D' h' => h'.front3.bsRd) (by rw [hl512]; decide)
            rw [e1] at hwr
            clear hLL t2 r2 hl512 hok hsat H4
            go_wp2_with fail
            (with_reducible refine hwr.mono ?_)
            rintro e w5 ⟨S5, E5, rfl, h5, d5⟩
            have hfl := flush_any w5 S5 d D1 _ h5 o1
            rw [e2] at hfl
            have D5 := hside.trans d5
            clear hwr d5 hside h5
            go_wp2_with fail
            (with_reducible refine hfl.mono ?_)
            rintro e w6 ⟨rfl, h6, d6⟩
            have D6 := D5.trans d6
            clear hfl d6 D5
            have HT2 := HT.out
            have hlq : q < hs.length := by rw [HT2.hl]; exact hqP
            have hltq : q < ts.length := by rw [HT2.tl]; exact hqP
            have H6 : Sat w6 (pt mb (.cells (mks hs) 4 (0, 0)) * (pt tb (.cells (tagsC ts) 80 (0, 0)) * (devA S5 d D2 * (pool S5 * (bs 5 (.slice ba 512 bc) LL * whole w))))) := h6.to (by ac_rfl)
            have m0 : w6.cell? ⟨mb, q, none⟩ = some (.bool (hs.getD q false)) := (H6.cell q).trans (get_mks hlq)
            have mf := H6.frozen q
            have hrt := slot_set HT2.tells HT2.hl HT2.tl Ht2.out (by rw [HLL.out]; exact decodeF_enc Hfit.out Hok.out (zs 480)) hqP
            obtain ⟨bb, hbb⟩ : ∃ bb, decide (t.id < (B : Int)) = bb := ⟨_, rfl⟩
            rw [hbb] at hrt
            have hT2 : TRow P B D2 (hs.set q bb) (ts.set q t) := ⟨Hr2.out, hrt, by rw [List.length_set]; exact HT2.hl, by rw [List.length_set]; exact HT2.tl⟩
            have HTn := SL.hid hT2
            have H7 := H6.setCell q (.bool bb)
            rw [set_mks] at H7
            have D7 := D6.setCell ⟨mb, q, none⟩ (.bool bb)
            have H8 := H7.front2.setCells (t.cells.toList) (q * 7)
            rw [tagsC_set ts q t hltq] at H8
            have D8 := Side.setCells t.cells.toList (q * 7) tb D7
            have hth := H7.front2.there (o := q * 7) (n := t.cells.size) (by rw [tagsC_size]; show q * 7 + 7 ≤ _; have := Nat.mul_le_mul_right 7 (show q + 1 ≤ ts.length by omega); omega)
            have hall : ∀ {w' : World} {Z : Assn}, Sat w' (Z * whole w) → FdAt w' xb (off + i * 9) ⟨pl, t, torn⟩ := fun h => by
              obtain ⟨a0, a1, a2, a3, a4, a5, a6, a7, a8⟩ := Hat.out
              exact ⟨h.cellOld a0, h.cellOld a1, h.cellOld a2, h.cellOld a3, h.cellOld a4, h.cellOld a5, h.cellOld a6, h.cellOld a7, h.cellOld a8⟩
            obtain ⟨-, -, -, -, -, -, -, b7, -⟩ := hall (H6.to (by ac_rfl : _ = (pt mb (.cells (mks hs) 4 (0, 0)) * (pt tb (.cells (tagsC ts) 80 (0, 0)) * (devA S5 d D2 * (pool S5 * bs 5 (.slice ba 512 bc) LL)))) * whole w))
            obtain ⟨-, a1, a2, a3, a4, a5, a6, a7, -⟩ := hall (H7.to (by ac_rfl : _ = (pt mb (.cells (mks (hs.set q bb)) 4 (0, 0)) * (pt tb (.cells (tagsC ts) 80 (0, 0)) * (devA S5 d D2 * (pool S5 * bs 5 (.slice ba 512 bc) LL)))) * whole w))
            obtain ⟨-, -, -, -, -, -, -, -, a8⟩ := hall (H8.to (by ac_rfl : _ = (pt tb (.cells (tagsC (ts.set q t)) 80 (0, 0)) * (pt mb (.cells (mks (hs.set q bb)) 4 (0, 0)) * (devA S5 d D2 * (pool S5 * bs 5 (.slice ba 512 bc) LL)))) * whole w))
            dsimp only at a1 a2 a3 a4 a5 a6 a7 a8 b7
            generalize hs.getD q false = b0 at m0
            have H9 : Sat ((w6.setCell ⟨mb, q, none⟩ (.bool bb)).setCells tb (q * 7) t.cells.toList) (devA S5 d D2 * (pool S5 * (bs 5 (.slice ba 512 bc) LL * (pt mb (.cells (mks (hs.set q bb)) 4 (0, 0)) * (pt tb (.cells (tagsC (ts.set q t)) 80 (0, 0)) * whole w))))) := H8.to (by ac_rfl)
            have HH9 := SL.hid H9; have HD8 := SL.hid D8
            have hlq' : q < (hs.set q bb).length := by rw [List.length_set]; exact hlq
            have Hlq := SL.hid hlq'
            have Hm0 := SL.hid (show (hs.set q bb).getD q false = bb by simp [List.getD, List.getElem?_set, hlq])
            clear hall H6 D6 H7 D7 H8 D8 H9 h6 hT2 hrt HT2 hlq hltq hlq'
            cases torn with
            | false =>
              go_wp2_with (refine wpList_store_mid (by exact rfl) 80 (.tmp 110) (.tmp 109) (by exact rfl) tb (q * 7) t.cells (by exact rfl) (by exact rfl) (by with_reducible exact hth) (info_rtag t) (tag_one t) ?_)
              go_roundw
              case rel => exact ⟨i + 1, S5, D2, hs.set q bb, ts.set q t, by omega, by go_num, HTn.out, (HH9.out.drop3).to (by unfold TlBody; ac_rfl), HD8.out⟩
              case measure => simp [intOf]; omega
            | true =>
              obtain ⟨D3, D4, e3, o3, e4, r4, t4⟩ := tear_row HTn.out.row hqP (by omega) Hl.out
              have hrt2 := slot_tear HTn.out.tells HTn.out.hl t4 hqP
              have HT4 : Hid (TRow P B D4 ((hs.set q bb).set q false) (ts.set q t)) := SL.hid ⟨r4, hrt2, by rw [List.length_set]; exact HTn.out.hl, HTn.out.tl⟩
              have hwr := write_any _ S5 d D2 ((q : Int) + 1) _ LL _ HH9.out HTn.out.row.ok HH9.out.front3.bsRd (fun w' D' h' => h'.front3.bsRd) (by rw [Hl.out]; decide)
              rw [e3] at hwr
              clear hrt2 r4 t4 e3
              go_wp2_with (refine wpList_store_mid (by exact rfl) 80 (.tmp 110) (.tmp 109) (by exact rfl) tb (q * 7) t.cells (by exact rfl) (by exact rfl) (by with_reducible exact hth) (info_rtag t) (tag_one t) ?_)
              generalize (w6.setCell ⟨mb, q, none⟩ (.bool bb)).setCells tb (q * 7) t.cells.toList = w8 at *
              clear a1 a2 a3 a4 a5 a6 a7 a8 b7 m0 mf hth
              (with_reducible refine hwr.mono ?_)
              rintro e w9 ⟨S9, E9, rfl, h9, d9⟩
              have H10 := h9.alloc (.cells #[.int .i64 2] 3 (0, 0))
              have D10 := (HD8.out.trans d9).alloc (.cells #[.int .i64 2] 3 (0, 0))
              clear hwr h9 d9 HH9 HD8
              go_wp2_with fail
              generalize w9.alloc (.cells #[.int .i64 2] 3 (0, 0)) = w10 at H10 D10 ⊢
              generalize w9.heap.size = kb at H10 ⊢
              have hcr := crash_two w10 S9 d kb D3 _ (H10.to (by ac_rfl : _ = devA S9 d D3 * (pt kb (.cells #[.int .i64 2] 3 (0, 0)) * (pool S9 * (bs 5 (.slice ba 512 bc) LL * (pt mb (.cells (mks (hs.set q bb)) 4 (0, 0)) * (pt tb (.cells (tagsC (ts.set q t)) 80 (0, 0)) * whole w))))))) o3
              (with_reducible refine hcr.mono ?_)
              rintro e w11 ⟨rfl, h11, d11⟩
              have hst := start_any w11 S9 d (D3.crash [2]) _ h11
              rw [e4] at hst
              have D11 := D10.trans d11
              clear hcr H10 D10 h11 d11
              go_wp2_with fail
              (with_reducible refine hst.mono ?_)
              rintro e w12 ⟨rfl, h12, d12⟩
              have H12 : Sat w12 (pt mb (.cells (mks (hs.set q bb)) 4 (0, 0)) * (pt kb (.cells #[.int .i64 2] 3 (0, 0)) * (bs 5 (.slice ba 512 bc) LL * (devA S9 d D4 * (pool S9 * (pt tb (.cells (tagsC (ts.set q t)) 80 (0, 0)) * whole w)))))) := h12.to (by ac_rfl)
              have m0 : w12.cell? ⟨mb, q, none⟩ = some (.bool ((hs.set q bb).getD q false)) := (H12.cell q).trans (get_mks Hlq.out)
              have mf := H12.frozen q
              have H13 := H12.setCell q (.bool false)
              rw [set_mks] at H13
              have D13 := (D11.trans d12).setCell ⟨mb, q, none⟩ (.bool false)
              have HH13 := SL.hid ((H13.to (by ac_rfl : _ = (pt kb (.cells #[.int .i64 2] 3 (0, 0)) * bs 5 (.slice ba 512 bc) LL) * (devA S9 d D4 * (pool S9 * (pt mb (.cells (mks ((hs.set q bb).set q false)) 4 (0, 0)) * (pt tb (.cells (tagsC (ts.set q t)) 80 (0, 0)) * whole w)))))).right); have HD13 := SL.hid D13
              generalize (hs.set q bb).getD q false = b2 at m0
              clear hst h12 d12 D11 H12 H13 D13
              go_wp2_with fail
              go_roundw
              case rel => exact ⟨i + 1, S9, D4, (hs.set q bb).set q false, ts.set q t, by omega, by go_num, HT4.out, HH13.out, HD13.out⟩
              case measure => simp [intOf]; omega
      · have hd : (decide ((i : Int) < (len : Int)) && decide ((i : Int) < 60)) = false := by
          rw [Bool.and_eq_false_iff]
          by_cases h : i < len
          · exact .inr (by simp; omega)
          · exact .inl (by simp; omega)
        have Hfin : Hid (TlOut P B d mb tb w wr) := SL.hid ⟨S, D, hs, ts, hT, hsat, hside⟩
        by_cases hl : i < len
        · have hl' : (i : Int) < (len : Int) := by omega
          obtain rfl : i = 60 := by omega
          clear hT hsat hside
          go_wp2_with fail
          go_meet
          exact Hfin.out
        · have hl' : ¬ (i : Int) < (len : Int) := by omega
          clear hT hsat hside
          go_wp2_with fail
          go_meet
          exact Hfin.out
  case rest =>
    clear H3 D3 H2 D2
    obtain ⟨S, D, hs, ts, hT, hsat, hside⟩ := hcut
    have H1 := slNone hsat 83 8
    have D1 := hside.alloc (.cells #[] 83 (0, 0))
    have HT := SL.hid hT
    clear hsat hside hT
    go_wp2_with fail
    generalize wc.alloc (.cells #[] 83 (0, 0)) = w4 at H1 D1 ⊢
    generalize wc.heap.size = sb at H1 ⊢
    obtain ⟨Z, hZ⟩ : ∃ Z, Z = TlBody d mb tb S D hs ts w := ⟨_, rfl⟩
    rw [← hZ] at H1
    have HZ := SL.hid hZ
    clear hZ
    go_loopw [18, 19] (fun u18 u19 wr => Tl2Rel P hs ts Z w u18 u19 wr) (fun _ u _ => P - (intOf u).toNat)
    case atStart => exact ⟨0, Nat.zero_le _, rfl, H1, D1⟩
    case round =>
      clear H1 D1
      obtain ⟨k, hk, rfl, hsat, hside⟩ := hrel
      obtain ⟨va, vc, rfl⟩ := sl_shape hsat
      have hfl := foundL_len Tg.zero hs ts k
      by_cases hlt : k < P
      · have hlt' : (k : Int) < (P : Int) := by omega
        have hstep : foundL Tg.zero hs ts (k + 1) = if hs.getD k false = true then foundL Tg.zero hs ts k ++ [(ts.getD k Tg.zero, k)] else foundL Tg.zero hs ts k := rfl
        have hlk : k < hs.length := by rw [HT.out.hl]; exact hlt
        have htk : k < ts.length := by rw [HT.out.tl]; exact hlt
        have h2 : Sat wr (pt mb (.cells (mks hs) 4 (0, 0)) * (pt tb (.cells (tagsC ts) 80 (0, 0)) * (sl 83 8 (.slice va (foundL Tg.zero hs ts k).length vc) (foundL Tg.zero hs ts k).length (flatR (foundL Tg.zero hs ts k)) * (devA S d D * (pool S * whole w))))) := hsat.to (by rw [HZ.out]; unfold TlBody; ac_rfl)
        have m0 : wr.cell? ⟨mb, k, none⟩ = some (.bool (hs.getD k false)) := (h2.cell k).trans (get_mks hlk)
        have htg : ts[k] = ts.getD k Tg.zero := by rw [List.getD, List.getElem?_eq_getElem htk]; rfl
        have hcell : ∀ j, j < 7 → wr.cell? ⟨tb, k * 7 + j, none⟩ = ((ts.getD k Tg.zero).cells)[j]? := fun j hj => by rw [h2.front2.cell, tagsC_get ts k j htk hj, htg]
        generalize ts.getD k Tg.zero = t at hstep hcell
        have Hstep := SL.hid hstep; have Hsat := SL.hid hsat; have Hside := SL.hid hside
        cases hb : hs.getD k false with
        | false =>
          have e : foundL Tg.zero hs ts (k + 1) = foundL Tg.zero hs ts k := by rw [Hstep.out, hb]; rfl
          rw [hb] at m0
          have He := SL.hid e
          clear e hstep hsat hside h2 hcell htg hb
          go_wp2_with fail
          go_roundw
          case rel => exact ⟨k + 1, by omega, by go_num, by rw [He.out]; exact Hsat.out, Hside.out⟩
          case measure => simp [intOf]; omega
        | true =>
          have e : foundL Tg.zero hs ts (k + 1) = foundL Tg.zero hs ts k ++ [(t, k)] := by rw [Hstep.out, hb]; rfl
          rw [hb] at m0
          have He := SL.hid e
          have t0 : wr.cell? ⟨tb, k * 7, none⟩ = some (.int .u32 t.ep) := hcell 0 (by omega)
          have t1 : wr.cell? ⟨tb, k * 7 + 1, none⟩ = some (.int .u64 t.st) := hcell 1 (by omega)
          have t2 : wr.cell? ⟨tb, k * 7 + 2, none⟩ = some (.int .u64 t.sq) := hcell 2 (by omega)
          have t3 : wr.cell? ⟨tb, k * 7 + 3, none⟩ = some (.int .u64 t.fl) := hcell 3 (by omega)
          have t4 : wr.cell? ⟨tb, k * 7 + 4, none⟩ = some (.int .i64 t.ix) := hcell 4 (by omega)
          have t5 : wr.cell? ⟨tb, k * 7 + 5, none⟩ = some (.int .i64 t.ct) := hcell 5 (by omega)
          have t6 : wr.cell? ⟨tb, k * 7 + 6, none⟩ = some (.int .i64 t.id) := hcell 6 (by omega)
          generalize foundL Tg.zero hs ts k = FK at Hsat He hfl ⊢
          obtain ⟨xa, xc, w6, hrun, h6, d6⟩ := append_ref Hsat.out (t, k) (by omega)
          unfold frC at hrun
          dsimp only at hrun
          have Hrun := SL.hid hrun
          have H6 := SL.hid h6
          have D6 := SL.hid (Hside.out.trans d6)
          clear e hstep hsat hside h2 hcell htg hb hrun h6 d6 Hstep
          go_wp2_with (at_builtin; refine wpList_append_run Hrun.out _ _ rfl rfl rfl rfl rfl ?_)
          go_roundw
          case rel => exact ⟨k + 1, by omega, by go_num, by rw [He.out]; exact H6.out, D6.out⟩
          case measure => simp [intOf]; omega
      · obtain rfl : k = P := by omega
        have hff := fnds_found HT.out.tells k (Nat.le_refl _)
        have hcalm := scanN_calm (B : Int) HT.out.row.calm (P := k) (by rw [HT.out.row.len]; omega) k (Nat.le_refl _)
        have hfd : ∀ x ∈ fndsN (B : Int) D k, FndOk (B : Int) k x := by
          have := (scanN_found (B : Int) D k).1
          rw [hcalm] at this
          exact this
        rw [hff] at hfd
        obtain ⟨o, ho⟩ : ∃ o, scanSt (foundL Tg.zero hs ts k) k B = o := ⟨_, rfl⟩
        have hsc := scan_any wr S d D (k : Int) (B : Int) (sl 83 8 (.slice va (foundL Tg.zero hs ts k).length vc) (foundL Tg.zero hs ts k).length (flatR (foundL Tg.zero hs ts k)) * (pt mb (.cells (mks hs) 4 (0, 0)) * (pt tb (.cells (tagsC ts) 80 (0, 0)) * whole w))) (hsat.to (by rw [HZ.out]; unfold TlBody; ac_rfl)) HT.out.row.ok
        rw [scanR_calm HT.out.row.calm hP1 (by rw [HT.out.row.len]; omega) hB1 (by omega) o (by rw [hff]; exact ho)] at hsc
        obtain ⟨D9, hD9⟩ : ∃ D9, D9 = ({ D with cr := addN D.cr k } : Dev) := ⟨_, rfl⟩
        rw [← hD9] at hsc
        generalize foundL Tg.zero hs ts k = L at *
        have Hfd := SL.hid hfd; have Ho := SL.hid ho; have Hside := SL.hid hside
        clear hff hcalm hfd ho hD9 hsat hside
        go_wp2_with fail
        (with_reducible refine hsc.mono ?_)
        rintro e w5 ⟨v, rfl, h5, d5⟩
        have D5 := Hside.out.trans d5
        clear hsc d5
        cases o with
        | none =>
          obtain ⟨rfl, h5'⟩ := stNone h5
          have H6 := h5'.alloc (.cells #[.int .u32 0, .int .u64 0, .int .u64 0, .int .i64 0, .int .i64 0, .slice none 0 0] 26 (0, 0))
          have D6 := D5.alloc (.cells #[.int .u32 0, .int .u64 0, .int .u64 0, .int .i64 0, .int .i64 0, .slice none 0 0] 26 (0, 0))
          clear h5 h5' D5
          unfold noSt
          go_wp2_with fail
          have hrd : RdR _ (.slice va L.length vc) L := H6.front4.rds
          generalize w5.alloc (.cells #[.int .u32 0, .int .u64 0, .int .u64 0, .int .i64 0, .int .i64 0, .slice none 0 0] 26 (0, 0)) = w6 at *
          generalize w5.heap.size = s20 at *
          refine refScan_any w6 _ L k B hrd Hfd.out (by omega) (by omega) (by omega) (by omega) _ (fun _ w7 h7 d7 => ?_) (fun s hs => by rw [Ho.out] at hs; cases hs)
          have H7 := h7.keepW H6
          have H8 := H7.alloc (.cells #[.int .u32 0, .int .u64 0, .int .u64 0, .int .i64 0, .int .i64 0, .slice none 0 0] 84 (0, 0))
          have D8 := (D6.trans d7).alloc (.cells #[.int .u32 0, .int .u64 0, .int .u64 0, .int .i64 0, .int .i64 0, .slice none 0 0] 84 (0, 0))
          have f0 := H8.front2.cell 0; have f1 := H8.front2.cell 1; have f2 := H8.front2.cell 2; have f3 := H8.front2.cell 3; have f4 := H8.front2.cell 4; have f5 := H8.front2.cell 5
          simp only [List.getElem?_toArray, List.getElem?_cons_zero, List.getElem?_cons_succ] at f0 f1 f2 f3 f4 f5
          have HW := SL.hid H8.right.right.right.right.right.right.right
          clear h7 d7 H6 D6 H7 H8 hrd
          unfold noSt
          go_wp2_with fail
          refine (lawEmpty_yes _).mono ?_
          rintro e w9 ⟨rfl, h9, d9⟩
          have HW9 := SL.hid (h9.keepW HW.out)
          have D9 := D8.trans d9
          clear h9 d9 HW D8 f0 f1 f2 f3 f4 f5
          go_wp2_with fail
          go_ret
          exact ⟨rfl, HW9.out, D9⟩
        | some s =>
          obtain ⟨g, hv, h5'⟩ := stSome h5
          obtain ⟨hal, hsq⟩ := scanSt_facts Hfd.out Ho.out
          have hright := scan_right Hfd.out (by omega) hB1 (by omega) Ho.out
          obtain ⟨ep, st, sq, hd, us, at_⟩ := s
          have hv2 : v = .agg #[.int .u32 ep, .int .u64 st, .int .u64 sq, .int .i64 hd, .int .i64 us, .slice (some ⟨g, 0, none⟩) at_.length at_.length] := hv
          subst hv2
          dsimp only at h5' hal hsq
          have H6 := h5'.alloc (.cells #[.int .u32 ep, .int .u64 st, .int .u64 sq, .int .i64 hd, .int .i64 us, .slice (some ⟨g, 0, none⟩) at_.length at_.length] 26 (0, 0))
          have D6 := D5.alloc (.cells #[.int .u32 ep, .int .u64 st, .int .u64 sq, .int .i64 hd, .int .i64 us, .slice (some ⟨g, 0, none⟩) at_.length at_.length] 26 (0, 0))
          have Hright := SL.hid hright
          have Hal := SL.hid hal; have Hsq := SL.hid hsq
          clear h5 h5' hv D5 hright hal hsq
          go_wp2_with fail
          have hrd : RdR _ (.slice va L.length vc) L := H6.front5.rds
          generalize w5.alloc (.cells #[.int .u32 ep, .int .u64 st, .int .u64 sq, .int .i64 hd, .int .i64 us, .slice (some ⟨g, 0, none⟩) at_.length at_.length] 26 (0, 0)) = w6 at *
          generalize w5.heap.size = s20 at *
          refine refScan_any w6 _ L k B hrd Hfd.out (by omega) (by omega) (by omega) (by omega) _ (fun hn => by rw [Ho.out] at hn; cases hn) (fun s' hs' w7 v7 h7 d7 => ?_)
          have hse : s' = ⟨ep, st, sq, hd, us, at_⟩ := by rw [Ho.out] at hs'; injection hs' with hs'; exact hs'.symm
          subst hse
          unfold Js.v
          dsimp only at h7 ⊢
          have H7 := h7.under H6
          obtain ⟨ja, jc, rfl⟩ := sl_shape H7
          have H8 := H7.alloc (.cells #[.int .u32 ep, .int .u64 st, .int .u64 sq, .int .i64 hd, .int .i64 us, .slice ja at_.length jc] 84 (0, 0))
          have D8 := (D6.trans d7).alloc (.cells #[.int .u32 ep, .int .u64 st, .int .u64 sq, .int .i64 hd, .int .i64 us, .slice ja at_.length jc] 84 (0, 0))
          clear h7 d7 H6 D6 H7 hrd hs'
          go_wp2_with fail
          generalize w7.alloc (.cells #[.int .u32 ep, .int .u64 st, .int .u64 sq, .int .i64 hd, .int .i64 us, .slice ja at_.length jc] 84 (0, 0)) = w8 at H8 D8 ⊢
          generalize w7.heap.size = s22 at H8 ⊢
          obtain ⟨Y, hY⟩ : ∃ Y, Y = pt s22 (.cells #[.int .u32 ep, .int .u64 st, .int .u64 sq, .int .i64 hd, .int .i64 us, .slice ja at_.length jc] 84 (0, 0)) * (sl 3 1 (.slice ja at_.length jc) at_.length (i64v at_) * (pt s20 (.cells #[.int .u32 ep, .int .u64 st, .int .u64 sq, .int .i64 hd, .int .i64 us, .slice (some ⟨g, 0, none⟩) at_.length at_.length] 26 (0, 0)) * (pt g (.cells (ints at_) 3 (0, 0)) * whole w))) := ⟨_, rfl⟩
          have K0 : Sat w8 Y := (H8.to (by rw [hY]; ac_rfl : _ = (devA S d D9 * (pool S * (sl 83 8 (.slice va L.length vc) L.length (flatR L) * (pt mb (.cells (mks hs) 4 (0, 0)) * pt tb (.cells (tagsC ts) 80 (0, 0)))))) * Y)).right
          have Kd : Sat w8.drew Y := K0
          have HY : ∀ w', Sat w' Y → Sat w' (pt s22 (.cells #[.int .u32 ep, .int .u64 st, .int .u64 sq, .int .i64 hd, .int .i64 us, .slice ja at_.length jc] 84 (0, 0)) * (sl 3 1 (.slice ja at_.length jc) at_.length (i64v at_) * (pt s20 (.cells #[.int .u32 ep, .int .u64 st, .int .u64 sq, .int .i64 hd, .int .i64 us, .slice (some ⟨g, 0, none⟩) at_.length at_.length] 26 (0, 0)) * (pt g (.cells (ints at_) 3 (0, 0)) * whole w)))) := fun w' h => by rw [← hY]; exact h
          have HYW : Hid (∀ w', Sat w' Y → Sat w' (whole w)) := SL.hid fun w' h => (HY w' h).right.right.right.right
          have hrA : ∀ w', Sat w' Y → RdI w' (.slice (some ⟨g, 0, none⟩) at_.length at_.length) at_ := fun w' h => by
            have h4 := (HY w' h).front4
            refine .inr ⟨g, 0, at_.length, rfl, Nat.le_refl _, by have := Hal.out; unfold maxLen; omega, fun j hj => ?_⟩
            rw [Nat.zero_add]
            exact (h4.cell j).trans (get_ints_lt hj)
          have hrB : ∀ w', Sat w' Y → RdI w' (.slice ja at_.length jc) at_ := fun w' h => rdI_sl (HY w' h).front2
          have hl1 : 1 ≤ at_.length := by have := Hal.out; omega
          have hl2 : at_.length ≤ 1000000 := by have := Hal.out; omega
          obtain ⟨BO, hBO⟩ : ∃ BO : Bool, BO = true ↔ OverP at_ := by
            by_cases h : OverP at_
            · exact ⟨true, by simp [h]⟩
            · exact ⟨false, by simp [h]⟩
          have hBR : (!BO) = true ↔ Js.Right (k : Int) ⟨ep, st, sq, hd, us, at_⟩ := by
            rw [Hright.out, ← hBO]
            cases BO <;> simp
          have Hsame : Hid (∀ w', Sat w' Y → Calls Try.prog 35 #[.agg #[.int .u32 ep, .int .u64 st, .int .u64 sq, .int .i64 hd, .int .i64 us, .slice (some ⟨g, 0, none⟩) at_.length at_.length], .agg #[.int .u32 ep, .int .u64 st, .int .u64 sq, .int .i64 hd, .int .i64 us, .slice ja at_.length jc]] w' (RightQ true w')) :=
            SL.hid fun w' h => same9_any w' ⟨ep, st, sq, hd, us, at_⟩ _ _ (hrA w' h) (hrB w' h) hl1 hl2
          have Hrt : Hid (∀ w', Sat w' Y → Calls Try.prog 12 #[.int .i64 (k : Int), .agg #[.int .u32 ep, .int .u64 st, .int .u64 sq, .int .i64 hd, .int .i64 us, .slice (some ⟨g, 0, none⟩) at_.length at_.length]] w' (RightQ (!BO) w')) :=
            SL.hid fun w' h => right_any' (k : Int) ⟨ep, st, sq, hd, us, at_⟩ _ w' (by omega) (by omega) Hsq.out (by show at_.length ≤ _; omega) (hrA w' h) (!BO) hBR
          have Hov : Hid (∀ w', Sat w' Y → Calls Try.prog 36 #[.agg #[.int .u32 ep, .int .u64 st, .int .u64 sq, .int .i64 hd, .int .i64 us, .slice (some ⟨g, 0, none⟩) at_.length at_.length]] w' (RightQ BO w')) :=
            SL.hid fun w' h => over_any w' ⟨ep, st, sq, hd, us, at_⟩ _ (hrA w' h) hl1 hl2 BO hBO
          have x0 : ∀ w', Sat w' Y → w'.cell? ⟨s20, 0, none⟩ = some (.int .u32 ep) := fun w' h => (HY w' h).front3.cell 0
          have x1 : ∀ w', Sat w' Y → w'.cell? ⟨s20, 1, none⟩ = some (.int .u64 st) := fun w' h => (HY w' h).front3.cell 1
          have x2 : ∀ w', Sat w' Y → w'.cell? ⟨s20, 2, none⟩ = some (.int .u64 sq) := fun w' h => (HY w' h).front3.cell 2
          have x3 : ∀ w', Sat w' Y → w'.cell? ⟨s20, 3, none⟩ = some (.int .i64 hd) := fun w' h => (HY w' h).front3.cell 3
          have x4 : ∀ w', Sat w' Y → w'.cell? ⟨s20, 4, none⟩ = some (.int .i64 us) := fun w' h => (HY w' h).front3.cell 4
          have x5 : ∀ w', Sat w' Y → w'.cell? ⟨s20, 5, none⟩ = some (.slice (some ⟨g, 0, none⟩) at_.length at_.length) := fun w' h => (HY w' h).front3.cell 5
          have y0 : ∀ w', Sat w' Y → w'.cell? ⟨s22, 0, none⟩ = some (.int .u32 ep) := fun w' h => (HY w' h).cell 0
          have y1 : ∀ w', Sat w' Y → w'.cell? ⟨s22, 1, none⟩ = some (.int .u64 st) := fun w' h => (HY w' h).cell 1
          have y2 : ∀ w', Sat w' Y → w'.cell? ⟨s22, 2, none⟩ = some (.int .u64 sq) := fun w' h => (HY w' h).cell 2
          have y3 : ∀ w', Sat w' Y → w'.cell? ⟨s22, 3, none⟩ = some (.int .i64 hd) := fun w' h => (HY w' h).cell 3
          have y4 : ∀ w', Sat w' Y → w'.cell? ⟨s22, 4, none⟩ = some (.int .i64 us) := fun w' h => (HY w' h).cell 4
          have y5 : ∀ w', Sat w' Y → w'.cell? ⟨s22, 5, none⟩ = some (.slice ja at_.length jc) := fun w' h => (HY w' h).cell 5
          have HD8 := SL.hid D8
          clear HY hrA hrB hBR hBO hY H8 D8 Ho Hfd Hside HT HZ
          cases BO
          all_goals
            go_region_held3 (fun w' => Sat w' Y) (first | (with_reducible exact K0) | (with_reducible exact Kd) | (with_reducible exact K9) | (with_reducible exact K10) | (with_reducible exact K11)) (first
              | (go_at_call 35; (with_reducible refine (Hsame.out _ Kd).mono ?_); rintro e w9 ⟨rfl, h9, d9⟩; have K9 : Sat w9 Y := h9.keepW Kd)
              | (go_at_call 12; (with_reducible refine (Hrt.out _ K9).mono ?_); rintro e w10 ⟨rfl, h10, d10⟩; have K10 : Sat w10 Y := h10.keepW K9)
              | (go_at_call 36; (with_reducible refine (Hov.out _ K10).mono ?_); rintro e w11 ⟨rfl, h11, d11⟩; have K11 : Sat w11 Y := h11.keepW K10))
            all_goals
              have HW := SL.hid (HYW.out _ K11)
              have DW := SL.hid ((((HD8.out.drew).trans d9).trans d10).trans d11)
              go_wp2
              go_ret
              exact ⟨rfl, HW.out, DW.out⟩
end Go.Proofs.Ytlfooilcngjeiaa

/- journal: what it is in memory; its small functions. -/
import Derived.Test.YtlfooilcngjeiaaGreatTd
import Derived.Test.YtlfooilcngjeiaaGreatRh
import Derived.Test.YtlfooilcngjeiaaGreatTb
namespace Go.SL
set_option linter.unusedVariables false
set_option linter.unusedSimpArgs false
open Go.RowKit
structure Jr where
  P : Nat
  T : Tb
  n : Int
  ep : Int
  st : Int
  sq : Int
  hd : Int
  us : Int
  fr : Int
  br : Bool
def ringL (P : Nat) : List Int := (List.range P).map fun i : Nat => (i : Int) + 1
theorem ringL_length (P : Nat) : (ringL P).length = P := by simp [ringL]
theorem ringL_get {P k : Nat} (h : k < P) : (ringL P).getD k 0 = (k : Int) + 1 := by simp [ringL, List.getD, h]
def Jr.cells (J : Jr) (d r t : Nat) : Array Value :=
  #[ptV d, ptV r, ptV t, .int .i64 J.n, .int .u32 J.ep, .int .u64 J.st, .int .u64 J.sq, .int .i64 J.hd, .int .i64 J.us, .int .i64 J.fr, .bool J.br]
/-- A journal whose ring and table lie at r and t. -/
def jrX (j d r t : Nat) (J : Jr) : Assn := pt j (.cells (J.cells d r t) 72 (0, 0)) * (ringA r (ringL J.P) * tableA t J.T)
def jrA (j d : Nat) (J : Jr) : Assn := ex fun x : Nat × Nat => pt j (.cells (J.cells d x.1 x.2) 72 (0, 0)) * (ringA x.1 (ringL J.P) * tableA x.2 J.T)
structure Jr.Ok (J : Jr) : Prop where
  p0 : 0 < J.P
  p1 : J.P ≤ 20000
  T : J.T.Ok
  ps : (J.T.ps.length : Int) = J.n
  os : J.T.os.length = J.P
  us0 : 0 ≤ J.us
  us1 : J.us ≤ J.P
  hd0 : 0 ≤ J.hd
  hd1 : J.hd < J.P
  fr0 : 0 ≤ J.fr
  fr1 : J.fr ≤ 48
theorem Sat.jrOpen {w : World} {j d : Nat} {J : Jr} {F : Assn} (h : Sat w (jrA j d J * F)) : ∃ r t, Sat w (pt j (.cells (J.cells d r t) 72 (0, 0)) * (ringA r (ringL J.P) * (tableA t J.T * F))) := by
  obtain ⟨x, h⟩ := Sat.ex_star_iff.1 h
  exact ⟨x.1, x.2, h.to (by ac_rfl)⟩
theorem Sat.jrShut {w : World} {j d r t : Nat} {J : Jr} {F : Assn} (h : Sat w (pt j (.cells (J.cells d r t) 72 (0, 0)) * (ringA r (ringL J.P) * (tableA t J.T * F)))) : Sat w (jrA j d J * F) :=
  Sat.ex_star_iff.2 ⟨(r, t), h.to (by ac_rfl)⟩
theorem Sat.jrOfX {w : World} {j d r t : Nat} {J : Jr} {F : Assn} (h : Sat w (jrX j d r t J * F)) : Sat w (jrA j d J * F) := Sat.ex_star_iff.2 ⟨(r, t), h⟩
theorem Sat.jrToX {w : World} {j d : Nat} {J : Jr} {F : Assn} (h : Sat w (jrA j d J * F)) : ∃ r t, Sat w (jrX j d r t J * F) := by
  obtain ⟨x, h⟩ := Sat.ex_star_iff.1 h
  exact ⟨x.1, x.2, h⟩
theorem Sat.jrShutX {w : World} {j d r t : Nat} {J : Jr} {F : Assn} (h : Sat w (pt j (.cells (J.cells d r t) 72 (0, 0)) * (ringA r (ringL J.P) * (tableA t J.T * F)))) : Sat w (jrX j d r t J * F) := h.to (by unfold jrX; ac_rfl)
theorem Sat.jrOpenX {w : World} {j d r t : Nat} {J : Jr} {F : Assn} (h : Sat w (jrX j d r t J * F)) : Sat w (pt j (.cells (J.cells d r t) 72 (0, 0)) * (ringA r (ringL J.P) * (tableA t J.T * F))) := h.to (by unfold jrX; ac_rfl)
def Jr.load (J : Jr) (D : Dev) (id place : Int) : (Int × List UInt8) × Jr × Dev :=
  let R := D.read (place % (J.P : Int) + 1)
  if R.1.1 = 0 then
    match decodeF R.1.2 with
    | some (t, b) => if t.id = id then ((0, b), J, R.2) else ((2, []), { J with br := true }, R.2)
    | none => ((2, []), { J with br := true }, R.2)
  else ((2, []), { J with br := true }, R.2)
def Jr.read (J : Jr) (D : Dev) (id : Int) : (Int × List UInt8) × Jr × Dev :=
  if id < 0 ∨ J.n ≤ id then ((1, []), J, D)
  else if J.br then ((2, []), J, D)
  else match told J.T.ps id with
    | none => ((0, zs 480), J, D)
    | some p => J.load D id p
def Jr.flush (J : Jr) (D : Dev) : Int × Jr × Dev :=
  if J.br then (2, J, D) else if D.flush.1 = 0 then (0, J, D.flush.2) else (2, { J with br := true }, D.flush.2)
end Go.SL
namespace Go.Proofs.YtlfooilcngjeiaaGreat
set_option linter.unusedVariables false
set_option linter.unusedSimpArgs false
open Go.RowKit Go.SL
def JrXQ (j d r t : Nat) (J : Jr) (v : Value) (F : Assn) (w : World) (e : Ending) (w' : World) : Prop := e = .returned v ∧ Sat w' (jrX j d r t J * F) ∧ Side w w'
theorem fail_anyX (w : World) (j d r t : Nat) (J : Jr) (F : Assn) (h : Sat w (jrX j d r t J * F)) :
    Calls Tryz.prog 52 #[ptV j] w (JrXQ j d r t { J with br := true } (.int .i64 2) F w) := by
  have hx : Sat w (pt j (.cells (J.cells d r t) 72 (0, 0)) * (ringA r (ringL J.P) * (tableA t J.T * F))) := h.to (by unfold jrX; ac_rfl)
  have hc : w.cell? ⟨j, 10, none⟩ = some (.bool J.br) := hx.cell 10
  have hf := hx.frozen 10
  have h2 := hx.setCell 10 (.bool true)
  have H2 := SL.hid h2
  clear h hx h2
  go_enter Tryz.func52, Tryz.ntmps52
  go_wp2
  go_ret
  exact ⟨rfl, Sat.jrShutX (J := { J with br := true }) H2.out, (Side.refl w).setCell _ _⟩
def JrQ (j d : Nat) (J : Jr) (v : Value) (F : Assn) (w : World) (e : Ending) (w' : World) : Prop := e = .returned v ∧ Sat w' (jrA j d J * F) ∧ Side w w'
theorem fail_any (w : World) (j d : Nat) (J : Jr) (F : Assn) (h : Sat w (jrA j d J * F)) :
    Calls Tryz.prog 52 #[ptV j] w (JrQ j d { J with br := true } (.int .i64 2) F w) := by
  obtain ⟨r, t, hx⟩ := h.jrToX
  exact (fail_anyX w j d r t J F hx).mono fun _ _ ⟨a, b, c⟩ => ⟨a, b.jrOfX, c⟩
theorem room_any (w : World) (j d : Nat) (J : Jr) (F : Assn) (h : Sat w (jrA j d J * F)) (hJ : J.Ok) :
    Calls Tryz.prog 29 #[ptV j] w (Tells (.int .i64 ((J.P : Int) - J.us - J.fr)) w) := by
  obtain ⟨r, t, hx⟩ := h.jrOpen
  have c1 : w.cell? ⟨j, 1, none⟩ = some (ptV r) := hx.cell 1
  have c8 : w.cell? ⟨j, 8, none⟩ = some (.int .i64 J.us) := hx.cell 8
  have c9 : w.cell? ⟨j, 9, none⟩ = some (.int .i64 J.fr) := hx.cell 9
  have hR := hx.front2
  have hlen : ∀ w', Sat w' (ringA r (ringL J.P) * (pt j (.cells (J.cells d r t) 72 (0, 0)) * (tableA t J.T * F))) → Calls Tryz.prog 55 #[ptV r] w' (IntIs J.P w') := fun w' h => by
    have := ringLen_any w' r (ringL J.P) _ h
    rwa [ringL_length] at this
  obtain ⟨p0, p1, _, _, _, u0, u1, _, _, f0, f1⟩ := hJ
  have hl := hlen w hR
  have hld := hlen w.drew hR
  have hP : (J.P : Int) ≤ 20000 := by omega
  have hP0 : 0 ≤ (J.P : Int) := by omega
  have hu2 : J.us ≤ 20000 := by omega
  clear h hx hR hlen
  go_enter Tryz.func29, Tryz.ntmps29
  have s1 : IntKind.i64.wrap ((J.P : Int) - J.us) = (J.P : Int) - J.us := by rw [IntKind.wrap_i64]; omega
  have s2 : IntKind.i64.wrap ((J.P : Int) - J.us - J.fr) = (J.P : Int) - J.us - J.fr := by rw [IntKind.wrap_i64]; omega
  go_wp2_with fail
  go_region_held3 (fun w' => w'.cell? ⟨j, 1, none⟩ = some (ptV r) ∧ w'.cell? ⟨j, 8, none⟩ = some (.int .i64 J.us) ∧ w'.cell? ⟨j, 9, none⟩ = some (.int .i64 J.fr)) (first | exact ⟨c1, c8, c9⟩) (first
    | (go_at_call 55; (with_reducible refine hld.mono ?_); rintro e w1 ⟨rfl, rfl⟩))
  go_wp2
  go_ret
  exact ⟨rfl, (Sat.whole w).drew, (Side.refl w).drew⟩
def FlushQ (S : Hp) (j d : Nat) (R : Int × Jr × Dev) (F : Assn) (w : World) (e : Ending) (w' : World) : Prop :=
  e = .returned (.int .i64 R.1) ∧ Sat w' (jrA j d R.2.1 * (devA S d R.2.2 * F)) ∧ Side w w'
set_option maxRecDepth 100000 in
theorem jflush_any (w : World) (S : Hp) (j d : Nat) (J : Jr) (D : Dev) (F : Assn) (h : Sat w (jrA j d J * (devA S d D * F))) (hD : D.Ok) :
    Calls Tryz.prog 26 #[ptV j] w (FlushQ S j d (J.flush D) F w) := by
  obtain ⟨r, t, hx⟩ := h.jrOpen
  have c10 : w.cell? ⟨j, 10, none⟩ = some (.bool J.br) := hx.cell 10
  have c0 : w.cell? ⟨j, 0, none⟩ = some (ptV d) := hx.cell 0
  have hf := flush_any w S d D _ h.front2 hD
  clear hx
  unfold Jr.flush
  cases hb : J.br with
  | true =>
    rw [hb] at c10
    clear hf
    go_enter Tryz.func26, Tryz.ntmps26
    go_wp2
    go_ret
    exact ⟨rfl, h, Side.refl w⟩
  | false =>
    rw [hb] at c10
    by_cases h0 : D.flush.1 = 0
    · rw [if_neg (by simp), if_pos h0]
      rw [h0] at hf
      clear h h0 hb
      go_enter Tryz.func26, Tryz.ntmps26
      go_wp2_with fail
      refine hf.mono ?_
      rintro e w1 ⟨rfl, h1, d1⟩
      clear hf c0 c10
      go_wp2
      go_ret
      exact ⟨rfl, h1.front2, d1⟩
    · rw [if_neg (by simp), if_neg h0]
      have h0b : (D.flush.1 == 0) = false := by simpa using h0
      generalize D.flush.1 = v at hf h0b
      clear h h0 hb
      go_enter Tryz.func26, Tryz.ntmps26
      go_wp2_with fail
      refine hf.mono ?_
      rintro e w1 ⟨rfl, h1, d1⟩
      have hfl := fail_any w1 j d J _ h1.front2
      clear hf c0 c10 h1
      go_wp2_with fail
      refine hfl.mono ?_
      rintro e w2 ⟨rfl, h2, d2⟩
      clear hfl
      go_wp2
      go_ret
      exact ⟨rfl, h2, d1.trans d2⟩
def LoadXQ (S : Hp) (j d r t : Nat) (R : (Int × List UInt8) × Jr × Dev) (F : Assn) (w : World) (e : Ending) (w' : World) : Prop :=
  ∃ dv, e = .returned (.tuple #[dv, .int .i64 R.1.1]) ∧ Sat w' (ansA 5 R.1 dv * (jrX j d r t R.2.1 * (devA S d R.2.2 * (pool S * F)))) ∧ Side w w'
/-- load, Read: what they tell. -/
def LoadQ (S : Hp) (j d : Nat) (R : (Int × List UInt8) × Jr × Dev) (F : Assn) (w : World) (e : Ending) (w' : World) : Prop :=
  ∃ dv, e = .returned (.tuple #[dv, .int .i64 R.1.1]) ∧ Sat w' (ansA 5 R.1 dv * (jrA j d R.2.1 * (devA S d R.2.2 * (pool S * F)))) ∧ Side w w'
theorem bs_at {w : World} {v : Value} {l : List UInt8} {F : Assn} (h : Sat w (bs 5 v l * F)) (hl : 0 < l.length) (hm : l.length ≤ 1000000) :
    ∃ g c, v = .slice (some ⟨g, 0, none⟩) l.length c ∧ l.length ≤ c ∧ ∀ o, o < l.length → w.cell? ⟨g, o, none⟩ = some (u8 (l.getD o 0)) := by
  rcases h.slCases with ⟨_, h0, _⟩ | ⟨g, cap, cur, rfl, h3, h4, h5, h6, hF⟩
  · omega
  · refine ⟨g, cap, rfl, h3, fun o ho => ?_⟩
    rw [hF.cell]
    have e := congrArg (·[o]?) h6
    simp only [List.getElem?_take, Nat.mul_one, ho, if_true, List.getElem?_map, Array.getElem?_toList] at e
    rw [e, List.getElem?_eq_getElem ho, List.getD, List.getElem?_eq_getElem ho]; rfl
end Go.Proofs.YtlfooilcngjeiaaGreat

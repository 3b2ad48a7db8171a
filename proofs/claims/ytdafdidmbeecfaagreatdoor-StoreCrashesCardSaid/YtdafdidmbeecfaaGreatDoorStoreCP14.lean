/- Steps towards the statement StoreC. -/
import Derived.Test.YtdafdidmbeecfaaGreatDoorStoreCP12
import Derived.Test.YtdafdidmbeecfaaGreatDoorStoreCP13
section
namespace Go.SL
set_option linter.unusedVariables false
set_option linter.unusedSimpArgs false
open Go.RowKit
structure Jr where
 P : Nat
 T : Tb
 n : Int
 ep : Int
 st : Int
 sq : Int
 hd : Int
 us : Int
 fr : Int
 br : Bool
def ringL (P : Nat) : List Int := (List.range P).map fun i : Nat => (i : Int) + 1
theorem ringL_length (P : Nat) : (ringL P).length = P := by simp [ringL]
theorem ringL_get {P k : Nat} (h : k < P) : (ringL P).getD k 0 = (k : Int) + 1 := by simp [ringL, List.getD, h]
def Jr.cells (J : Jr) (d r t : Nat) : Array Value :=
 #[ptV d, ptV r, ptV t, .int .i64 J.n, .int .u32 J.ep, .int .u64 J.st, .int .u64 J.sq, .int .i64 J.hd, .int .i64 J.us, .int .i64 J.fr, .bool J.br]
def jrX (j d r t : Nat) (J : Jr) : Assn := pt j (.cells (J.cells d r t) 98 (0, 0)) * (ringA r (ringL J.P) * tableA t J.T)
def jrA (j d : Nat) (J : Jr) : Assn := ex fun x : Nat × Nat => pt j (.cells (J.cells d x.1 x.2) 98 (0, 0)) * (ringA x.1 (ringL J.P) * tableA x.2 J.T)
structure Jr.Ok (J : Jr) : Prop where
 p0 : 0 < J.P
 p1 : J.P ≤ 20000
 T : J.T.Ok
 ps : (J.T.ps.length : Int) = J.n
 os : J.T.os.length = J.P
 us0 : 0 ≤ J.us
 us1 : J.us ≤ J.P
 hd0 : 0 ≤ J.hd
 hd1 : J.hd < J.P
 fr0 : 0 ≤ J.fr
 fr1 : J.fr ≤ 48
theorem Sat.jrOpen {w : World} {j d : Nat} {J : Jr} {F : Assn} (h : Sat w (jrA j d J * F)) : ∃ r t, Sat w (pt j (.cells (J.cells d r t) 98 (0, 0)) * (ringA r (ringL J.P) * (tableA t J.T * F))) := by
 obtain ⟨x, h⟩ := Sat.ex_star_iff.1 h
 exact ⟨x.1, x.2, h.to (by ac_rfl)⟩
theorem Sat.jrShut {w : World} {j d r t : Nat} {J : Jr} {F : Assn} (h : Sat w (pt j (.cells (J.cells d r t) 98 (0, 0)) * (ringA r (ringL J.P) * (tableA t J.T * F)))) : Sat w (jrA j d J * F) :=
 Sat.ex_star_iff.2 ⟨(r, t), h.to (by ac_rfl)⟩
theorem Sat.jrOfX {w : World} {j d r t : Nat} {J : Jr} {F : Assn} (h : Sat w (jrX j d r t J * F)) : Sat w (jrA j d J * F) := Sat.ex_star_iff.2 ⟨(r, t), h⟩
theorem Sat.jrToX {w : World} {j d : Nat} {J : Jr} {F : Assn} (h : Sat w (jrA j d J * F)) : ∃ r t, Sat w (jrX j d r t J * F) := by
 obtain ⟨x, h⟩ := Sat.ex_star_iff.1 h
 exact ⟨x.1, x.2, h⟩
theorem Sat.jrShutX {w : World} {j d r t : Nat} {J : Jr} {F : Assn} (h : Sat w (pt j (.cells (J.cells d r t) 98 (0, 0)) * (ringA r (ringL J.P) * (tableA t J.T * F)))) : Sat w (jrX j d r t J * F) := h.to (by unfold jrX; ac_rfl)
theorem Sat.jrOpenX {w : World} {j d r t : Nat} {J : Jr} {F : Assn} (h : Sat w (jrX j d r t J * F)) : Sat w (pt j (.cells (J.cells d r t) 98 (0, 0)) * (ringA r (ringL J.P) * (tableA t J.T * F))) := h.to (by unfold jrX; ac_rfl)
def Jr.load (J : Jr) (D : Dev) (id place : Int) : (Int × List UInt8) × Jr × Dev :=
 let R := D.read (place % (J.P : Int) + 1)
 if R.1.1 = 0 then
  match decodeF R.1.2 with
  | some (t, b) => if t.id = id then ((0, b), J, R.2) else ((2, []), { J with br := true }, R.2)
  | none => ((2, []), { J with br := true }, R.2)
 else ((2, []), { J with br := true }, R.2)
def Jr.read (J : Jr) (D : Dev) (id : Int) : (Int × List UInt8) × Jr × Dev :=
 if id < 0 ∨ J.n ≤ id then ((1, []), J, D)
 else if J.br then ((2, []), J, D)
 else match told J.T.ps id with
  | none => ((0, zs 480), J, D)
  | some p => J.load D id p
def Jr.flush (J : Jr) (D : Dev) : Int × Jr × Dev :=
 if J.br then (2, J, D) else if D.flush.1 = 0 then (0, J, D.flush.2) else (2, { J with br := true }, D.flush.2)
end Go.SL
namespace Go.Proofs.YtdafdidmbeecfaaGreatDoor
set_option linter.unusedVariables false
set_option linter.unusedSimpArgs false
open Go.RowKit Go.SL
def JrXQ (j d r t : Nat) (J : Jr) (v : Value) (F : Assn) (w : World) (e : Ending) (w' : World) : Prop := e = .returned v ∧ Sat w' (jrX j d r t J * F) ∧ Side w w'
theorem fail_anyX (w : World) (j d r t : Nat) (J : Jr) (F : Assn) (h : Sat w (jrX j d r t J * F)) :
  Calls Tryz.prog 78 #[ptV j] w (JrXQ j d r t { J with br := true } (.int .i64 2) F w) := by
 have hx : Sat w (pt j (.cells (J.cells d r t) 98 (0, 0)) * (ringA r (ringL J.P) * (tableA t J.T * F))) := h.to (by unfold jrX; ac_rfl)
 have hc : w.cell? ⟨j, 10, none⟩ = some (.bool J.br) := hx.cell 10
 have hf := hx.frozen 10
 have h2 := hx.setCell 10 (.bool true)
 have H2 := SL.hid h2
 clear h hx h2
 go_enter Tryz.func78, Tryz.ntmps78
 go_wp2
 go_ret
 exact ⟨rfl, Sat.jrShutX (J := { J with br := true }) H2.out, (Side.refl w).setCell _ _⟩
def JrQ (j d : Nat) (J : Jr) (v : Value) (F : Assn) (w : World) (e : Ending) (w' : World) : Prop := e = .returned v ∧ Sat w' (jrA j d J * F) ∧ Side w w'
theorem fail_any (w : World) (j d : Nat) (J : Jr) (F : Assn) (h : Sat w (jrA j d J * F)) :
  Calls Tryz.prog 78 #[ptV j] w (JrQ j d { J with br := true } (.int .i64 2) F w) := by
 obtain ⟨r, t, hx⟩ := h.jrToX
 exact (fail_anyX w j d r t J F hx).mono fun _ _ ⟨a, b, c⟩ => ⟨a, b.jrOfX, c⟩
theorem room_any (w : World) (j d : Nat) (J : Jr) (F : Assn) (h : Sat w (jrA j d J * F)) (hJ : J.Ok) :
  Calls Tryz.prog 17 #[ptV j] w (Tells (.int .i64 ((J.P : Int) - J.us - J.fr)) w) := by
 obtain ⟨r, t, hx⟩ := h.jrOpen
 have c1 : w.cell? ⟨j, 1, none⟩ = some (ptV r) := hx.cell 1
 have c8 : w.cell? ⟨j, 8, none⟩ = some (.int .i64 J.us) := hx.cell 8
 have c9 : w.cell? ⟨j, 9, none⟩ = some (.int .i64 J.fr) := hx.cell 9
 have hR := hx.front2
 have hlen : ∀ w', Sat w' (ringA r (ringL J.P) * (pt j (.cells (J.cells d r t) 98 (0, 0)) * (tableA t J.T * F))) → Calls Tryz.prog 52 #[ptV r] w' (IntIs J.P w') := fun w' h => by
  have := ringLen_any w' r (ringL J.P) _ h
  rwa [ringL_length] at this
 obtain ⟨p0, p1, _, _, _, u0, u1, _, _, f0, f1⟩ := hJ
 have hl := hlen w hR
 have hld := hlen w.drew hR
 have hP : (J.P : Int) ≤ 20000 := by omega
 have hP0 : 0 ≤ (J.P : Int) := by omega
 have hu2 : J.us ≤ 20000 := by omega
 clear h hx hR hlen
 go_enter Tryz.func17, Tryz.ntmps17
 have s1 : IntKind.i64.wrap ((J.P : Int) - J.us) = (J.P : Int) - J.us := by rw [IntKind.wrap_i64]; omega
 have s2 : IntKind.i64.wrap ((J.P : Int) - J.us - J.fr) = (J.P : Int) - J.us - J.fr := by rw [IntKind.wrap_i64]; omega
 go_wp2_with fail
 go_region_held3 (fun w' => w'.cell? ⟨j, 1, none⟩ = some (ptV r) ∧ w'.cell? ⟨j, 8, none⟩ = some (.int .i64 J.us) ∧ w'.cell? ⟨j, 9, none⟩ = some (.int .i64 J.fr)) (first | exact ⟨c1, c8, c9⟩) (first
  | (go_at_call 52; (with_reducible refine hld.mono ?_); rintro e w1 ⟨rfl, rfl⟩))
 go_wp2
 go_ret
 exact ⟨rfl, (Sat.whole w).drew, (Side.refl w).drew⟩
def FlushQ (S : Hp) (j d : Nat) (R : Int × Jr × Dev) (F : Assn) (w : World) (e : Ending) (w' : World) : Prop :=
 e = .returned (.int .i64 R.1) ∧ Sat w' (jrA j d R.2.1 * (devA S d R.2.2 * F)) ∧ Side w w'
set_option maxRecDepth 100000 in
theorem jflush_any (w : World) (S : Hp) (j d : Nat) (J : Jr) (D : Dev) (F : Assn) (h : Sat w (jrA j d J * (devA S d D * F))) (hD : D.Ok) :
  Calls Tryz.prog 54 #[ptV j] w (FlushQ S j d (J.flush D) F w) := by
 obtain ⟨r, t, hx⟩ := h.jrOpen
 have c10 : w.cell? ⟨j, 10, none⟩ = some (.bool J.br) := hx.cell 10
 have c0 : w.cell? ⟨j, 0, none⟩ = some (ptV d) := hx.cell 0
 have hf := flush_any w S d D _ h.front2 hD
 clear hx
 unfold Jr.flush
 cases hb : J.br with
 | true =>
  rw [hb] at c10
  clear hf
  go_enter Tryz.func54, Tryz.ntmps54
  go_wp2
  go_ret
  exact ⟨rfl, h, Side.refl w⟩
 | false =>
  rw [hb] at c10
  by_cases h0 : D.flush.1 = 0
  ·rw [if_neg (by simp), if_pos h0]
   rw [h0] at hf
   clear h h0 hb
   go_enter Tryz.func54, Tryz.ntmps54
   go_wp2_with fail
   refine hf.mono ?_
   rintro e w1 ⟨rfl, h1, d1⟩
   clear hf c0 c10
   go_wp2
   go_ret
   exact ⟨rfl, h1.front2, d1⟩
  ·rw [if_neg (by simp), if_neg h0]
   have h0b : (D.flush.1 == 0) = false := by simpa using h0
   generalize D.flush.1 = v at hf h0b
   clear h h0 hb
   go_enter Tryz.func54, Tryz.ntmps54
   go_wp2_with fail
   refine hf.mono ?_
   rintro e w1 ⟨rfl, h1, d1⟩
   have hfl := fail_any w1 j d J _ h1.front2
   clear hf c0 c10 h1
   go_wp2_with fail
   refine hfl.mono ?_
   rintro e w2 ⟨rfl, h2, d2⟩
   clear hfl
   go_wp2
   go_ret
   exact ⟨rfl, h2, d1.trans d2⟩
def LoadXQ (S : Hp) (j d r t : Nat) (R : (Int × List UInt8) × Jr × Dev) (F : Assn) (w : World) (e : Ending) (w' : World) : Prop :=
 ∃ dv, e = .returned (.tuple #[dv, .int .i64 R.1.1]) ∧ Sat w' (ansA 5 R.1 dv * (jrX j d r t R.2.1 * (devA S d R.2.2 * (pool S * F)))) ∧ Side w w'
def LoadQ (S : Hp) (j d : Nat) (R : (Int × List UInt8) × Jr × Dev) (F : Assn) (w : World) (e : Ending) (w' : World) : Prop :=
 ∃ dv, e = .returned (.tuple #[dv, .int .i64 R.1.1]) ∧ Sat w' (ansA 5 R.1 dv * (jrA j d R.2.1 * (devA S d R.2.2 * (pool S * F)))) ∧ Side w w'
theorem bs_at {w : World} {v : Value} {l : List UInt8} {F : Assn} (h : Sat w (bs 5 v l * F)) (hl : 0 < l.length) (hm : l.length ≤ 1000000) :
  ∃ g c, v = .slice (some ⟨g, 0, none⟩) l.length c ∧ l.length ≤ c ∧ ∀ o, o < l.length → w.cell? ⟨g, o, none⟩ = some (u8 (l.getD o 0)) := by
 rcases h.slCases with ⟨_, h0, _⟩ | ⟨g, cap, cur, rfl, h3, h4, h5, h6, hF⟩
 ·omega
 ·refine ⟨g, cap, rfl, h3, fun o ho => ?_⟩
  rw [hF.cell]
  have e := congrArg (·[o]?) h6
  simp only [List.getElem?_take, Nat.mul_one, ho, if_true, List.getElem?_map, Array.getElem?_toList] at e
  rw [e, List.getElem?_eq_getElem ho, List.getD, List.getElem?_eq_getElem ho]; rfl
end Go.Proofs.YtdafdidmbeecfaaGreatDoor
end
section
namespace Go.Proofs.YtdafdidmbeecfaaGreatDoor
set_option linter.unusedVariables false
set_option linter.unusedSimpArgs false
open Go.RowKit Go.SL
theorem tells_len (D : Dev) (a : Int) (h : (D.tells a).1 = 0) : (D.tells a).2.length = 512 := by
 unfold Dev.tells at h ⊢
 split
 ·exact padTo_length _ _
 ·rename_i hn
  rw [hn] at h
  simp only at h
  split
  ·rename_i h2; rw [if_pos h2] at h; cases h
  ·exact padTo_length _ _
theorem read_len (D : Dev) (a : Int) (h : (D.read a).1.1 = 0) : (D.read a).1.2.length = 512 := by
 unfold Dev.read at h ⊢
 split
 ·rename_i h1
  rw [if_pos h1] at h
  split
  ·rename_i h2; rw [if_pos h2] at h; exact tells_len _ _ h
  ·rename_i h2; rw [if_neg h2] at h; cases h
 ·rename_i h1; rw [if_neg h1] at h; cases h
set_option maxRecDepth 100000 in
set_option maxHeartbeats 2000000 in
theorem load_anyX (w : World) (S : Hp) (j d r t : Nat) (J : Jr) (D : Dev) (id place : Int) (F : Assn) (h : Sat w (jrX j d r t J * (devA S d D * (pool S * F)))) (hJ : J.Ok) (hD : D.Ok) :
  Calls Tryz.prog 61 #[ptV j, .int .i64 id, .int .i64 place] w (LoadXQ S j d r t (J.load D id place) F w) := by
 have hx : Sat w (pt j (.cells (J.cells d r t) 98 (0, 0)) * (ringA r (ringL J.P) * (tableA t J.T * (devA S d D * (pool S * F))))) := h.to (by unfold jrX; ac_rfl)
 have c0 : w.cell? ⟨j, 0, none⟩ = some (ptV d) := hx.cell 0
 have c1 : w.cell? ⟨j, 1, none⟩ = some (ptV r) := hx.cell 1
 have hp0 := hJ.p0
 have hp1 := hJ.p1
 have hget := get_any w.drew r (ringL J.P) place _ hx.front2.drew (by rw [ringL_length]; exact hp0) (by rw [ringL_length]; omega)
 obtain ⟨k, hk, hkl⟩ := mod_nat place hp0
 rw [ringL_length, hk, Int.toNat_natCast, ringL_get hkl, ← hk] at hget
 obtain ⟨O, hO⟩ : ∃ O, O = J.load D id place := ⟨_, rfl⟩
 rw [← hO]
 have hlen := read_len D (place % (J.P : Int) + 1)
 obtain ⟨R, hR⟩ : ∃ R, R = D.read (place % (J.P : Int) + 1) := ⟨_, rfl⟩
 rw [← hR] at hlen
 have hrd : ∀ w', Sat w' (pt j (.cells (J.cells d r t) 98 (0, 0)) * (ringA r (ringL J.P) * (tableA t J.T * (devA S d D * (pool S * F))))) → Calls Tryz.prog 63 #[ptV d, .int .i64 (place % (J.P : Int) + 1)] w' (ReadQ S d R.2 R.1 (pt j (.cells (J.cells d r t) 98 (0, 0)) * (ringA r (ringL J.P) * (tableA t J.T * F))) w') := fun w' h' => by
  rw [hR]; exact read_any w' S d D _ _ (h'.to (by ac_rfl)) hD
 unfold Jr.load at hO
 rw [← hR] at hO
 have HO1 : Hid (R.1.1 ≠ 0 → O = ((2, []), { J with br := true }, R.2)) := fun q => by rw [hO]; simp only [if_neg q]
 have HO2 : Hid (R.1.1 = 0 → decodeF R.1.2 = none → O = ((2, []), { J with br := true }, R.2)) := fun q q2 => by rw [hO]; simp only [if_pos q, q2]
 have HO3 : Hid (R.1.1 = 0 → ∀ t b, decodeF R.1.2 = some (t, b) → t.id ≠ id → O = ((2, []), { J with br := true }, R.2)) := fun q t b q2 q3 => by rw [hO]; simp only [if_pos q, q2, if_neg q3]
 have HO4 : Hid (R.1.1 = 0 → ∀ t b, decodeF R.1.2 = some (t, b) → t.id = id → O = ((0, b), J, R.2)) := fun q t b q2 q3 => by rw [hO]; simp only [if_pos q, q2, if_pos q3]
 clear hO
 have Hrd := SL.hid hrd
 have Hlen := SL.hid hlen
 generalize place % (J.P : Int) + 1 = sec at *
 clear hk hkl hrd hR hlen
 obtain ⟨⟨rc, rl⟩, D'⟩ := R
 simp only at Hlen Hrd HO1 HO2 HO3 HO4
 go_enter Tryz.func61, Tryz.ntmps61
 go_wp2_with fail
 go_region_held3 (fun w' => w'.cell? ⟨j, 0, none⟩ = some (ptV d) ∧ w'.cell? ⟨j, 1, none⟩ = some (ptV r)) (first | (with_reducible exact ⟨a0, a1⟩) | (with_reducible exact ⟨b0, b1⟩) | exact ⟨c0, c1⟩) (first
  | (go_at_call 82; (with_reducible refine hget.mono ?_); rintro e w1 ⟨rfl, h1, d1⟩; have H1 := h1.keepW (Sat.drew hx); have a0 : w1.cell? ⟨j, 0, none⟩ = some (ptV d) := H1.cell 0; have a1 : w1.cell? ⟨j, 1, none⟩ = some (ptV r) := H1.cell 1; have hrd1 := Hrd.out w1 H1)
  | (go_at_call 63; (with_reducible refine hrd1.mono ?_); rintro e w2 ⟨dv, rfl, h2, d2⟩; have b0 : w2.cell? ⟨j, 0, none⟩ = some (ptV d) := h2.front4.cell 0; have b1 : w2.cell? ⟨j, 1, none⟩ = some (ptV r) := h2.front4.cell 1))
 have D2 := ((Side.refl w).drew.trans d1).trans d2
 have h3 : Sat w2 (ansA 5 (rc, rl) dv * (jrX j d r t J * (devA S d D' * (pool S * F)))) := h2.to (by unfold jrX; ac_rfl)
 clear h hx c0 c1 hget h1 d1 H1 a0 a1 hrd1 d2 b0 b1 h2 Hrd
 by_cases hrc : rc = 0
 ·subst hrc
  have h4 := h3.ansYes
  have hl := Hlen.out rfl
  obtain ⟨g, cap, rfl, hcap, hcells⟩ := bs_at h4 (by omega) (by omega)
  rw [hl] at hcap hcells
  have hcapm : cap ≤ maxLen := by
   rcases h4.slCases with ⟨hv, _⟩ | ⟨g', cap', cur, hv, h5, h6, _⟩
   ·cases hv
   ·cases hv; exact h6
  have hdec := decode_any rl hl g cap hcap hcapm w2 hcells
  have Hl := SL.hid hl
  rw [hl]
  clear h3 hcells hl hcap hcapm
  match hd : decodeF rl with
  | none =>
   rw [hd] at hdec
   have ho := HO2.out rfl hd
   clear hd HO1 HO2 HO3 HO4
   go_wp2_with fail
   refine hdec.mono ?_
   rintro e w3 ⟨rfl, h5, d3⟩
   have H5 := (h5.keepW h4).right
   have H6 := H5.alloc (.cells Tg.zero.cells 121 (0, 0))
   have D5 := (D2.trans d3).alloc (.cells Tg.zero.cells 121 (0, 0))
   have hfl := fail_anyX _ j d r t J _ H6.right
   have Ho := SL.hid ho
   clear hdec h4 h5 H5 H6 ho
   simp only [Tg.cells, Tg.zero] at hfl D5 ⊢
   go_wp2_with fail
   refine hfl.mono ?_
   rintro e w4 ⟨rfl, h6, d4⟩
   clear hfl
   go_wp2
   go_ret2
   refine ⟨.slice none 0 0, by rw [Ho.out]; rfl, ?_, D5.trans d4⟩
   rw [Ho.out]
   exact Sat.ansNil h6 (show (2 : Int) ≠ 0 by decide)
  | some (t', b) =>
   rw [hd] at hdec
   by_cases hid' : t'.id = id
   ·have ho := HO4.out rfl t' b hd hid'
    have Ho := SL.hid ho
    have hidb : (t'.id != id) = false := by simp [hid']
    clear hd HO1 HO2 HO3 HO4 ho hid'
    go_wp2_with fail
    refine hdec.mono ?_
    rintro e w3 ⟨v, rfl, h5, d3⟩
    have H5 := (h5.under h4).drop2
    have H6 := H5.alloc (.cells t'.cells 121 (0, 0))
    have D5 := (D2.trans d3).alloc (.cells t'.cells 121 (0, 0))
    clear hdec h4 h5 H5
    simp only [Tg.cells] at H6 D5 ⊢
    go_wp2
    go_ret2
    refine ⟨v, by rw [Ho.out]; rfl, ?_, D5⟩
    rw [Ho.out]
    exact Sat.ansOf H6.right
   ·have ho := HO3.out rfl t' b hd hid'
    have Ho := SL.hid ho
    have hidb : (t'.id != id) = true := by simpa using hid'
    clear hd HO1 HO2 HO3 HO4 ho hid'
    go_wp2_with fail
    refine hdec.mono ?_
    rintro e w3 ⟨v, rfl, h5, d3⟩
    have H5 := (h5.under h4).right.right
    have H6 := H5.alloc (.cells t'.cells 121 (0, 0))
    have D5 := (D2.trans d3).alloc (.cells t'.cells 121 (0, 0))
    have hfl := fail_anyX _ j d r t J _ H6.right
    clear hdec h4 h5 H5 H6
    simp only [Tg.cells] at hfl D5 ⊢
    go_wp2_with fail
    refine hfl.mono ?_
    rintro e w4 ⟨rfl, h6, d4⟩
    clear hfl
    go_wp2
    go_ret2
    refine ⟨.slice none 0 0, by rw [Ho.out]; rfl, ?_, D5.trans d4⟩
    rw [Ho.out]
    exact Sat.ansNil h6 (show (2 : Int) ≠ 0 by decide)
 ·have hrb : (rc == 0) = false := by simpa using hrc
  have ho := HO1.out hrc
  have Ho := SL.hid ho
  obtain ⟨rfl, h4⟩ := h3.ansNo hrc
  have hfl := fail_anyX _ j d r t J _ h4
  clear h3 h4 ho HO1 HO2 HO3 HO4 hrc
  go_wp2_with fail
  refine hfl.mono ?_
  rintro e w4 ⟨rfl, h6, d4⟩
  clear hfl
  go_wp2
  go_ret2
  refine ⟨.slice none 0 0, by rw [Ho.out]; rfl, ?_, D2.trans d4⟩
  rw [Ho.out]
  exact Sat.ansNil h6 (show (2 : Int) ≠ 0 by decide)
theorem load_any (w : World) (S : Hp) (j d : Nat) (J : Jr) (D : Dev) (id place : Int) (F : Assn) (h : Sat w (jrA j d J * (devA S d D * (pool S * F)))) (hJ : J.Ok) (hD : D.Ok) :
  Calls Tryz.prog 61 #[ptV j, .int .i64 id, .int .i64 place] w (LoadQ S j d (J.load D id place) F w) := by
 obtain ⟨r, t, hx⟩ := h.jrToX
 exact (load_anyX w S j d r t J D id place F hx hJ hD).mono fun _ _ ⟨dv, a, b, c⟩ => ⟨dv, a, Sat.front2 (b.front2.jrOfX), c⟩
set_option maxRecDepth 100000 in
set_option maxHeartbeats 2000000 in
theorem jread_any (w : World) (S : Hp) (j d : Nat) (J : Jr) (D : Dev) (id : Int) (F : Assn) (h : Sat w (jrA j d J * (devA S d D * (pool S * F)))) (hJ : J.Ok) (hD : D.Ok) :
  Calls Tryz.prog 21 #[ptV j, .int .i64 id] w (LoadQ S j d (J.read D id) F w) := by
 obtain ⟨r, t, hx⟩ := h.jrOpen
 have c2 : w.cell? ⟨j, 2, none⟩ = some (ptV t) := hx.cell 2
 have c3 : w.cell? ⟨j, 3, none⟩ = some (.int .i64 J.n) := hx.cell 3
 have c10 : w.cell? ⟨j, 10, none⟩ = some (.bool J.br) := hx.cell 10
 have ha := at_any w t J.T id _ hx.front3
 have hl := fun p => load_any w S j d J D id p F h hJ hD
 unfold Jr.read
 clear hx
 by_cases h0 : id < 0
 ·rw [if_pos (.inl h0)]
  clear ha hl
  go_enter Tryz.func21, Tryz.ntmps21
  go_wp2
  go_ret2
  exact ⟨_, rfl, Sat.ansNil h (show (1 : Int) ≠ 0 by decide), Side.refl w⟩
 ·by_cases h1 : J.n ≤ id
  ·rw [if_pos (.inr h1)]
   clear ha hl
   go_enter Tryz.func21, Tryz.ntmps21
   go_wp2
   go_ret2
   exact ⟨_, rfl, Sat.ansNil h (show (1 : Int) ≠ 0 by decide), Side.refl w⟩
  ·rw [if_neg (by rintro (q | q) <;> contradiction)]
   cases hb : J.br with
   | true =>
    rw [hb] at c10
    rw [if_pos rfl]
    clear ha hl
    go_enter Tryz.func21, Tryz.ntmps21
    go_wp2
    go_ret2
    exact ⟨_, rfl, Sat.ansNil h (show (2 : Int) ≠ 0 by decide), Side.refl w⟩
   | false =>
    rw [hb] at c10
    rw [if_neg (by simp)]
    cases hm : told J.T.ps id with
    | none =>
     rw [hm] at ha
     simp only
     have hmk : ∀ w, (Instr.makeSlice 22 (.int .i64 480) (.int .i64 480)).run Tryz.prog w =
      .ok (.slice (some ⟨w.heap.size, 0, none⟩) 480 480) (w.alloc (.cells (u8s (zs 480)) 5 (0, 0))) := make_bytes 480 (by omega)
     have hA := h.alloc (.cells (u8s (zs 480)) 5 (0, 0))
     clear hl hm
     go_enter Tryz.func21, Tryz.ntmps21
     go_wp2_with fail
     refine ha.mono ?_
     rintro e w1 ⟨rfl, rfl⟩
     unfold toldV
     clear ha
     go_wp2
     go_ret2
     exact ⟨_, rfl, Sat.ansOf (bs_of_pt (length_zs 480) hA), (Side.refl w).alloc _⟩
    | some p =>
     rw [hm] at ha
     simp only
     have hlp := hl p
     clear hl hm h
     generalize J.load D id p = O at hlp ⊢
     go_enter Tryz.func21, Tryz.ntmps21
     go_wp2_with fail
     refine ha.mono ?_
     rintro e w1 ⟨rfl, rfl⟩
     unfold toldV
     clear ha
     go_wp2_with fail
     refine hlp.mono ?_
     rintro e w2 ⟨dv, rfl, h2, d2⟩
     clear hlp
     go_wp2
     go_ret2
     exact ⟨dv, rfl, h2, d2⟩
end Go.Proofs.YtdafdidmbeecfaaGreatDoor
end
section
namespace Go.SL
set_option linter.unusedVariables false
set_option linter.unusedSimpArgs false
open Go.RowKit
structure Js where
 ep : Int
 st : Int
 sq : Int
 hd : Int
 us : Int
 at_ : List Int
def Js.v (s : Js) (a : Value) : Value := .agg #[.int .u32 s.ep, .int .u64 s.st, .int .u64 s.sq, .int .i64 s.hd, .int .i64 s.us, a]
def jAhead (P hd v : Int) : Int := if hd - v ≤ 0 then hd - v + P else hd - v
def Js.okAt (P : Int) (s : Js) (k : Nat) : Prop :=
 s.at_.getD k 0 = -1 ∨ (0 ≤ s.at_.getD k 0 ∧ s.at_.getD k 0 < P ∧ s.at_.getD k 0 ∉ s.at_.take k ∧ jAhead P s.hd (s.at_.getD k 0) ≤ s.us)
instance (P : Int) (s : Js) (k : Nat) : Decidable (s.okAt P k) := by unfold Js.okAt; infer_instance
structure Js.Right (P : Int) (s : Js) : Prop where
 ep : 1 ≤ s.ep
 sq : s.sq ≤ 281474976710655
 st0 : 1 ≤ s.st
 st1 : s.st ≤ s.sq + 1
 hd0 : 0 ≤ s.hd
 hd1 : s.hd < P
 us0 : 0 ≤ s.us
 us1 : s.us ≤ P
 n0 : 1 ≤ s.at_.length
 n1 : s.at_.length ≤ 3840
 ok : ∀ k, k < s.at_.length → s.okAt P k
def takenN (l : List Int) : Nat → KV
 | 0 => []
 | k + 1 => if l.getD k 0 = -1 then takenN l k else takenN l k ++ [(l.getD k 0, .int .i64 (k : Int))]
theorem takenN_mem (l : List Int) (k : Nat) (hk : k ≤ l.length) (v : Int) (hv : v ≠ -1) : v ∈ (takenN l k).map Prod.fst ↔ v ∈ l.take k := by
 induction k with
 | zero => simp [takenN]
 | succ k ih =>
  have ih := ih (by omega)
  have ht : l.take (k + 1) = l.take k ++ [l.getD k 0] := by
   rw [List.take_add_one, List.getD, List.getElem?_eq_getElem (by omega)]; rfl
  rw [ht, takenN]
  split
  ·rename_i h; rw [ih, h]; simp [hv]
  ·rw [List.map_append, List.mem_append, List.mem_append, ih]; simp
theorem takenN_kget {l : List Int} {k : Nat} (hk : k ≤ l.length) {v : Int} (hv : v ≠ -1) : (kget (takenN l k) v).isSome = decide (v ∈ l.take k) := by
 rw [Bool.eq_iff_iff, decide_eq_true_iff, ← takenN_mem l k hk v hv]
 cases h : kget (takenN l k) v with
 | none => simpa using look_none.1 h
 | some x =>
  have hm : v ∈ (takenN l k).map Prod.fst := Classical.byContradiction fun q => by rw [look_none.2 q] at h; cases h
  simp only [Option.isSome_some, hm]
end Go.SL
namespace Go.Proofs.YtdafdidmbeecfaaGreatDoor
set_option linter.unusedVariables false
set_option linter.unusedSimpArgs false
open Go.RowKit Go.SL
def RightQ (B : Bool) (w : World) (e : Ending) (w' : World) : Prop := e = .returned (.bool B) ∧ Sat w' (whole w) ∧ Side w w'
def RightRel (P : Int) (s : Js) (n bx m : Nat) (o : Obj) (w : World) (u : Value) (wr : World) : Prop :=
 ∃ k : Nat, k ≤ n ∧ u = .int .i64 (k : Int) ∧ (∀ i, i < k → s.okAt P i) ∧ Sat wr (mp m (takenN s.at_ k) * (pt bx o * whole w)) ∧ Side w wr
set_option maxRecDepth 100000 in
set_option maxHeartbeats 4000000 in
theorem right_any' (P : Int) (s : Js) (a : Value) (w : World) (hP : P ≤ 9223372036854775807) (hP0 : -9223372036854775808 ≤ P) (hq : 0 ≤ s.sq) (hl : s.at_.length ≤ 9223372036854775807) (ha : RdI w a s.at_) (B : Bool) (hB : B = true ↔ s.Right P) :
    Calls Tryz.prog 95 #[.int .i64 P, s.v a] w (RightQ B w) := by
  have HB := SL.hid hB
  have no : Hid (¬ s.Right P → B = false) := fun h => by cases hb : B; · rfl
                                                         · exact absurd (hB.1 hb) h
  clear hB
  obtain ⟨n, hn⟩ : ∃ n, n = s.at_.length := ⟨_, rfl⟩
  obtain ⟨aa, ac, hav⟩ : ∃ aa ac, a = .slice aa n ac := by
    rcases ha with ⟨_, _, rfl, h⟩ | ⟨g, o, c, rfl, _⟩
    · rw [hn, h]; exact ⟨_, _, rfl⟩
    · rw [hn]; exact ⟨_, _, rfl⟩
  subst hav
  rw [← hn] at hl
  have Hn := SL.hid hn
  clear hn
  unfold Js.v
  have hbox := (Sat.whole w).alloc (.cells #[.int .u32 s.ep, .int .u64 s.st, .int .u64 s.sq, .int .i64 s.hd, .int .i64 s.us, .slice aa n ac] 86 (0, 0))
  have hsd := (Side.refl w).alloc (.cells #[.int .u32 s.ep, .int .u64 s.st, .int .u64 s.sq, .int .i64 s.hd, .int .i64 s.us, .slice aa n ac] 86 (0, 0))
  by_cases h1 : s.ep < 1
  · have e := no.out fun h => by have := h.ep; omega
    subst e
    go_enter Tryz.func95, Tryz.ntmps95
    go_wp2
    go_ret
    exact ⟨rfl, hbox.right, hsd⟩
  by_cases h2 : 281474976710655 < s.sq
  · have e := no.out fun h => by have := h.sq; omega
    subst e
    go_enter Tryz.func95, Tryz.ntmps95
    go_wp2
    go_ret
    exact ⟨rfl, hbox.right, hsd⟩
  by_cases h3 : s.st < 1
  · have e := no.out fun h => by have := h.st0; omega
    subst e
    go_enter Tryz.func95, Tryz.ntmps95
    go_wp2
    go_ret
    exact ⟨rfl, hbox.right, hsd⟩
  have hwr : IntKind.u64.wrap (s.sq + 1) = s.sq + 1 := by rw [IntKind.wrap_u64]; omega
  by_cases h4 : s.sq + 1 < s.st
  · have e := no.out fun h => by have := h.st1; omega
    subst e
    go_enter Tryz.func95, Tryz.ntmps95
    go_wp2
    go_ret
    exact ⟨rfl, hbox.right, hsd⟩
  by_cases h5 : s.hd < 0
  · have e := no.out fun h => by have := h.hd0; omega
    subst e
    go_enter Tryz.func95, Tryz.ntmps95
    go_wp2
    go_ret
    exact ⟨rfl, hbox.right, hsd⟩
  by_cases h6 : P ≤ s.hd
  · have e := no.out fun h => by have := h.hd1; omega
    subst e
    go_enter Tryz.func95, Tryz.ntmps95
    go_wp2
    go_ret
    exact ⟨rfl, hbox.right, hsd⟩
  by_cases h7 : s.us < 0
  · have e := no.out fun h => by have := h.us0; omega
    subst e
    go_enter Tryz.func95, Tryz.ntmps95
    go_wp2
    go_ret
    exact ⟨rfl, hbox.right, hsd⟩
  by_cases h8 : P < s.us
  · have e := no.out fun h => by have := h.us1; omega
    subst e
    go_enter Tryz.func95, Tryz.ntmps95
    go_wp2
    go_ret
    exact ⟨rfl, hbox.right, hsd⟩
  by_cases h9 : n < 1
  · have e := no.out fun h => by have := h.n0; have := Hn.out; omega
    subst e
    obtain rfl : n = 0 := by omega
    go_enter Tryz.func95, Tryz.ntmps95
    go_wp2
    go_ret
    exact ⟨rfl, hbox.right, hsd⟩
  have h9' : ¬ (n : Int) < 1 := by omega
  by_cases h10 : 3840 < (n : Int)
  · have e := no.out fun h => by have := h.n1; have := Hn.out; omega
    subst e
    go_enter Tryz.func95, Tryz.ntmps95
    go_wp2
    go_ret
    exact ⟨rfl, hbox.right, hsd⟩
  have hmm := @run_makeMap_some Tryz.prog _ _ _ Tryz.underlying100
  have hm2 := ((hbox.alloc (.map #[] 0)).mpOf isMap_empty)
  have hs2 := hsd.alloc (.map #[] 0)
  rw [World.size_alloc] at hm2
  have hP1 : 1 ≤ P := by omega
  go_enter Tryz.func95, Tryz.ntmps95
  go_wp2
  generalize ((w.alloc (.cells #[.int .u32 s.ep, .int .u64 s.st, .int .u64 s.sq, .int .i64 s.hd, .int .i64 s.us, .slice aa n ac] 86 (0, 0))).alloc (.map #[] 0)) = w2 at hm2 hs2 ⊢
  generalize hbx : w.heap.size = bx at hm2 ⊢
  clear hbox hsd hmm
  go_loopw [58] (fun u wr => RightRel P s n bx (bx + 1) (.cells #[.int .u32 s.ep, .int .u64 s.st, .int .u64 s.sq, .int .i64 s.hd, .int .i64 s.us, .slice aa n ac] 86 (0, 0)) w u wr) (fun u _ => n - (intOf u).toNat)
  case atStart => exact ⟨0, Nat.zero_le _, rfl, fun i hi => absurd hi (Nat.not_lt_zero i), hm2, hs2⟩
  case round =>
    clear hm2 hs2
    obtain ⟨k, hk, rfl, hok, hsat, hside⟩ := hrel
    by_cases hlt : k < n
    · have hlt' : (k : Int) < (n : Int) := by omega
      obtain ⟨g, o, rfl, hcell⟩ : ∃ g o, aa = some ⟨g, o, none⟩ ∧ wr.cell? ⟨g, o + k, none⟩ = some (.int .i64 (s.at_.getD k 0)) := by
        have hn := Hn.out
        rcases ha with ⟨_, _, h, h0⟩ | ⟨g, o, c, h, _, _, hc⟩
        · rw [h0] at hn; simp at hn; omega
        · injection h with e1 e2 e3
          exact ⟨g, o, e1, (hsat.to (by ac_rfl : _ = (mp (bx + 1) (takenN s.at_ k) * pt bx _) * whole w)).cellOld (hc k (by omega))⟩
      have h2s := hsat.front2
      have b3 : wr.cell? ⟨bx, 3, none⟩ = some (.int .i64 s.hd) := h2s.cell 3
      have b4 : wr.cell? ⟨bx, 4, none⟩ = some (.int .i64 s.us) := h2s.cell 4
      have hkg := fun v hv => takenN_kget (l := s.at_) (k := k) (by have := Hn.out; omega) (v := v) hv
      have htk : takenN s.at_ (k + 1) = if s.at_.getD k 0 = -1 then takenN s.at_ k else takenN s.at_ k ++ [(s.at_.getD k 0, .int .i64 (k : Int))] := rfl
      have hokk : s.okAt P k ↔ (s.at_.getD k 0 = -1 ∨ (0 ≤ s.at_.getD k 0 ∧ s.at_.getD k 0 < P ∧ s.at_.getD k 0 ∉ s.at_.take k ∧ jAhead P s.hd (s.at_.getD k 0) ≤ s.us)) := Iff.rfl
      have hbad : ¬ s.okAt P k → ¬ s.Right P := fun q h => q (h.ok k (by have := Hn.out; omega))
      have hnext : s.okAt P k → ∀ i, i < k + 1 → s.okAt P i := fun q i hi => by
        rcases Nat.lt_or_eq_of_le (Nat.lt_succ_iff.1 hi) with h | h
        · exact hok i h
        · rw [h]; exact q
      generalize s.at_.getD k 0 = v at hcell htk hokk
      have hlk := Sat.lookup (P := Tryz.prog) Tryz.underlying100 Tryz.underlying3 (z := .int .i64 0) (by kernel_rfl) hsat v true
      clear ha hok h2s
      by_cases hv : v = -1
      · have hnx := hnext (hokk.2 (.inl hv))
        rw [if_pos hv] at htk
        subst hv
        have Hnx := SL.hid hnx; have Htk := SL.hid htk
        clear hnx htk hlk hkg hokk hbad hnext
        go_wp2
        go_roundw
        case rel => exact ⟨k + 1, by omega, by go_num, Hnx.out, by rw [Htk.out]; exact hsat, hside⟩
        case measure => simp [intOf]; omega
      · have hvb : (v == -1) = false := by simpa using hv
        rw [if_neg hv] at htk
        have hkv := hkg v hv
        have Htk := SL.hid htk; have Hokk := SL.hid hokk; have Hbad := SL.hid hbad; have Hnext := SL.hid hnext
        clear htk hokk hbad hnext hkg
        have ho := hsat.right.right
        by_cases hv0 : v < 0
        · have e := no.out (Hbad.out fun q => by rcases Hokk.out.1 q with q | q <;> omega)
          subst e
          clear hlk hkv
          go_wp2
          go_ret
          exact ⟨rfl, ho, hside⟩
        · by_cases hvP : P ≤ v
          · have e := no.out (Hbad.out fun q => by rcases Hokk.out.1 q with q | q <;> omega)
            subst e
            clear hlk hkv
            go_wp2
            go_ret
            exact ⟨rfl, ho, hside⟩
          · by_cases htw : v ∈ s.at_.take k
            · have e := no.out (Hbad.out fun q => by
                rcases Hokk.out.1 q with q | q
                · exact hv q
                · exact q.2.2.1 htw)
              subst e
              rw [hkv, decide_eq_true htw, if_pos rfl] at hlk
              generalize (kget (takenN s.at_ k) v).getD (.int .i64 0) = vv at hlk
              clear hkv htw
              go_wp2
              go_ret
              exact ⟨rfl, ho, hside⟩
            · have hkn : kget (takenN s.at_ k) v = none := by
                rw [decide_eq_false htw] at hkv
                cases h : kget (takenN s.at_ k) v with
                | none => rfl
                | some x => rw [h] at hkv; cases hkv
              rw [hkv, decide_eq_false htw, if_pos rfl, hkn, Option.getD_none] at hlk
              obtain ⟨w6, hup, h6, d6, ce⟩ := Sat.mapUpdate (P := Tryz.prog) Tryz.underlying100 Tryz.underlying3 hsat v (.int .i64 (k : Int))
              have e6 : SL.upd (takenN s.at_ k) v (.int .i64 (k : Int)) = takenN s.at_ k ++ [(v, .int .i64 (k : Int))] := by unfold SL.upd; rw [hkn]; rfl
              rw [e6, ← Htk.out] at h6
              have c3 : w6.cell? ⟨bx, 3, none⟩ = some (.int .i64 s.hd) := (ce.1 _).trans b3
              have c4 : w6.cell? ⟨bx, 4, none⟩ = some (.int .i64 s.us) := (ce.1 _).trans b4
              have hw1 : IntKind.i64.wrap (s.hd - v) = s.hd - v := by rw [IntKind.wrap_i64]; omega
              have D6 := hside.trans d6
              have h7 := h6.right.right
              have H6 := SL.hid h6
              have Htw := SL.hid htw
              clear hkv hkn ce e6 h6 htw ho
              by_cases hah : s.hd - v ≤ 0
              · have hw2 : IntKind.i64.wrap (s.hd - v + P) = s.hd - v + P := by rw [IntKind.wrap_i64]; omega
                have ha : jAhead P s.hd v = s.hd - v + P := by unfold jAhead; rw [if_pos hah]
                by_cases hgt : s.us < s.hd - v + P
                · have e := no.out (Hbad.out fun q => by rcases Hokk.out.1 q with q | q <;> omega)
                  subst e
                  clear ha
                  go_wp2
                  go_ret
                  exact ⟨rfl, h7, D6⟩
                · have Hx := SL.hid (Hnext.out (Hokk.out.2 (.inr ⟨by omega, by omega, Htw.out, by omega⟩)))
                  clear ha
                  go_wp2
                  go_roundw
                  case rel => exact ⟨k + 1, by omega, by go_num, Hx.out, H6.out, D6⟩
                  case measure => simp [intOf]; omega
              · have ha : jAhead P s.hd v = s.hd - v := by unfold jAhead; rw [if_neg hah]
                by_cases hgt : s.us < s.hd - v
                · have e := no.out (Hbad.out fun q => by rcases Hokk.out.1 q with q | q <;> omega)
                  subst e
                  clear ha
                  go_wp2
                  go_ret
                  exact ⟨rfl, h7, D6⟩
                · have Hx := SL.hid (Hnext.out (Hokk.out.2 (.inr ⟨by omega, by omega, Htw.out, by omega⟩)))
                  clear ha
                  go_wp2
                  go_roundw
                  case rel => exact ⟨k + 1, by omega, by go_num, Hx.out, H6.out, D6⟩
                  case measure => simp [intOf]; omega
    · obtain rfl : k = n := by omega
      have e := HB.out.2 ⟨by omega, by omega, by omega, by omega, by omega, by omega, by omega, by omega, by have := Hn.out; omega, by have := Hn.out; omega, by rw [← Hn.out]; exact hok⟩
      subst e
      have h3 := hsat.right.right
      clear hok hsat ha hlt
      go_wp2
      go_ret
      exact ⟨rfl, h3, hside⟩
end Go.Proofs.YtdafdidmbeecfaaGreatDoor
end
section
namespace Go.SL
set_option linter.unusedVariables false
set_option linter.unusedSimpArgs false
open Go.RowKit
theorem RdI.under {w w' : World} {X : Assn} {v : Value} {l : List Int} (h : RdI w v l) (hs : Sat w' (X * whole w)) : RdI w' v l := by
 rcases h with h | ⟨g, o, c, h1, h2, h3, h4⟩
 ·exact .inl h
 ·exact .inr ⟨g, o, c, h1, h2, h3, fun k hk => hs.cellOld (h4 k hk)⟩
theorem Tb.drop_ok {T : Tb} (h : T.Ok) (id : Int) : (T.drop id).2.Ok := by
 unfold Tb.drop
 split
 ·refine ⟨by simpa using h.n, by simpa using h.m, fun v hv => ?_⟩
  simp only [List.length_set]
  rcases List.mem_or_eq_of_mem_set hv with hv | hv
  ·exact h.ps v hv
  ·exact .inl hv
 ·exact h
theorem Tb.put_ok {T : Tb} (h : T.Ok) (id p : Int) : (T.put id p).2.Ok := by
 have hd := Tb.drop_ok h id
 have hl : (T.drop id).2.os.length = T.os.length := by unfold Tb.drop; split <;> simp
 unfold Tb.put
 split
 ·rename_i hc
  refine ⟨by simpa using hd.n, by simpa using hd.m, fun v hv => ?_⟩
  simp only [List.length_set]
  rcases List.mem_or_eq_of_mem_set hv with hv | hv
  ·exact hd.ps v hv
  ·right; rw [hl, hv]; exact ⟨hc.2.2.1, hc.2.2.2.1⟩
 ·exact h
theorem Tb.put_len (T : Tb) (id p : Int) : (T.put id p).2.ps.length = T.ps.length ∧ (T.put id p).2.os.length = T.os.length := by
 have h1 : (T.drop id).2.ps.length = T.ps.length := by unfold Tb.drop; split <;> simp
 have h2 : (T.drop id).2.os.length = T.os.length := by unfold Tb.drop; split <;> simp
 unfold Tb.put
 split
 ·simp [h1, h2]
 ·exact ⟨rfl, rfl⟩
def tbN (P : Nat) (l : List Int) : Nat → Tb
 | 0 => Tb.fresh l.length P
 | k + 1 => if 0 ≤ l.getD k 0 then ((tbN P l k).put (k : Int) (l.getD k 0)).2 else tbN P l k
theorem tbN_len (P : Nat) (l : List Int) (k : Nat) : (tbN P l k).ps.length = l.length ∧ (tbN P l k).os.length = P := by
 induction k with
 | zero => simp [tbN, Tb.fresh]
 | succ k ih =>
  rw [tbN]
  split
  ·rw [(Tb.put_len _ _ _).1, (Tb.put_len _ _ _).2]; exact ih
  ·exact ih
theorem tbN_ok (P : Nat) (l : List Int) (hP : P ≤ 1048576) (hl : l.length ≤ 1048576) (k : Nat) : (tbN P l k).Ok := by
 induction k with
 | zero => exact ⟨by simpa [tbN, Tb.fresh] using hl, by simpa [tbN, Tb.fresh] using hP, fun v hv => .inl (List.eq_of_mem_replicate hv)⟩
 | succ k ih =>
  rw [tbN]
  split
  ·exact Tb.put_ok ih _ _
  ·exact ih
def ringK (P k : Nat) : List Int := (List.range k).map (fun i : Nat => (i : Int) + 1) ++ List.replicate (P - k) 0
theorem ringK_len {P k : Nat} (h : k ≤ P) : (ringK P k).length = P := by simp [ringK]; omega
theorem ringK_next {P k : Nat} (h : k < P) : (ringK P k).set ((k : Int) % ((ringK P k).length : Int)).toNat ((k : Int) + 1) = ringK P (k + 1) := by
 rw [ringK_len (by omega), Int.emod_eq_of_lt (by omega) (by omega), Int.toNat_natCast]
 unfold ringK
 have e : P - k = (P - (k + 1)) + 1 := by omega
 rw [e, List.replicate_succ, List.set_append_right _ _ (by simp), List.range_succ]
 simp
theorem ringK_all (P : Nat) : ringK P P = ringL P := by simp [ringK, ringL]
def Jr.ofS (P : Nat) (s : Js) : Jr := ⟨P, tbN P s.at_ s.at_.length, s.at_.length, s.ep, s.st, s.sq, s.hd, s.us, 0, false⟩
theorem Jr.ofS_ok {P : Nat} {s : Js} (h : s.Right P) (h0 : 1 ≤ P) (h1 : P ≤ 20000) : (Jr.ofS P s).Ok := by
 have hl := tbN_len P s.at_ s.at_.length
 have := h.n1
 exact ⟨h0, h1, tbN_ok _ _ (by omega) (by omega) _, by rw [Jr.ofS]; simp only; rw [hl.1], hl.2, h.us0, h.us1, h.hd0, h.hd1, Int.le_refl _, by show (0 : Int) ≤ 48; decide⟩
end Go.SL
namespace Go.Proofs.YtdafdidmbeecfaaGreatDoor
set_option linter.unusedVariables false
set_option linter.unusedSimpArgs false
open Go.RowKit Go.SL
def JNewQ (d : Nat) (J : Jr) (w : World) (e : Ending) (w' : World) : Prop := ∃ j, e = .returned (.tuple #[ptV j, .int .i64 0]) ∧ Sat w' (jrA j d J * whole w) ∧ Side w w'
def NewX (P : Nat) (s : Js) (n d r t : Nat) : Array Value := #[ptV d, ptV r, ptV t, .int .i64 (n : Int), .int .u32 s.ep, .int .u64 s.st, .int .u64 s.sq, .int .i64 s.hd, .int .i64 s.us, .int .i64 0, .bool false]
def NewRel1 (P : Nat) (s : Js) (n d j r t bx : Nat) (o : Obj) (w : World) (u : Value) (wr : World) : Prop :=
 ∃ k : Nat, k ≤ P ∧ u = .int .i64 (k : Int) ∧ Sat wr (pt j (.cells (NewX P s n d r t) 98 (0, 0)) * (ringA r (ringK P k) * (tableA t (tbN P s.at_ 0) * (pt bx o * whole w)))) ∧ Side w wr
def NewRel2 (P : Nat) (s : Js) (n d j r t bx : Nat) (o : Obj) (w : World) (u : Value) (wr : World) : Prop :=
 ∃ k : Nat, k ≤ n ∧ u = .int .i64 (k : Int) ∧ Sat wr (pt j (.cells (NewX P s n d r t) 98 (0, 0)) * (ringA r (ringL P) * (tableA t (tbN P s.at_ k) * (pt bx o * whole w)))) ∧ Side w wr
set_option maxRecDepth 100000 in
set_option maxHeartbeats 4000000 in
theorem jnew_any (w : World) (S : Hp) (d : Nat) (D : Dev) (F : Assn) (hd : Sat w (devA S d D * F)) (P : Nat) (s : Js) (a : Value) (ha : RdI w a s.at_) (hP0 : 1 ≤ P) (hP : P ≤ 20000) (hPs : P + 1 ≤ D.sec.length) (hDn : D.sec.length ≤ 20000) (hq : 0 ≤ s.sq) (hr : s.Right P) :
  Calls Tryz.prog 72 #[ptV d, .int .i64 (P : Int), s.v a] w (JNewQ d (Jr.ofS P s) w) := by
 have hn1 := hr.n1
 have hn0 := hr.n0
 have Hr := SL.hid hr
 obtain ⟨n, hn⟩ : ∃ n, n = s.at_.length := ⟨_, rfl⟩
 have hav : ∃ aa ac, a = .slice aa n ac := by
  rcases ha with ⟨_, _, rfl, h⟩ | ⟨g, o, c, rfl, _⟩
  ·rw [hn, h]; exact ⟨_, _, rfl⟩
  ·rw [hn]; exact ⟨_, _, rfl⟩
 obtain ⟨aa, ac, rfl⟩ := hav
 rw [← hn] at hn1 hn0
 have Hn := SL.hid hn
 have hbox := (Sat.whole w).alloc (.cells #[.int .u32 s.ep, .int .u64 s.st, .int .u64 s.sq, .int .i64 s.hd, .int .i64 s.us, .slice aa n ac] 86 (0, 0))
 have hs1 := (Side.refl w).alloc (.cells #[.int .u32 s.ep, .int .u64 s.st, .int .u64 s.sq, .int .i64 s.hd, .int .i64 s.us, .slice aa n ac] 86 (0, 0))
 have hsec := sectors_any _ S d D _ (hbox.under hd).right
 have hP0' : (1 : Int) ≤ (P : Int) := by omega
 have hP' : (P : Int) ≤ 20000 := by omega
 have hPs' : (P : Int) ≤ (D.sec.length : Int) - 1 := by omega
 have hDn' : (D.sec.length : Int) ≤ 20000 := by omega
 have hwr : IntKind.i64.wrap ((D.sec.length : Int) - 1) = (D.sec.length : Int) - 1 := by rw [IntKind.wrap_i64]; omega
 have hright := right_any' (P : Int) s (.slice aa n ac) _ (by omega) (by omega) hq (by rw [← hn]; omega) (ha.under hbox) true ⟨fun _ => hr, fun _ => rfl⟩
 have Ha := SL.hid ha
 clear hn hr hd ha hq
 unfold Js.v at hright ⊢
 obtain ⟨bx, hbx⟩ : ∃ bx, bx = w.heap.size := ⟨_, rfl⟩
 go_enter Tryz.func72, Tryz.ntmps72
 go_wp2_with fail
 rw [← hbx] at hbox ⊢
 generalize w.alloc (.cells #[.int .u32 s.ep, .int .u64 s.st, .int .u64 s.sq, .int .i64 s.hd, .int .i64 s.us, .slice aa n ac] 86 (0, 0)) = w1 at hbox hs1 hsec hright ⊢
 have c0 : w1.cell? ⟨bx, 0, none⟩ = some (.int .u32 s.ep) := hbox.cell 0
 have c1 : w1.cell? ⟨bx, 1, none⟩ = some (.int .u64 s.st) := hbox.cell 1
 have c2 : w1.cell? ⟨bx, 2, none⟩ = some (.int .u64 s.sq) := hbox.cell 2
 have c3 : w1.cell? ⟨bx, 3, none⟩ = some (.int .i64 s.hd) := hbox.cell 3
 have c4 : w1.cell? ⟨bx, 4, none⟩ = some (.int .i64 s.us) := hbox.cell 4
 have c5 : w1.cell? ⟨bx, 5, none⟩ = some (.slice aa n ac) := hbox.cell 5
 clear hbx
 go_wp2_with fail
 refine hsec.mono ?_
 rintro e w1' ⟨rfl, rfl⟩
 clear hsec
 go_wp2_with fail
 refine hright.mono ?_
 rintro e w2 ⟨rfl, h2, d2⟩
 have H2 := h2.keepW hbox
 have D2 := hs1.trans d2
 have b0 : w2.cell? ⟨bx, 0, none⟩ = some (.int .u32 s.ep) := H2.cell 0
 have b1 : w2.cell? ⟨bx, 1, none⟩ = some (.int .u64 s.st) := H2.cell 1
 have b2 : w2.cell? ⟨bx, 2, none⟩ = some (.int .u64 s.sq) := H2.cell 2
 have b3 : w2.cell? ⟨bx, 3, none⟩ = some (.int .i64 s.hd) := H2.cell 3
 have b4 : w2.cell? ⟨bx, 4, none⟩ = some (.int .i64 s.us) := H2.cell 4
 have b5 : w2.cell? ⟨bx, 5, none⟩ = some (.slice aa n ac) := H2.cell 5
 clear hright h2 d2 hbox hs1 c0 c1 c2 c3 c4 c5 hwr
 have hring := ringNew_any P 0 w2.drew hP0 (by omega)
 have htab := fun w => tabNew_any n P w (by omega) (by omega)
 have R2 := SL.hid (Sat.drew H2)
 clear H2
 go_wp2_with fail
 go_region_held3 (fun w' => w'.cell? ⟨bx, 0, none⟩ = some (.int .u32 s.ep) ∧ w'.cell? ⟨bx, 1, none⟩ = some (.int .u64 s.st) ∧ w'.cell? ⟨bx, 2, none⟩ = some (.int .u64 s.sq) ∧ w'.cell? ⟨bx, 3, none⟩ = some (.int .i64 s.hd) ∧ w'.cell? ⟨bx, 4, none⟩ = some (.int .i64 s.us) ∧ w'.cell? ⟨bx, 5, none⟩ = some (.slice aa n ac)) (first | (with_reducible exact ⟨f0, f1, f2, f3, f4, f5⟩) | (with_reducible exact ⟨cell_alloc _ _ _ _ f0, cell_alloc _ _ _ _ f1, cell_alloc _ _ _ _ f2, cell_alloc _ _ _ _ f3, cell_alloc _ _ _ _ f4, cell_alloc _ _ _ _ f5⟩) | (with_reducible exact ⟨e0, e1, e2, e3, e4, e5⟩) | exact ⟨b0, b1, b2, b3, b4, b5⟩) (first
  | (go_at_call 68; (with_reducible refine hring.mono ?_); rintro e w3 ⟨r, rfl, h3, d3⟩; have H3 := h3.under R2.out; have e0 : w3.cell? ⟨bx, 0, none⟩ = some (.int .u32 s.ep) := H3.front2.cell 0; have e1 : w3.cell? ⟨bx, 1, none⟩ = some (.int .u64 s.st) := H3.front2.cell 1; have e2 : w3.cell? ⟨bx, 2, none⟩ = some (.int .u64 s.sq) := H3.front2.cell 2; have e3 : w3.cell? ⟨bx, 3, none⟩ = some (.int .i64 s.hd) := H3.front2.cell 3; have e4 : w3.cell? ⟨bx, 4, none⟩ = some (.int .i64 s.us) := H3.front2.cell 4; have e5 : w3.cell? ⟨bx, 5, none⟩ = some (.slice aa n ac) := H3.front2.cell 5)
  | (go_at_call 96; (with_reducible refine (htab _).mono ?_); rintro e w4 ⟨t, rfl, h4, d4⟩; have H4 := h4.under H3; have f0 : w4.cell? ⟨bx, 0, none⟩ = some (.int .u32 s.ep) := H4.front3.cell 0; have f1 : w4.cell? ⟨bx, 1, none⟩ = some (.int .u64 s.st) := H4.front3.cell 1; have f2 : w4.cell? ⟨bx, 2, none⟩ = some (.int .u64 s.sq) := H4.front3.cell 2; have f3 : w4.cell? ⟨bx, 3, none⟩ = some (.int .i64 s.hd) := H4.front3.cell 3; have f4 : w4.cell? ⟨bx, 4, none⟩ = some (.int .i64 s.us) := H4.front3.cell 4; have f5 : w4.cell? ⟨bx, 5, none⟩ = some (.slice aa n ac) := H4.front3.cell 5))
 have H5 := H4.alloc (.cells (NewX P s n d r t) 98 (0, 0))
 have D5 := ((D2.drew.trans d3).trans d4).alloc (.cells (NewX P s n d r t) 98 (0, 0))
 clear h3 h4 hring htab d3 d4 D2 R2 H3 H4 e0 e1 e2 e3 e4 e5 f0 f1 f2 f3 f4 f5 b0 b1 b2 b3 b4 b5
 have H6 : Sat (w4.alloc (.cells (NewX P s n d r t) 98 (0, 0))) (pt w4.heap.size (.cells (NewX P s n d r t) 98 (0, 0)) * (ringA r (ringK P 0) * (tableA t (tbN P s.at_ 0) * (pt bx (.cells #[.int .u32 s.ep, .int .u64 s.st, .int .u64 s.sq, .int .i64 s.hd, .int .i64 s.us, .slice aa n ac] 86 (0, 0)) * whole w)))) := by
  have e1 : tbN P s.at_ 0 = Tb.fresh n P := by rw [Hn.out]; rfl
  have e2 : ringK P 0 = List.replicate P 0 := rfl
  rw [e1, e2]
  exact H5.to (by ac_rfl)
 clear H5
 unfold NewX at D5 H6
 generalize hw5 : (w4.alloc (.cells #[ptV d, ptV r, ptV t, .int .i64 (n : Int), .int .u32 s.ep, .int .u64 s.st, .int .u64 s.sq, .int .i64 s.hd, .int .i64 s.us, .int .i64 0, .bool false] 98 (0, 0))) = w5 at D5 H6 ⊢
 generalize w4.heap.size = j at H6 ⊢
 clear hw5
 go_wp2
 go_loopw [55] (fun u wr => NewRel1 P s n d j r t bx (.cells #[.int .u32 s.ep, .int .u64 s.st, .int .u64 s.sq, .int .i64 s.hd, .int .i64 s.us, .slice aa n ac] 86 (0, 0)) w u wr) (fun u _ => P - (intOf u).toNat)
 case atStart => exact ⟨0, Nat.zero_le _, rfl, H6, D5⟩
 case round =>
  clear H6 D5
  obtain ⟨k, hk, rfl, hsat, hside⟩ := hrel
  by_cases hlt : k < P
  ·have hlt' : (k : Int) < (P : Int) := by omega
   have j1 : wr.cell? ⟨j, 1, none⟩ = some (ptV r) := hsat.cell 1
   have hset := set_any wr r (ringK P k) (k : Int) ((k : Int) + 1) _ hsat.front2 (by rw [ringK_len hk]; omega) (by rw [ringK_len hk]; omega)
   rw [ringK_next hlt] at hset
   have hw1 : IntKind.i64.wrap ((k : Int) + 1) = (k : Int) + 1 := by rw [IntKind.wrap_i64]; omega
   clear hsat
   go_wp2_with fail
   refine hset.mono ?_
   rintro e w6 ⟨rfl, h6, d6⟩
   have H7 := SL.hid h6.front2
   clear hset h6
   go_wp2
   go_roundw
   case rel => exact ⟨k + 1, by omega, by go_num, H7.out, hside.trans d6⟩
   case measure => simp [intOf]; omega
  ·obtain rfl : k = P := by omega
   rw [ringK_all] at hsat
   have h5 : wr.cell? ⟨bx, 5, none⟩ = some (.slice aa n ac) := hsat.front4.cell 5
   have H7 := SL.hid hsat
   clear hsat hlt
   go_wp2
   go_loopw [70] (fun u wr => NewRel2 k s n d j r t bx (.cells #[.int .u32 s.ep, .int .u64 s.st, .int .u64 s.sq, .int .i64 s.hd, .int .i64 s.us, .slice aa n ac] 86 (0, 0)) w u wr) (fun u _ => n - (intOf u).toNat)
   case atStart => exact ⟨0, Nat.zero_le _, rfl, H7.out, hside⟩
   case round =>
    clear H7 hside h5
    obtain ⟨i, hi, rfl, hsat, hside⟩ := hrel
    have j2 : wr.cell? ⟨j, 2, none⟩ = some (ptV t) := hsat.cell 2
    have htl := tbN_len k s.at_ i
    have htk := tbN_ok k s.at_ (by omega) (by have := Hn.out; omega) i
    by_cases hlt : i < n
    ·have hlt' : (i : Int) < (n : Int) := by omega
     obtain ⟨g, o, rfl, hcell⟩ : ∃ g o, aa = some ⟨g, o, none⟩ ∧ wr.cell? ⟨g, o + i, none⟩ = some (.int .i64 (s.at_.getD i 0)) := by
      have hn := Hn.out
      rcases Ha.out with ⟨_, _, h, h0⟩ | ⟨g, o, c, h, _, _, hc⟩
      ·rw [h0] at hn; simp at hn; omega
      ·injection h with e1 e2 e3
       exact ⟨g, o, e1, (hsat.to (by ac_rfl : _ = (pt j _ * (ringA r (ringL k) * (tableA t (tbN k s.at_ i) * pt bx _))) * whole w)).cellOld (hc i (by omega))⟩
     have hst : tbN k s.at_ (i + 1) = if 0 ≤ s.at_.getD i 0 then ((tbN k s.at_ i).put (i : Int) (s.at_.getD i 0)).2 else tbN k s.at_ i := rfl
     generalize s.at_.getD i 0 = v at hcell hst
     by_cases hv : 0 ≤ v
     ·rw [if_pos hv] at hst
      have hput := put_any wr t (tbN k s.at_ i) (i : Int) v _ hsat.front3 htk
      rw [← hst] at hput
      generalize ((tbN k s.at_ i).put (i : Int) v).1 = pb at hput
      clear hsat hst htl htk
      go_wp2_with fail
      refine hput.mono ?_
      rintro e w6 ⟨rfl, h6, d6⟩
      have H7 := SL.hid h6.front3
      clear hput h6
      go_wp2
      go_roundw
      case rel => exact ⟨i + 1, by omega, by go_num, H7.out.to (by ac_rfl), hside.trans d6⟩
      case measure => simp [intOf]; omega
     ·rw [if_neg hv] at hst
      have H7 := SL.hid hsat
      have Hst := SL.hid hst
      clear hsat hst htl htk
      go_wp2
      go_roundw
      case rel => exact ⟨i + 1, by omega, by go_num, by rw [Hst.out]; exact H7.out, hside⟩
      case measure => simp [intOf]; omega
    ·obtain rfl : i = n := by omega
     have H7 := SL.hid hsat
     clear hsat hlt htl htk
     go_wp2
     go_ret2
     refine ⟨j, rfl, Sat.jrShut (r := r) (t := t) ?_, hside⟩
     have e1 : (Jr.ofS k s).cells d r t = NewX k s i d r t := by unfold Jr.ofS Jr.cells NewX; rw [Hn.out]
     have e2 : (Jr.ofS k s).T = tbN k s.at_ i := by rw [Hn.out]; rfl
     rw [e1, e2]
     exact (Sat.drop4 H7.out).to (by unfold Jr.ofS; ac_rfl)
end Go.Proofs.YtdafdidmbeecfaaGreatDoor
namespace Go.Proofs.YtdafdidmbeecfaaGreatDoor
set_option linter.unusedVariables false
set_option linter.unusedSimpArgs false
open Go.RowKit Go.SL
def Jr.ats (J : Jr) : List Int := (List.range J.T.ps.length).map fun i : Nat => (told J.T.ps (i : Int)).getD (-1)
def atsN (T : Tb) (n : Nat) (ys : List (Int × Int)) : List Int := ys.foldl (fun l p => l.set p.1.toNat p.2) (List.replicate n (-1))
theorem atsN_len (T : Tb) (n : Nat) (ys : List (Int × Int)) : (atsN T n ys).length = n := by
 suffices ∀ (l : List Int), (ys.foldl (fun l p => l.set p.1.toNat p.2) l).length = l.length by
  unfold atsN; rw [this]; simp
 induction ys with
 | nil => intro l; rfl
 | cons y ys ih => intro l; rw [List.foldl_cons, ih, List.length_set]
theorem atsN_snoc (T : Tb) (n : Nat) (ys : List (Int × Int)) (x : Int × Int) : atsN T n (ys ++ [x]) = (atsN T n ys).set x.1.toNat x.2 := by
 unfold atsN; rw [List.foldl_append]; rfl
theorem allN_fst (T : Tb) (k : Nat) : ∀ p ∈ allN T k, ∃ i : Nat, p.1 = (i : Int) ∧ i < k ∧ told T.ps (i : Int) = some p.2 := by
 intro p hp
 obtain ⟨i, hi, h⟩ := List.mem_filterMap.1 hp
 cases ht : told T.ps (i : Int) with
 | none => rw [ht] at h; cases h
 | some q => rw [ht] at h; cases h; exact ⟨i, rfl, List.mem_range.1 hi, ht⟩
theorem ats_all (T : Tb) (k : Nat) (hk : k ≤ T.ps.length) (i : Nat) (hi : i < T.ps.length) :
  (atsN T T.ps.length (allN T k)).getD i 0 = if i < k then (told T.ps (i : Int)).getD (-1) else -1 := by
 induction k with
 | zero => simp [allN, atsN, List.getD, hi]
 | succ k ih =>
  have ih := ih (by omega)
  rw [allN_succ]
  match ht : told T.ps (k : Int) with
  | none =>
   simp only [List.append_nil]
   rw [ih]
   by_cases h : i < k
   ·rw [if_pos h, if_pos (by omega)]
   ·rw [if_neg h]
    by_cases h2 : i < k + 1
    ·obtain rfl : i = k := by omega
     rw [if_pos h2, ht]; rfl
    ·rw [if_neg h2]
  | some q =>
   simp only
   rw [atsN_snoc, Int.toNat_natCast, List.getD, List.getElem?_set]
   by_cases h : k = i
   ·subst h
    rw [if_pos rfl, if_pos (by rw [atsN_len]; exact hi), if_pos (by omega), ht]; rfl
   ·rw [if_neg h]
    have : (atsN T T.ps.length (allN T k))[i]?.getD 0 = _ := ih
    rw [this]
    by_cases h2 : i < k
    ·rw [if_pos h2, if_pos (by omega)]
    ·rw [if_neg h2, if_neg (by omega)]
theorem ats_eq (T : Tb) : atsN T T.ps.length (tbAll T) = (List.range T.ps.length).map fun i : Nat => (told T.ps (i : Int)).getD (-1) := by
 have e : tbAll T = allN T T.ps.length := rfl
 rw [e]
 apply List.ext_getElem
 ·rw [atsN_len]; simp
 ·intro i h1 h2
  rw [atsN_len] at h1
  have := ats_all T T.ps.length (Nat.le_refl _) i h1
  rw [if_pos h1, List.getD, List.getElem?_eq_getElem (by rw [atsN_len]; exact h1)] at this
  rw [List.getElem_map, List.getElem_range]
  exact this
end Go.Proofs.YtdafdidmbeecfaaGreatDoor
end

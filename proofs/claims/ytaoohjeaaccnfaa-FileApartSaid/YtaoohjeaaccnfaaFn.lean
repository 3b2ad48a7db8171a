/- file: load. -/
import Derived.Test.YtaoohjeaaccnfaaFl
import Derived.Deep.MidRow
namespace Go.SL
set_option linter.unusedVariables false
set_option linter.unusedSimpArgs false
open Go.RowKit
def decP (L : List UInt8) : Nd × Int := if ((ndOf L).ok && (L.drop 41).all (· == 0)) = true then (ndOf L, 0) else (⟨0, 0, 0, List.replicate 16 0, 0⟩, 4)
def rowP (L : List UInt8) : List Int × Int := if (ptrsOf L 0 240).all ptrOk = true then (ptrsOf L 0 240, 0) else (List.replicate 240 0, 4)
theorem decP_16 (L : List UInt8) : (decP L).1.dr.length = 16 := by
  unfold decP; split
  · exact ptrsOf_length _ _ _
  · rfl
theorem rowP_240 (L : List UInt8) : (rowP L).1.length = 240 := by
  unfold rowP; split
  · exact ptrsOf_length _ _ _
  · rfl
theorem decP_c (L : List UInt8) : (decP L).2 = 0 ∨ (decP L).2 = 4 := by unfold decP; split; exact .inl rfl; exact .inr rfl
theorem rowP_c (L : List UInt8) : (rowP L).2 = 0 ∨ (rowP L).2 = 4 := by unfold rowP; split; exact .inl rfl; exact .inr rfl
section
variable {σ : Type}
def wload2 (n : Nat) (id : Nat) (nd : Nd) (row : List Int) : WM σ Hd := wwithin n nd.dr ⇝ fun _ => wwithin n row ⇝ fun _ => WM.pure ⟨id, nd, row⟩
def wdec (p : Nd × Int) (k : Nd → WM σ Hd) : WM σ Hd := fun st => if p.2 = 0 then k p.1 st else (.bad p.2, st)
def wdecR (p : List Int × Int) (k : List Int → WM σ Hd) : WM σ Hd := fun st => if p.2 = 0 then k p.1 st else (.bad p.2, st)
def wload1 (ask : Asks σ) (n : Nat) (id : Nat) (nd : Nd) : WM σ Hd := fun st =>
  if nd.rw = 0 then wload2 n id nd (List.replicate 240 0) st
  else (wwithin n [nd.rw] ⇝ fun _ => wread ask nd.rw ⇝ fun L => wdecR (rowP L) (wload2 n id nd)) st
def wload (ask : Asks σ) (n : Nat) (id : Int) : WM σ Hd := fun st =>
  if 1 ≤ id ∧ id < n then (wread ask id ⇝ fun L => wdec (decP L) (wload1 ask n id.toNat)) st else (.bad 1, st)
end
end Go.SL
namespace Go.Proofs.Ytaoohjeaaccnfaa.Fs
set_option linter.unusedVariables false
set_option linter.unusedSimpArgs false
open Go.RowKit Go.SL Go.Proofs.Ytaoohjeaaccnfaa.Ba
theorem built_held0 (d x0 x1 x2 x3 x4 x5 x6 x7 x8 x9 x10 x11 x12 x13 x14 x15 x16 x17 x18 x19 : Int) : Try.prog.built 67 [(0, .int .i64 d), (1, .agg #[.int .i64 x0, .int .i64 x1, .int .i64 x2, .int .i64 x3, .int .i64 x4, .int .i64 x5, .int .i64 x6, .int .i64 x7, .int .i64 x8, .int .i64 x9, .int .i64 x10, .int .i64 x11, .int .i64 x12, .int .i64 x13, .int .i64 x14, .int .i64 x15, .int .i64 x16, .int .i64 x17, .int .i64 x18, .int .i64 x19])] = some (ints ([d, x0, x1, x2, x3, x4, x5, x6, x7, x8, x9, x10, x11, x12, x13, x14, x15, x16, x17, x18, x19] ++ List.replicate 240 0)) := by kernel_rfl
theorem list16 {l : List Int} (h : l.length = 16) : ∃ a0 a1 a2 a3 a4 a5 a6 a7 a8 a9 a10 a11 a12 a13 a14 a15, l = [a0, a1, a2, a3, a4, a5, a6, a7, a8, a9, a10, a11, a12, a13, a14, a15] := by
  match l, h with
  | [a0, a1, a2, a3, a4, a5, a6, a7, a8, a9, a10, a11, a12, a13, a14, a15], _ => exact ⟨a0, a1, a2, a3, a4, a5, a6, a7, a8, a9, a10, a11, a12, a13, a14, a15, rfl⟩
theorem built_held (d : Int) (n : Nd) (h : n.dr.length = 16) : Try.prog.built 67 [(0, .int .i64 d), (1, .agg (n.l.map (Value.int .i64)).toArray)] = some (ints (d :: (n.l ++ List.replicate 240 0))) := by
  obtain ⟨kd, lk, sz, dr, rw⟩ := n
  obtain ⟨a0, a1, a2, a3, a4, a5, a6, a7, a8, a9, a10, a11, a12, a13, a14, a15, rfl⟩ := list16 h
  exact built_held0 d kd lk sz a0 a1 a2 a3 a4 a5 a6 a7 a8 a9 a10 a11 a12 a13 a14 a15 rw
theorem wpList_build_to {P : Program} {ops : Array Oper} {rest : List Oper} {o : Oper} {a : Act} {w : World} {Q : Exit → Act → World → Prop} (hg : o.guard = none) (t : TypeId) (parts : Array (Nat × Operand)) (ho : o.op = .build t parts)
    (l : List (Nat × Value)) (hl : parts.toList.map (fun p => (p.1, a.eval p.2)) = l) (C : Array Value) (hb : P.built t l = some C) (h : wpList P ops Q rest (a.put o.dst (.agg C)) w) : wpList P ops Q (o :: rest) a w := by
  have e : P.built t (parts.map fun (i, x) => (i, a.eval x)).toList = some C := by rw [Array.toList_map]; exact hl ▸ hb
  exact wpList_build hg t parts ho (by rw [e]; rfl) (by rw [e]; exact h)
def DecQ (L : List UInt8) (w : World) (e : Ending) (w' : World) : Prop := e = .returned (.tuple #[(decP L).1.v, .int .i64 (decP L).2]) ∧ Sat w' (whole w) ∧ Side w w'
def DecRQ (L : List UInt8) (w : World) (e : Ending) (w' : World) : Prop := e = .returned (.tuple #[.agg (ints (rowP L).1), .int .i64 (rowP L).2]) ∧ Sat w' (whole w) ∧ Side w w'
theorem dec_any (w : World) (v : Value) (L : List UInt8) (hr : Rd w v L) (hL : L.length = 480) : Calls Try.prog 63 #[v] w (DecQ L w) := by
  refine decode_any w v L hr hL _ (fun h1 h2 w' h3 h4 => ?_) (fun h1 w' h3 h4 => ?_)
  · have e : decP L = (ndOf L, 0) := if_pos (by rw [h1, h2]; rfl)
    exact ⟨by rw [e], h3, h4⟩
  · have e : decP L = (⟨0, 0, 0, List.replicate 16 0, 0⟩, 4) := if_neg (by rcases h1 with h | h <;> rw [h] <;> simp)
    exact ⟨by rw [e]; rfl, h3, h4⟩
theorem decR_any (w : World) (v : Value) (L : List UInt8) (hr : Rd w v L) (hL : L.length = 480) : Calls Try.prog 65 #[v] w (DecRQ L w) := by
  refine decodeRow_any w v L hr hL _ (fun h1 w' h3 h4 => ?_) (fun h1 w' h3 h4 => ?_)
  · have e : rowP L = (ptrsOf L 0 240, 0) := if_pos h1
    exact ⟨by rw [e], h3, h4⟩
  · have e : rowP L = (List.replicate 240 0, 4) := if_neg (by rw [h1]; simp)
    exact ⟨by rw [e]; rfl, h3, h4⟩
section
variable {σ α : Type}
theorem workX1 {w : World} {x : Wk σ} {S : Hp} {st : Wst σ} {F : Assn} (h : Sat w (workA x S st * F)) : w.cell? ⟨x.k, 1, none⟩ = some (.int .i64 (x.n : Int)) := by
  obtain ⟨v, h1⟩ := Sat.workOpen h
  exact (h1.to (by unfold workX; ac_rfl : _ = pt x.k (.cells (x.cells v st.dt) 85 (0, 0)) * (btA x.c S x.b st.b * (bitsA st.bits v * F)))).cell 1
def heldR (h : Hd) (v : Value) : Assn := ex fun hb => fact (v = ptV hb) * heldA hb h
theorem wload_no {ask : Asks σ} {n : Nat} {id : Int} {st : Wst σ} (h : ¬ (1 ≤ id ∧ id < n)) : wload ask n id st = (.bad 1, st) := if_neg h
theorem wload_bad {ask : Asks σ} {n : Nat} {id : Int} {st st1 : Wst σ} {c : Int} (h : 1 ≤ id ∧ id < n) (hp : wread ask id st = (.bad c, st1)) : wload ask n id st = (.bad c, st1) :=
  (if_pos h).trans (WM.bind_bad hp)
theorem wload_dec {ask : Asks σ} {n : Nat} {id : Int} {st st1 : Wst σ} {L : List UInt8} {nd : Nd} (h : 1 ≤ id ∧ id < n) (hp : wread ask id st = (.ok L, st1)) (hd : decP L = (nd, 4)) : wload ask n id st = (.bad 4, st1) := by
  refine ((if_pos h).trans (WM.bind_ok hp)).trans ?_
  show wdec (decP L) _ st1 = _
  rw [hd]; exact if_neg (show ¬ (4 : Int) = 0 by decide)
theorem wload_go {ask : Asks σ} {n : Nat} {id : Int} {st st1 : Wst σ} {L : List UInt8} {nd : Nd} (h : 1 ≤ id ∧ id < n) (hp : wread ask id st = (.ok L, st1)) (hd : decP L = (nd, 0)) : wload ask n id st = wload1 ask n id.toNat nd st1 := by
  refine ((if_pos h).trans (WM.bind_ok hp)).trans ?_
  show wdec (decP L) _ st1 = _
  rw [hd]; exact if_pos rfl
theorem wwithin_yes {n : Nat} {l : List Int} {st : Wst σ} (h : l.all (fun x => decide (x < n)) = true) : wwithin n l st = (.ok (), st) := by unfold wwithin; rw [if_pos h]
theorem wwithin_no {n : Nat} {l : List Int} {st : Wst σ} (h : l.all (fun x => decide (x < n)) = false) : wwithin n l st = (.bad 4, st) := by unfold wwithin; rw [if_neg (by rw [h]; simp)]
theorem wload2_ok {n id : Nat} {nd : Nd} {row : List Int} {st : Wst σ} (h1 : nd.dr.all (fun x => decide (x < n)) = true) (h2 : row.all (fun x => decide (x < n)) = true) : wload2 n id nd row st = (.ok ⟨id, nd, row⟩, st) :=
  (WM.bind_ok (wwithin_yes h1)).trans (WM.bind_ok (wwithin_yes h2))
theorem wload2_no2 {n id : Nat} {nd : Nd} {row : List Int} {st : Wst σ} (h1 : nd.dr.all (fun x => decide (x < n)) = true) (h2 : row.all (fun x => decide (x < n)) = false) : wload2 n id nd row st = (.bad 4, st) :=
  (WM.bind_ok (wwithin_yes h1)).trans (WM.bind_bad (wwithin_no h2))
theorem wload2_no1 {n id : Nat} {nd : Nd} {row : List Int} {st : Wst σ} (h1 : nd.dr.all (fun x => decide (x < n)) = false) : wload2 n id nd row st = (.bad 4, st) :=
  WM.bind_bad (wwithin_no h1)
theorem wload1_z {ask : Asks σ} {n id : Nat} {nd : Nd} {st : Wst σ} (h : nd.rw = 0) : wload1 ask n id nd st = wload2 n id nd (List.replicate 240 0) st := if_pos h
theorem wload1_w {ask : Asks σ} {n id : Nat} {nd : Nd} {st : Wst σ} (h : nd.rw ≠ 0) (h1 : [nd.rw].all (fun x => decide (x < n)) = false) : wload1 ask n id nd st = (.bad 4, st) :=
  (if_neg h).trans (WM.bind_bad (wwithin_no h1))
theorem wload1_r {ask : Asks σ} {n id : Nat} {nd : Nd} {st st2 : Wst σ} {c : Int} (h : nd.rw ≠ 0) (h1 : [nd.rw].all (fun x => decide (x < n)) = true) (h2 : wread ask nd.rw st = (.bad c, st2)) : wload1 ask n id nd st = (.bad c, st2) :=
  (if_neg h).trans ((WM.bind_ok (wwithin_yes h1)).trans (WM.bind_bad h2))
theorem wload1_d {ask : Asks σ} {n id : Nat} {nd : Nd} {st st2 : Wst σ} {L : List UInt8} {row : List Int} (h : nd.rw ≠ 0) (h1 : [nd.rw].all (fun x => decide (x < n)) = true) (h2 : wread ask nd.rw st = (.ok L, st2)) (h3 : rowP L = (row, 4)) : wload1 ask n id nd st = (.bad 4, st2) := by
  refine (if_neg h).trans ((WM.bind_ok (wwithin_yes h1)).trans ((WM.bind_ok h2).trans ?_))
  show wdecR (rowP L) _ st2 = _
  rw [h3]; exact if_neg (show ¬ (4 : Int) = 0 by decide)
theorem wload1_g {ask : Asks σ} {n id : Nat} {nd : Nd} {st st2 : Wst σ} {L : List UInt8} {row : List Int} (h : nd.rw ≠ 0) (h1 : [nd.rw].all (fun x => decide (x < n)) = true) (h2 : wread ask nd.rw st = (.ok L, st2)) (h3 : rowP L = (row, 0)) : wload1 ask n id nd st = wload2 n id nd row st2 := by
  refine (if_neg h).trans ((WM.bind_ok (wwithin_yes h1)).trans ((WM.bind_ok h2).trans ?_))
  show wdecR (rowP L) _ st2 = _
  rw [h3]; exact if_pos rfl
theorem setRow_held (id : Int) (nl z r : List Int) (hn : nl.length = 20) (hz : z.length = 240) (hr : r.length = 240) : setLs (ints (id :: (nl ++ z))) 21 (r.map (Value.int .i64)) = ints (id :: (nl ++ r)) := by
  have hsz : (ints (id :: (nl ++ z))).size = 261 := by rw [size_ints]; simp [hn, hz]
  apply Array.ext_getElem?
  intro k
  rw [setLs_get _ _ _ _ (by rw [List.length_map, hr, hsz]; decide), List.length_map, hr, get_ints, get_ints]
  by_cases hk : 21 ≤ k ∧ k < 21 + 240
  · rw [if_pos hk, List.getElem?_map]
    obtain ⟨j, rfl⟩ : ∃ j, k = j + 1 := ⟨k - 1, by omega⟩
    rw [List.getElem?_cons_succ, List.getElem?_append_right (by omega), hn]
    congr 2
  · rw [if_neg hk]
    rcases Nat.lt_or_ge k 21 with h9 | h9
    · cases k with
      | zero => rfl
      | succ j => rw [List.getElem?_cons_succ, List.getElem?_cons_succ, List.getElem?_append_left (by omega), List.getElem?_append_left (by omega)]
    · rw [List.getElem?_eq_none (by simp [hn, hz]; omega), List.getElem?_eq_none (by simp [hn, hr]; omega)]
set_option maxRecDepth 100000 in
set_option maxHeartbeats 2000000 in
theorem load_any (x : Wk σ) (hc : x.c.Ok) (w : World) (S : Hp) (st : Wst σ) (id : Int) (F : Assn) (h : Sat w (workA x S st * (pool S * F))) (Q : Ending → World → Prop)
    (hQ : ∀ e w', WQ x heldR S F w (wload x.c.ask x.n id st) e w' → Q e w') :
    Calls Try.prog 31 #[.pointer (some ⟨x.k, 0, none⟩), .int .i64 id] w Q := by
  have c1 := workX1 h
  by_cases hid : 1 ≤ id ∧ id < x.n
  · have hr := read_anyW x hc w S st id F h
    have Hid := SL.hid hid
    obtain ⟨i1, i2⟩ := hid
    clear h
    obtain ⟨⟨r, st1⟩, hp⟩ : ∃ p, wread x.c.ask id st = p := ⟨_, rfl⟩
    rw [hp] at hr
    cases r with
    | bad c =>
      have HQ := SL.hid hQ
      have Hp := SL.hid (wload_bad Hid.out hp)
      clear hp hQ
      go_enter Try.func31, Try.ntmps31
      go_wp2_with fail
      (with_reducible refine (need_yes w).mono ?_)
      rintro e w2 ⟨rfl, rfl⟩
      go_wp2_with fail
      (with_reducible refine hr.mono ?_)
      rintro e w1 ⟨S', hS, d1, rfl, h2⟩
      go_wp2_with fail
      exact ⟨rfl, HQ.out _ _ (by rw [Hp.out]; exact ⟨S', hS, d1, rfl, h2⟩)⟩
    | ok L =>
      have hL := wread_len hp
      have Hnd16 := SL.hid (decP_16 L)
      have hpc := decP_c L
      have hd := fun w1 v1 hr => dec_any w1 v1 L hr hL
      unfold DecQ at hd
      have HQ := SL.hid hQ
      have hE0 := fun nd => wload_go (nd := nd) Hid.out hp
      have hE4 := fun nd => wload_dec (nd := nd) Hid.out hp
      generalize decP L = p at *
      obtain ⟨nd, c⟩ := p
      dsimp only at hpc Hnd16 hd
      have HE0 := SL.hid (hE0 nd); have HE4 := SL.hid (hE4 nd)
      have hvl : nd.v = .agg (nd.l.map (Value.int .i64)).toArray := rfl
      rw [hvl] at hd
      clear hp hQ hE0 hE4 hL hvl
      go_enter Try.func31, Try.ntmps31
      go_wp2_with fail
      (with_reducible refine (need_yes w).mono ?_)
      rintro e w2 ⟨rfl, rfl⟩
      go_wp2_with fail
      (with_reducible refine hr.mono ?_)
      rintro e w1 ⟨S1, v1, hS1, d1, rfl, h1⟩
      have hd1 := hd w1 v1 h1.rds
      have Hk := SL.hid (fun w' (h : Sat w' (whole w1)) => Sat.keepW h h1)
      clear hr c1 hd
      go_wp2_with fail
      (with_reducible refine hd1.mono ?_)
      rintro e w2 ⟨rfl, h2, d2⟩
      have H2 := (Hk.out w2 h2).right
      have D2 := d1.trans d2
      clear hd1 Hk h1 h2 d1 d2
      have hZ := H2.alloc (.cells #[.int .i64 0, .int .i64 0, .int .i64 0, .int .i64 0, .int .i64 0, .int .i64 0, .int .i64 0, .int .i64 0, .int .i64 0, .int .i64 0, .int .i64 0, .int .i64 0, .int .i64 0, .int .i64 0, .int .i64 0, .int .i64 0, .int .i64 0, .int .i64 0, .int .i64 0, .int .i64 0] 48 (0, 0))
      have DZ := D2.alloc (.cells #[.int .i64 0, .int .i64 0, .int .i64 0, .int .i64 0, .int .i64 0, .int .i64 0, .int .i64 0, .int .i64 0, .int .i64 0, .int .i64 0, .int .i64 0, .int .i64 0, .int .i64 0, .int .i64 0, .int .i64 0, .int .i64 0, .int .i64 0, .int .i64 0, .int .i64 0, .int .i64 0] 48 (0, 0))
      have hlen : (nd.l.map (Value.int .i64)).toArray.size = 20 := by simp [Nd.cells Hnd16.out]
      have hone : (nd.l.map (Value.int .i64)).toArray.all (·.oneCell') = true := by simp [Value.oneCell']
      have hst : (Try.prog.info? 48).map (·.size) = some (nd.l.map (Value.int .i64)).toArray.size := by rw [hlen]; exact info_node0
      have Hlen := SL.hid hlen; have Hone := SL.hid hone; have Hst := SL.hid hst
      have hset := hZ.setRow (cs' := (nd.l.map (Value.int .i64)).toArray)
      have Dset := SL.hid (DZ.setRow w2.heap.size (nd.l.map (Value.int .i64)).toArray)
      have Hz := SL.hid hZ.heap
      clear hlen hone hst H2 D2 DZ hZ
      go_wp2_with (refine wpList_store_row (by exact rfl) 48 (.tmp 5) (.tmp 24) (by exact rfl) w2.heap.size (nd.l.map (Value.int .i64)).toArray (by exact rfl) (by exact rfl) 48 _ (by with_reducible exact Hz.out) Hst.out (by rw [Hlen.out]; rfl) Hone.out ?_)
      generalize w2.heap.size = zb at *
      generalize World.setRow _ _ _ = w3 at *
      clear Hz
      rcases hpc with rfl | rfl
      · have HE := SL.hid (HE0.out rfl)
        clear HE0 HE4
        have hbu := built_held id nd Hnd16.out
        obtain ⟨ZR, hZR⟩ : ∃ Z, Z = List.replicate 240 (0 : Int) := ⟨_, rfl⟩
        rw [← hZR] at hbu
        have HR240 : RowKit.Hid (ZR.length = 240) := by show ZR.length = 240; rw [hZR]; rfl
        have HZR := SL.hid hZR
        clear hZR
        have Hbu := SL.hid hbu
        have hrow : w3.rangeAt zb 0 (nd.l.map (Value.int .i64)) := fun j v hv => by
          rw [Nat.zero_add, hset.cell, List.getElem?_toArray]; exact hv
        have hinfo : (Try.prog.info? 48).map (·.size) = some (nd.l.map (Value.int .i64)).length := by rw [List.length_map, Nd.cells Hnd16.out]; exact info_node0
        have Hrow := SL.hid hrow; have Hinfo := SL.hid hinfo
        clear hbu hrow hinfo
        have c4 : w3.cell? ⟨zb, 19, none⟩ = some (.int .i64 nd.rw) := (hset.cell 19).trans (Nd.at19 Hnd16.out)
        have Hset := SL.hid hset
        have hlt : zb < w3.heap.size := hset.lt
        clear hset
        have hT0 : Sat (w3.alloc (.cells (ints (id :: (nd.l ++ ZR))) 67 (0, 0))) (pt w3.heap.size (.cells (ints (id :: (nd.l ++ ZR))) 67 (0, 0)) * (pt zb (.cells (nd.l.map (Value.int .i64)).toArray 48 (0, 0)) * (workA x S1 st1 * (pool S1 * F)))) := Hset.out.alloc _
        have D0 := SL.hid (Dset.out.alloc (.cells (ints (id :: (nd.l ++ ZR))) 67 (0, 0)))
        have HT0 := SL.hid hT0
        have hlt2 : w3.heap.size < (w3.alloc (.cells (ints (id :: (nd.l ++ ZR))) 67 (0, 0))).heap.size := hT0.lt
        have c40 : (w3.alloc (.cells (ints (id :: (nd.l ++ ZR))) 67 (0, 0))).cell? ⟨zb, 19, none⟩ = some (.int .i64 nd.rw) := (hT0.front2.cell 19).trans (Nd.at19 Hnd16.out)
        clear hT0
        (with_reducible refine (check_ok _).mono ?_)
        rintro e w4 ⟨rfl, rfl⟩
        by_cases hrw : nd.rw = 0
        · have HE2 := SL.hid ((wload1_z (ask := x.c.ask) (n := x.n) (id := id.toNat) (st := st1) hrw).trans (by rw [← HZR.out]))
          rw [hrw] at c4 c40
          go_wp2_with (first
            | (refine wpList_load_mid (by exact rfl) 48 (.tmp 5) (by exact rfl) zb 0 (by exact rfl) (nd.l.map (Value.int .i64)) _ (by with_reducible exact Hrow.out) Try.underlying48 rfl (by with_reducible exact Hinfo.out) ?_)
            | (refine wpList_build_to (by exact rfl) 67 #[(0, .tmp 28), (1, .tmp 29)] (by exact rfl) _ (by exact rfl) _ (by exact Hbu.out) ?_))
          have hT := HT0.out
          generalize w3.alloc (.cells (ints (id :: (nd.l ++ ZR))) 67 (0, 0)) = w5 at *
          generalize w3.heap.size = hb at *
          clear c4 c40 Hrow Hinfo hlt hlt2 Hbu
          have hrA : RdI w5 (.slice (some ⟨zb, 3, none⟩) 16 16) nd.dr := by
            have h9 : Sat w5 (pt zb (.cells (ints nd.l) 48 (0, 0)) * _) := hT.front2
            have := RdI.row h9 3 16 (by rw [Nd.cells Hnd16.out]; decide) (by decide)
            rwa [Nd.drop3 Hnd16.out] at this
          have hrB : RdI w5 (.slice (some ⟨hb, 21, none⟩) 240 240) ZR := by
            have := RdI.row hT 21 240 (by rw [List.length_cons, List.length_append, Nd.cells Hnd16.out, HR240.out]; decide) (by decide)
            rwa [show ((id :: (nd.l ++ ZR)).drop 21).take 240 = ZR from by rw [List.drop_succ_cons, List.drop_left' (Nd.cells Hnd16.out), List.take_of_length_le (by rw [HR240.out]; decide)]] at this
          have c1 : w5.cell? ⟨x.k, 1, none⟩ = some (.int .i64 (x.n : Int)) := workX1 hT.right.right
          have hA : ∀ Q, _ → _ → Calls Try.prog 64 #[.pointer (some ⟨x.k, 0, none⟩), .slice (some ⟨zb, 3, none⟩) 16 16] w5 Q := wwithin_any w5 x.k x.n _ nd.dr (by rw [Hnd16.out]; decide) hrA c1
          have hB : ∀ Q, _ → _ → Calls Try.prog 64 #[.pointer (some ⟨x.k, 0, none⟩), .slice (some ⟨hb, 21, none⟩) 240 240] w5 Q := wwithin_any w5 x.k x.n _ ZR (by rw [HR240.out]; decide) hrB c1
          have HT := SL.hid hT
          clear hrA hrB c1 hT
          go_wp2_with fail
          refine hA _ (fun hy1 => ?_) (fun hn1 => ?_)
          · have Hy1 := SL.hid hy1
            clear hy1 hA
            go_wp2_with fail
            refine hB _ (fun hy2 => ?_) (fun hn2 => ?_)
            · have Hy2 := SL.hid hy2
              clear hy2 hB
              go_wp2_with fail
              refine HQ.out _ _ ?_
              rw [HE.out.trans (HE2.out.trans (wload2_ok Hy1.out Hy2.out))]
              refine ⟨S1, _, hS1, D0.out, rfl, ?_⟩
              refine Sat.ex_star_iff.2 ⟨hb, (Sat.fact_iff.2 ⟨rfl, Sat.held.2 ⟨⟨Hnd16.out, HR240.out⟩, ?_⟩⟩ : Sat _ (fact _ * _)).to (star_assoc _ _ _).symm⟩
              have e : (Hd.l ⟨id.toNat, nd, ZR⟩) = id :: (nd.l ++ ZR) := by show ((id.toNat : Int) :: _) = _; rw [Int.toNat_of_nonneg (by omega)]
              rw [e]
              exact (HT.out.to (by ac_rfl : _ = pt zb (.cells (nd.l.map (Value.int .i64)).toArray 48 (0, 0)) * (pt hb (.cells (ints (id :: (nd.l ++ ZR))) 67 (0, 0)) * (workA x S1 st1 * (pool S1 * F))))).right
            · have Hn2 := SL.hid hn2
              clear hn2 hB
              go_wp2_with fail
              exact ⟨rfl, HQ.out _ _ (by rw [HE.out.trans (HE2.out.trans (wload2_no2 Hy1.out Hn2.out))]; exact ⟨S1, hS1, D0.out, rfl, HT.out.right.right⟩)⟩
          · have Hn1 := SL.hid hn1
            clear hn1 hA hB
            go_wp2_with fail
            exact ⟨rfl, HQ.out _ _ (by rw [HE.out.trans (HE2.out.trans (wload2_no1 Hn1.out))]; exact ⟨S1, hS1, D0.out, rfl, HT.out.right.right⟩)⟩
        · have hrw2 : (nd.rw != 0) = true := by simpa using hrw
          have Hrw := SL.hid hrw
          have HE2 := SL.hid (wload1_w (ask := x.c.ask) (n := x.n) (id := id.toNat) (st := st1) hrw)
          have hT1 := HT0.out.alloc (.cells #[.int .i64 nd.rw] 3 (0, 0))
          have D1 := SL.hid (D0.out.alloc (.cells #[.int .i64 nd.rw] 3 (0, 0)))
          have HT1 := SL.hid hT1
          have hrC : RdI ((w3.alloc (.cells (ints (id :: (nd.l ++ ZR))) 67 (0, 0))).alloc (.cells #[.int .i64 nd.rw] 3 (0, 0))) (.slice (some ⟨w3.heap.size + 1, 0, none⟩) 1 1) [nd.rw] := by
            have h8 := hT1
            rw [World.size_alloc] at h8
            exact RdI.row (xs := [nd.rw]) h8 0 1 (Nat.le_refl _) (by decide)
          have c1 : ((w3.alloc (.cells (ints (id :: (nd.l ++ ZR))) 67 (0, 0))).alloc (.cells #[.int .i64 nd.rw] 3 (0, 0))).cell? ⟨x.k, 1, none⟩ = some (.int .i64 (x.n : Int)) := workX1 hT1.right.right.right
          have hC : ∀ Q, _ → _ → Calls Try.prog 64 #[.pointer (some ⟨x.k, 0, none⟩), .slice (some ⟨w3.heap.size + 1, 0, none⟩) 1 1] _ Q := wwithin_any _ x.k x.n _ [nd.rw] (by show 1 ≤ 1000; decide) hrC c1
          have c41 : ((w3.alloc (.cells (ints (id :: (nd.l ++ ZR))) 67 (0, 0))).alloc (.cells #[.int .i64 nd.rw] 3 (0, 0))).cell? ⟨zb, 19, none⟩ = some (.int .i64 nd.rw) := (hT1.front3.cell 19).trans (Nd.at19 Hnd16.out)
          clear hT1 hrC c1 hrw
          go_wp2_with (first
            | (refine wpList_load_mid (by exact rfl) 48 (.tmp 5) (by exact rfl) zb 0 (by exact rfl) (nd.l.map (Value.int .i64)) _ (by with_reducible exact Hrow.out) Try.underlying48 rfl (by with_reducible exact Hinfo.out) ?_)
            | (refine wpList_build_to (by exact rfl) 67 #[(0, .tmp 28), (1, .tmp 29)] (by exact rfl) _ (by exact rfl) _ (by exact Hbu.out) ?_))
          refine hC _ (fun hy => ?_) (fun hn => ?_)
          · have Hy := SL.hid hy
            have hr2 := read_anyW x hc _ S1 st1 nd.rw _ (HT1.out.right.to (by ac_rfl : _ = workA x S1 st1 * (pool S1 * (pt w3.heap.size (.cells (ints (id :: (nd.l ++ ZR))) 67 (0, 0)) * (pt zb (.cells (nd.l.map (Value.int .i64)).toArray 48 (0, 0)) * F)))))
            clear hy hC
            generalize (w3.alloc (.cells (ints (id :: (nd.l ++ ZR))) 67 (0, 0))).alloc (.cells #[.int .i64 nd.rw] 3 (0, 0)) = w5 at *
            generalize w3.alloc (.cells (ints (id :: (nd.l ++ ZR))) 67 (0, 0)) = w4 at *
            generalize w3.heap.size = hb at *
            clear c4 c40 Hrow Hinfo hlt hlt2 Hbu HT0
            obtain ⟨⟨r2, st2⟩, hp2⟩ : ∃ p, wread x.c.ask nd.rw st1 = p := ⟨_, rfl⟩
            rw [hp2] at hr2
            cases r2 with
            | bad c =>
              have HE3 := SL.hid (wload1_r (id := id.toNat) Hrw.out Hy.out hp2)
              clear hp2
              go_wp2_with fail
              (with_reducible refine hr2.mono ?_)
              rintro e w6 ⟨S2, hS2, d6, rfl, h6⟩
              go_wp2_with fail
              exact ⟨rfl, HQ.out _ _ (by rw [HE.out.trans HE3.out]; exact ⟨S2, hS1.trans hS2, D1.out.trans d6, rfl, h6.to (by ac_rfl : _ = (workA x S2 st2 * (pool S2 * F)) * (pt hb (.cells (ints (id :: (nd.l ++ ZR))) 67 (0, 0)) * pt zb (.cells (nd.l.map (Value.int .i64)).toArray 48 (0, 0)))) |>.left⟩)⟩
            | ok L2 =>
              have hL2 := wread_len hp2
              have hE3 := fun row => wload1_d (row := row) (id := id.toNat) Hrw.out Hy.out hp2
              have hE4 := fun row => wload1_g (row := row) (id := id.toNat) Hrw.out Hy.out hp2
              have hd := fun w1 v1 hr => decR_any w1 v1 L2 hr hL2
              have h240 := rowP_240 L2
              have hrc := rowP_c L2
              unfold DecRQ at hd
              generalize rowP L2 = p at *
              obtain ⟨row, c⟩ := p
              dsimp only at hd h240 hrc
              have HE3 := SL.hid (hE3 row); have HE4 := SL.hid (hE4 row); have H240 := SL.hid h240
              clear hE3 hE4 hp2 hL2 h240
              go_wp2_with fail
              (with_reducible refine hr2.mono ?_)
              rintro e w6 ⟨S2, v2, hS2, d6, rfl, h6⟩
              have hd2 := hd w6 v2 h6.rds
              have Hk := SL.hid (fun w' (h : Sat w' (whole w6)) => Sat.keepW h h6)
              clear hr2 hd
              go_wp2_with fail
              (with_reducible refine hd2.mono ?_)
              rintro e w7 ⟨rfl, h7, d7⟩
              have h8 : Sat w7 (pt hb (.cells (ints (id :: (nd.l ++ ZR))) 67 (0, 0)) * (pt zb (.cells (nd.l.map (Value.int .i64)).toArray 48 (0, 0)) * (workA x S2 st2 * (pool S2 * F)))) := (Hk.out w7 h7).right.to (by ac_rfl)
              have D8 := SL.hid (Side.setCells (row.map (Value.int .i64)) 21 hb ((D1.out.trans d6).trans d7))
              have hS3 := hS1.trans hS2
              have hset := Sat.setCells (row.map (Value.int .i64)) 21 h8
              rw [setRow_held id nd.l ZR row (Nd.cells Hnd16.out) HR240.out H240.out] at hset
              have hth : w7.there hb 21 (row.map (Value.int .i64)).toArray.size := by
                have hz : (row.map (Value.int .i64)).toArray.size = 240 := by simp [H240.out]
                rw [hz]
                exact Sat.there h8 (by rw [size_ints, List.length_cons, List.length_append, Nd.cells Hnd16.out, HR240.out]; decide)
              have hinf : (Try.prog.info? 65).map (·.size) = some (row.map (Value.int .i64)).toArray.size := by
                have hz : (row.map (Value.int .i64)).toArray.size = 240 := by simp [H240.out]
                rw [hz]; exact info_row
              have hone2 : (row.map (Value.int .i64)).toArray.all (·.oneCell') = true := by simp [Value.oneCell']
              have hio : Value.agg (ints row) = .agg (row.map (Value.int .i64)).toArray := rfl
              have Hth := SL.hid hth; have Hinf := SL.hid hinf; have Hone2 := SL.hid hone2; have Hset2 := SL.hid hset
              rw [hio]
              clear hd2 Hk h6 h7 d6 d7 h8 hth hinf hone2 hio hset HT1 D1 hS1 hS2 c41
              go_wp2_with (refine wpList_store_mid (by exact rfl) 65 (.tmp 50) (.tmp 47) (by exact rfl) hb 21 (row.map (Value.int .i64)).toArray (by exact rfl) (by exact rfl) (by with_reducible exact Hth.out) Hinf.out Hone2.out ?_)
              rcases hrc with rfl | rfl
              · have HE5 := SL.hid (HE.out.trans (HE4.out rfl))
                (with_reducible refine (check_ok _).mono ?_)
                rintro e w9 ⟨rfl, rfl⟩
                have hT : Sat (w7.setCells hb 21 (row.map (Value.int .i64)).toArray.toList) _ := Hset2.out
                clear HR240
                have HR240 := H240
                have DD : RowKit.Hid (Side w (w7.setCells hb 21 (row.map (Value.int .i64)).toArray.toList)) := D8
                clear Hth Hset2 D8
                generalize w7.setCells hb 21 (row.map (Value.int .i64)).toArray.toList = w8 at *
                have hrA : RdI w8 (.slice (some ⟨zb, 3, none⟩) 16 16) nd.dr := by
                  have h9 : Sat w8 (pt zb (.cells (ints nd.l) 48 (0, 0)) * _) := hT.front2
                  have := RdI.row h9 3 16 (by rw [Nd.cells Hnd16.out]; decide) (by decide)
                  rwa [Nd.drop3 Hnd16.out] at this
                have hrB : RdI w8 (.slice (some ⟨hb, 21, none⟩) 240 240) row := by
                  have := RdI.row hT 21 240 (by rw [List.length_cons, List.length_append, Nd.cells Hnd16.out, HR240.out]; decide) (by decide)
                  rwa [show ((id :: (nd.l ++ row)).drop 21).take 240 = row from by rw [List.drop_succ_cons, List.drop_left' (Nd.cells Hnd16.out), List.take_of_length_le (by rw [HR240.out]; decide)]] at this
                have c1 : w8.cell? ⟨x.k, 1, none⟩ = some (.int .i64 (x.n : Int)) := workX1 hT.right.right
                have hA : ∀ Q, _ → _ → Calls Try.prog 64 #[.pointer (some ⟨x.k, 0, none⟩), .slice (some ⟨zb, 3, none⟩) 16 16] w8 Q := wwithin_any w8 x.k x.n _ nd.dr (by rw [Hnd16.out]; decide) hrA c1
                have hB : ∀ Q, _ → _ → Calls Try.prog 64 #[.pointer (some ⟨x.k, 0, none⟩), .slice (some ⟨hb, 21, none⟩) 240 240] w8 Q := wwithin_any w8 x.k x.n _ row (by rw [HR240.out]; decide) hrB c1
                have HT := SL.hid hT
                clear hrA hrB c1 hT
                go_wp2_with fail
                refine hA _ (fun hy1 => ?_) (fun hn1 => ?_)
                · have Hy1 := SL.hid hy1
                  clear hy1 hA
                  go_wp2_with fail
                  refine hB _ (fun hy2 => ?_) (fun hn2 => ?_)
                  · have Hy2 := SL.hid hy2
                    clear hy2 hB
                    go_wp2_with fail
                    refine HQ.out _ _ ?_
                    rw [HE5.out.trans (wload2_ok Hy1.out Hy2.out)]
                    refine ⟨S2, _, hS3, DD.out, rfl, ?_⟩
                    refine Sat.ex_star_iff.2 ⟨hb, (Sat.fact_iff.2 ⟨rfl, Sat.held.2 ⟨⟨Hnd16.out, HR240.out⟩, ?_⟩⟩ : Sat _ (fact _ * _)).to (star_assoc _ _ _).symm⟩
                    have e : (Hd.l ⟨id.toNat, nd, row⟩) = id :: (nd.l ++ row) := by show ((id.toNat : Int) :: _) = _; rw [Int.toNat_of_nonneg (by omega)]
                    rw [e]
                    exact (HT.out.to (by ac_rfl : _ = pt zb (.cells (nd.l.map (Value.int .i64)).toArray 48 (0, 0)) * (pt hb (.cells (ints (id :: (nd.l ++ row))) 67 (0, 0)) * (workA x S2 st2 * (pool S2 * F))))).right
                  · have Hn2 := SL.hid hn2
                    clear hn2 hB
                    go_wp2_with fail
                    exact ⟨rfl, HQ.out _ _ (by rw [HE5.out.trans (wload2_no2 Hy1.out Hn2.out)]; exact ⟨S2, hS3, DD.out, rfl, HT.out.right.right⟩)⟩
                · have Hn1 := SL.hid hn1
                  clear hn1 hA hB
                  go_wp2_with fail
                  exact ⟨rfl, HQ.out _ _ (by rw [HE5.out.trans (wload2_no1 Hn1.out)]; exact ⟨S2, hS3, DD.out, rfl, HT.out.right.right⟩)⟩
              · have HE5 := SL.hid (HE.out.trans (HE3.out rfl))
                (with_reducible refine (check_bad _ 4 (by decide)).mono ?_)
                rintro e w9 ⟨rfl, rfl⟩
                go_wp2_with fail
                exact ⟨rfl, HQ.out _ _ (by rw [HE5.out]; exact ⟨S2, hS3, D8.out, rfl, Hset2.out.right.right⟩)⟩
          · have Hn := SL.hid hn
            clear hn hC
            go_wp2_with fail
            exact ⟨rfl, HQ.out _ _ (by rw [HE.out.trans (HE2.out Hn.out)]; exact ⟨S1, hS1, D1.out, rfl, HT1.out.right.right.right⟩)⟩
      · have HE := SL.hid (HE4.out rfl)
        clear HE0 HE4
        (with_reducible refine (check_bad _ 4 (by decide)).mono ?_)
        rintro e w4 ⟨rfl, rfl⟩
        go_wp2_with fail
        exact ⟨rfl, HQ.out _ _ (by rw [HE.out]; exact ⟨S1, hS1, Dset.out, rfl, hset.right⟩)⟩
  · have Hp := SL.hid (wload_no (ask := x.c.ask) (st := st) hid)
    have HQ := SL.hid hQ
    have HL := SL.hid (show Q (.panicked (flt 1)) w from hQ _ _ (by rw [Hp.out]; exact ⟨S, Ext.refl S, Side.refl w, rfl, h⟩))
    clear hQ
    by_cases h1 : 1 ≤ id
    · have h2 : decide (id < (x.n : Int)) = false := decide_eq_false (by omega)
      clear hid
      go_enter Try.func31, Try.ntmps31
      go_wp2_with fail
      (with_reducible refine (need_no w).mono ?_)
      rintro e w2 ⟨rfl, rfl⟩
      go_wp2_with fail
      exact ⟨rfl, HL.out⟩
    · have h2 : id < 1 := by omega
      clear hid
      go_enter Try.func31, Try.ntmps31
      go_wp2_with fail
      (with_reducible refine (need_no w).mono ?_)
      rintro e w2 ⟨rfl, rfl⟩
      go_wp2_with fail
      exact ⟨rfl, HL.out⟩
end
end Go.Proofs.Ytaoohjeaaccnfaa.Fs

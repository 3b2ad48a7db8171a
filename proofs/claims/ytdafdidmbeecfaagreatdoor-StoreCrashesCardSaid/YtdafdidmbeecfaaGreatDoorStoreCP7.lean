/- Steps towards the statement StoreC. -/
import Derived.Test.YtdafdidmbeecfaaGreatDoorStoreCP3
import Derived.Test.YtdafdidmbeecfaaGreatDoorRows
import Derived.Deep.LoopGhost
import Derived.Deep.RegionHeld3
import Derived.Laws.CopyRow
section
namespace Go.SL
set_option linter.unusedVariables false
set_option linter.unusedSimpArgs false
open Go.RowKit
abbrev i64w (n : Int) : Int := wrap64 n
structure Dev where
 sec : List (List UInt8)
 wait : List (Int × List UInt8)
 torn : List (Int × Unit)
 cr : Int
 cw : Int
 cf : Int
 down : Bool
 armed : Bool
 left : Int
 keep : List Int
def Dev.fresh (n : Nat) : Dev := ⟨List.replicate n [], [], [], 0, 0, 0, false, false, 0, []⟩
def Dev.done (D : Dev) (x : Int × List UInt8) : Dev := { D with sec := D.sec.set x.1.toNat x.2, torn := del D.torn x.1 }
def Dev.doneAll (D : Dev) (l : List (Int × List UInt8)) : Dev := l.foldl Dev.done D
def Dev.tear (D : Dev) (x : Int × List UInt8) : Dev := { D with torn := SL.upd D.torn x.1 () }
def Dev.fate (D : Dev) (f : Int) (x : Int × List UInt8) : Dev := if f = 1 then D.done x else if f = 2 then D.tear x else D
def Dev.fates (D : Dev) (keep : List Int) : Nat → Dev
 | 0 => D
 | k + 1 => match D.wait[k]? with
  | some p => (D.fates keep k).fate (keep.getD k 0) p
  | none => D.fates keep k
def Dev.crash (D : Dev) (keep : List Int) : Dev := { D.fates keep D.wait.length with wait := [], down := true, armed := false, left := 0, keep := [] }
def Dev.strike (D : Dev) : Dev := if !D.down && D.armed && D.left == 0 then D.crash D.keep else D
def Dev.begun (D : Dev) : Dev := if D.strike.down then D.strike else if D.strike.armed then { D.strike with left := i64w (D.strike.left - 1) } else D.strike
def Dev.begins (D : Dev) : Int := if D.strike.down then 2 else 0
def Dev.has (D : Dev) (at' : Int) : Prop := 0 ≤ at' ∧ at' < D.sec.length
instance (D : Dev) (a : Int) : Decidable (D.has a) := inferInstanceAs (Decidable (_ ∧ _))
def newest (l : List (Int × List UInt8)) (a : Int) : Option (List UInt8) := (l.reverse.find? fun x => x.1 == a).map Prod.snd
def Dev.tells (D : Dev) (a : Int) : Int × List UInt8 :=
 match newest D.wait a with
 | some l => (0, padTo 512 l)
 | none => if (kget D.torn a).isSome then (3, []) else (0, padTo 512 (D.sec.getD a.toNat []))
def Dev.read (D : Dev) (a : Int) : (Int × List UInt8) × Dev :=
 if D.has a then (if D.begins = 0 then (D.begun.tells a, { D.begun with cr := i64w (D.begun.cr + 1) }) else ((2, []), D.begun)) else ((1, []), D)
def Dev.write (D : Dev) (a : Int) (l : List UInt8) : Int × Dev :=
 if D.has a ∧ l.length = 512 then (if D.begins = 0 then (0, { D.begun with cw := i64w (D.begun.cw + 1), wait := D.begun.wait ++ [(a, l)] }) else (2, D.begun)) else (1, D)
def Dev.flushed (D : Dev) : Dev := { ({ D with cf := i64w (D.cf + 1) } : Dev).doneAll D.wait with wait := [] }
def Dev.flush (D : Dev) : Int × Dev := if D.begins = 0 then (0, D.begun.flushed) else (2, D.begun)
structure Dev.Ok (D : Dev) : Prop where
 n : D.sec.length ≤ 20000
 wait : ∀ x ∈ D.wait, D.has x.1
 many : D.wait.length ≤ 1000000
 keep : D.keep.length ≤ 4611686018427387904
theorem Dev.strike_up {D : Dev} (h : D.begins = 0) : D.strike = D := by
 unfold Dev.begins at h
 by_cases h1 : (!D.down && D.armed && D.left == 0) = true
 ·rw [Dev.strike, if_pos h1] at h; simp [Dev.crash] at h
 ·rw [Dev.strike, if_neg h1]
theorem Dev.begun_up {D : Dev} (h : D.begins = 0) : D.begun = { D with left := D.begun.left } := by
 have hs := Dev.strike_up h
 have hd : D.down = false := by
  unfold Dev.begins at h
  rw [hs] at h
  cases hD : D.down with
  | false => rfl
  | true => simp [hD] at h
 obtain ⟨sec, wait, torn, cr, cw, cf, down, armed, left, keep⟩ := D
 simp only at hd
 subst hd
 unfold Dev.begun
 rw [hs]
 cases armed <;> rfl
theorem Dev.Ok.up {D : Dev} (h : D.Ok) (e : D.begins = 0) : D.begun.Ok := by
 rw [Dev.begun_up e]; exact ⟨h.n, h.wait, h.many, h.keep⟩
theorem Dev.begins_cases (D : Dev) : D.begins = 0 ∨ D.begins = 2 := by
 unfold Dev.begins; split <;> simp
abbrev Zs := List (Int × Value × List UInt8)
def flatW (Z : Zs) : List Value := Z.flatMap fun z => [.int .i64 z.1, z.2.1]
theorem flatW_length (Z : Zs) : (flatW Z).length = Z.length * 2 := by
 induction Z with
 | nil => rfl
 | cons z Z ih => simp only [flatW, List.flatMap_cons, List.length_append, List.length_cons, List.length_nil] at ih ⊢; omega
theorem flatW_get : ∀ (Z : Zs) (i : Nat) (h : i < Z.length), (flatW Z)[i * 2]? = some (.int .i64 Z[i].1) ∧ (flatW Z)[i * 2 + 1]? = some Z[i].2.1 := by
 intro Z
 induction Z with
 | nil => intro i h; simp at h
 | cons z Z ih =>
  intro i h
  cases i with
  | zero => simp [flatW]
  | succ i =>
   have := ih i (by simpa using h)
   rw [show (i + 1) * 2 = i * 2 + 1 + 1 by omega]
   simpa [flatW] using this
theorem Sat.writeCells {w : World} {TW : TypeId} {n : Nat} {Z : Zs} {F : Assn} {g c m : Nat} (h : Sat w (sl TW 2 (.slice (some ⟨g, 0, none⟩) m c) n (flatW Z) * F)) {i : Nat} (hi : i < Z.length) :
  w.cell? ⟨g, i * 2, none⟩ = some (.int .i64 Z[i].1) ∧ w.cell? ⟨g, i * 2 + 1, none⟩ = some Z[i].2.1 := by
 obtain ⟨a, b⟩ := flatW_get Z i hi
 obtain ⟨_, hr⟩ := h.rds
 rcases hr with ⟨hv, h0⟩ | ⟨ad, c', he, ha⟩
 ·cases hv
 ·cases he
  exact ⟨by have := ha _ _ a; rwa [Addr.add_lit, Nat.zero_add] at this, by have := ha _ _ b; rwa [Addr.add_lit, Nat.zero_add] at this⟩
structure Dx where
 sg : Nat
 tm : Nat
 wv : Value
 kv : Value
 Y : List (Value × List UInt8)
 Z : Zs
def Dx.cells (x : Dx) (D : Dev) : Array Value :=
 #[.slice (some ⟨x.sg, 0, none⟩) x.Y.length x.Y.length, x.wv, .map (some x.tm), .int .i64 D.cr, .int .i64 D.cw, .int .i64 D.cf, .bool D.down, .bool D.armed, .int .i64 D.left, x.kv]
def tornKV (t : List (Int × Unit)) : KV := t.map fun p => (p.1, .agg #[])
def i64v (l : List Int) : List Value := l.map (Value.int .i64)
structure Dx.Fit (x : Dx) (T : TypeId) (S : Hp) (D : Dev) : Prop where
 sec : x.Y.map Prod.snd = D.sec
 vals : ∀ y ∈ x.Y, Val T S y.1 y.2
 wait : x.Z.map (fun z => (z.1, z.2.2)) = D.wait
 wvals : ∀ z ∈ x.Z, Val T S z.2.1 z.2.2
theorem Dx.Fit.mono {x : Dx} {T : TypeId} {S S' : Hp} {D : Dev} (h : x.Fit T S D) (e : Ext S S') : x.Fit T S' D :=
 ⟨h.sec, fun y hy => (h.vals y hy).mono e, h.wait, fun z hz => (h.wvals z hz).mono e⟩
theorem tornKV_upd (t : List (Int × Unit)) (a : Int) : SL.upd (tornKV t) a (.agg #[]) = tornKV (SL.upd t a ()) := by
 have := upd_map (fun _ : Unit => Value.agg #[]) t a ()
 simpa [tornKV] using this
theorem tornKV_del (t : List (Int × Unit)) (a : Int) : del (tornKV t) a = tornKV (del t a) := by
 simp only [tornKV, del, List.filter_map]; rfl
theorem tornKV_get (t : List (Int × Unit)) (a : Int) : (kget (tornKV t) a).isSome = (kget t a).isSome := by
 have := look_map (fun _ : Unit => Value.agg #[]) t a
 rw [tornKV, this, Option.isSome_map]
end Go.SL
namespace Go.SL
set_option linter.unusedVariables false
set_option linter.unusedSimpArgs false
open Go.RowKit
def devP (x : Dx) (D : Dev) (d : Nat) : Assn :=
 pt d (.cells (x.cells D) 76 (0, 0)) * (pt x.sg (.cells (x.Y.map Prod.fst).toArray 22 (0, 0)) * (sl 80 2 x.wv x.Z.length (flatW x.Z) * (mp x.tm (tornKV D.torn) * sl 3 1 x.kv D.keep.length (i64v D.keep))))
def devX (x : Dx) (S : Hp) (d : Nat) (D : Dev) : Assn := fact (x.Fit 5 S D) * devP x D d
def devA (S : Hp) (d : Nat) (D : Dev) : Assn := ex fun x : Dx => devX x S d D
section
variable {w : World} {S S' : Hp} {d : Nat} {D : Dev} {F : Assn} {x : Dx}
theorem Sat.devOpen (h : Sat w (devX x S d D * F)) : x.Fit 5 S D ∧ Sat w (pt d (.cells (x.cells D) 76 (0, 0)) * (pt x.sg (.cells (x.Y.map Prod.fst).toArray 22 (0, 0)) * (sl 80 2 x.wv x.Z.length (flatW x.Z) * (mp x.tm (tornKV D.torn) * (sl 3 1 x.kv D.keep.length (i64v D.keep) * F))))) := by
 obtain ⟨h1, h2⟩ := Sat.fact_iff.1 (h.to (star_assoc _ _ _))
 exact ⟨h1, h2.to (by unfold devP; ac_rfl)⟩
theorem Sat.devShut (hf : x.Fit 5 S D) (h : Sat w (pt d (.cells (x.cells D) 76 (0, 0)) * (pt x.sg (.cells (x.Y.map Prod.fst).toArray 22 (0, 0)) * (sl 80 2 x.wv x.Z.length (flatW x.Z) * (mp x.tm (tornKV D.torn) * (sl 3 1 x.kv D.keep.length (i64v D.keep) * F)))))) : Sat w (devX x S d D * F) :=
 (Sat.fact_iff.2 ⟨hf, h.to (by unfold devP; ac_rfl : _ = devP x D d * F)⟩ : Sat w (fact _ * _)).to (star_assoc _ _ _).symm
theorem Sat.devEx (h : Sat w (devA S d D * F)) : ∃ x, Sat w (devX x S d D * F) := Sat.ex_star_iff.1 h
theorem Sat.devOf (h : Sat w (devX x S d D * F)) : Sat w (devA S d D * F) := Sat.ex_star_iff.2 ⟨x, h⟩
theorem devX_mono (e : Ext S S') (h : Hp) (p : devX x S d D h) : devX x S' d D h := by
 obtain ⟨h1, h2, ⟨p1, p2⟩, p3, p4, p5⟩ := p
 exact ⟨h1, h2, ⟨p1.mono e, p2⟩, p3, p4, p5⟩
theorem devA_mono (e : Ext S S') (h : Hp) (p : devA S d D h) : devA S' d D h := by
 obtain ⟨x, p⟩ := p
 exact ⟨x, devX_mono e h p⟩
theorem Sat.devCell (h : Sat w (devX x S d D * F)) (i : Nat) : w.cell? ⟨d, i, none⟩ = (x.cells D)[i]? := h.devOpen.2.cell i
theorem Sat.devFree (h : Sat w (devX x S d D * F)) (i : Nat) : w.frozen? ⟨d, i, none⟩ = false := h.devOpen.2.frozen i
theorem Sat.devSecs (h : Sat w (devX x S d D * F)) : x.Y.length = D.sec.length := by rw [← h.devOpen.1.sec, List.length_map]
theorem Sat.devWaits (h : Sat w (devX x S d D * F)) : x.Z.length = D.wait.length := by rw [← h.devOpen.1.wait, List.length_map]
theorem Sat.devW (h : Sat w (devX x S d D * F)) : ∃ a c, x.wv = .slice a D.wait.length c := by
 have := sl_shape h.devOpen.2.front3
 rwa [h.devWaits] at this
end
end Go.SL
namespace Go.Proofs.YtdafdidmbeecfaaGreatDoor
set_option linter.unusedVariables false
set_option linter.unusedSimpArgs false
open Go.RowKit Go.SL
theorem sectors_any (w : World) (S : Hp) (d : Nat) (D : Dev) (F : Assn) (h : Sat w (devA S d D * F)) :
  Calls Tryz.prog 47 #[.pointer (some ⟨d, 0, none⟩)] w fun e w' => e = .returned (.int .i64 D.sec.length) ∧ w = w' := by
 obtain ⟨x, h⟩ := h.devEx
 have hc : w.cell? ⟨d, 0, none⟩ = some (.slice (some ⟨x.sg, 0, none⟩) D.sec.length D.sec.length) := by rw [h.devCell, ← h.devSecs]; rfl
 clear h
 go_enter Tryz.func47, Tryz.ntmps47
 go_wp2
 go_ret
 exact ⟨rfl, rfl⟩
def BoolIs (b : Bool) (w : World) (e : Ending) (w' : World) : Prop := e = .returned (.bool b) ∧ w = w'
theorem has_any (w : World) (S : Hp) (d : Nat) (D : Dev) (a : Int) (F : Assn) (h : Sat w (devA S d D * F)) :
  Calls Tryz.prog 35 #[.pointer (some ⟨d, 0, none⟩), .int .i64 a] w (BoolIs (decide (D.has a)) w) := by
 have hs := sectors_any w S d D F h
 clear h
 by_cases h0 : 0 ≤ a
 ·by_cases h1 : a < D.sec.length
  ·have hd : decide (D.has a) = true := by simp [Dev.has, h0, h1]
   rw [hd]; clear hd
   go_enter Tryz.func35, Tryz.ntmps35
   go_wp2_with (go_at_call 47; refine hs.mono ?_; rintro e w1 ⟨rfl, rfl⟩)
   go_ret
   exact ⟨rfl, rfl⟩
  ·have hd : decide (D.has a) = false := by simp [Dev.has, h1]
   rw [hd]; clear hd
   have hd2 : decide (a < D.sec.length) = false := by simpa using h1
   go_enter Tryz.func35, Tryz.ntmps35
   go_wp2_with (go_at_call 47; refine hs.mono ?_; rintro e w1 ⟨rfl, rfl⟩)
   go_ret
   exact ⟨rfl, rfl⟩
 ·have hd : decide (D.has a) = false := by simp [Dev.has, h0]
  rw [hd]; clear hd hs
  go_enter Tryz.func35, Tryz.ntmps35
  go_wp2
  go_ret
  exact ⟨rfl, rfl⟩
def CopiedBQ (w : World) (l : List UInt8) (e : Ending) (w' : World) : Prop := ∃ g, e = .returned (.slice (some ⟨g, 0, none⟩) 512 512) ∧ Sat w' (pt g (.cells (u8s (padTo 512 l)) 5 (0, 0)) * whole w) ∧ Side w w'
theorem info_u8 : (Tryz.prog.info? 5).map (fun i => (i.zero, i.size, i.bytes)) = some (some (.int .u8 0), 1, 1) := by kernel_rfl
theorem info_u8_1 : (Tryz.prog.info? 5).map (·.size) = some 1 := by kernel_rfl
theorem info_bytes : (Tryz.prog.info? 22).map (fun i => (i.zero, i.size, i.bytes)) = some (some (.slice none 0 0), 1, 24) := by kernel_rfl
theorem make_bytes (n : Nat) (hn : n ≤ 281474976710656) (w : World) : (Instr.makeSlice 22 (.int .i64 n) (.int .i64 n)).run Tryz.prog w =
  .ok (.slice (some ⟨w.heap.size, 0, none⟩) n n) (w.alloc (.cells (u8s (zs n)) 5 (0, 0))) := by
 obtain ⟨i, hi, hz, hs, hb⟩ := info_parts info_u8
 have := run_make (P := Tryz.prog) w 22 5 i _ Tryz.underlying22 hi hz .i64 .i64 n n (by omega) (by omega) (by rw [hb]; omega) (by omega)
 rw [this, hs]
 simp only [Int.toNat_natCast]
 rw [madeCells_u8]
set_option maxRecDepth 100000 in
set_option maxHeartbeats 1000000 in
theorem copiedB_any (w : World) (v : Value) (l : List UInt8) (hr : Rd w v l) (hl : l.length ≤ 9223372036854775807) :
  Calls Tryz.prog 37 #[v] w (CopiedBQ w l) := by
 have hmk : ∀ w, (Instr.makeSlice 22 (.int .i64 512) (.int .i64 512)).run Tryz.prog w =
  .ok (.slice (some ⟨w.heap.size, 0, none⟩) 512 512) (w.alloc (.cells (u8s (zs 512)) 5 (0, 0))) := make_bytes 512 (by omega)
 have hr' : Rd (w.alloc (.cells (u8s (zs 512)) 5 (0, 0))) v l := Rds.alloc hr _
 have hA := (Sat.whole w).alloc (.cells (u8s (zs 512)) 5 (0, 0))
 obtain ⟨w2, v2, hrun, h2, d2⟩ := copy_pad (P := Tryz.prog) (dT := 22) (T := 5) Tryz.underlying22 info_u8_1 hA hr' 3
 have d1 := (Side.refl w).alloc (.cells (u8s (zs 512)) 5 (0, 0))
 have Hrun := SL.hid hrun
 clear hrun hr' hA
 go_enter Tryz.func37, Tryz.ntmps37
 go_wp2_with (refine wpList_copy_run Hrun.out _ _ rfl rfl rfl rfl rfl ?_)
 go_ret
 exact ⟨_, rfl, h2, d1.trans d2⟩
end Go.Proofs.YtdafdidmbeecfaaGreatDoor
end
section
namespace Go.Proofs.YtdafdidmbeecfaaGreatDoor
set_option linter.unusedVariables false
set_option linter.unusedSimpArgs false
open Go.RowKit Go.SL
theorem val_shape {T : TypeId} {S : Hp} {v : Value} {l : List UInt8} (h : Val T S v l) : ∃ a c, v = .slice a l.length c := by
 rcases h.2 with ⟨rfl, rfl⟩ | ⟨g, cap, cur, rfl, _⟩
 ·exact ⟨_, _, rfl⟩
 ·exact ⟨_, _, rfl⟩
def DoneQ (x : Dx) (S : Hp) (d : Nat) (D : Dev) (p : Int × List UInt8) (dv : Value) (F : Assn) (w : World) (e : Ending) (w' : World) : Prop :=
 e = .returned (.tuple #[]) ∧ Sat w' (devX { x with Y := x.Y.set p.1.toNat (dv, p.2) } S d (D.done p) * F) ∧ Side w w'
set_option maxRecDepth 100000 in
set_option maxHeartbeats 2000000 in
theorem done_any (w : World) (S : Hp) (d : Nat) (D : Dev) (x : Dx) (p : Int × List UInt8) (dv : Value) (F : Assn) (h : Sat w (devX x S d D * F)) (hv : Val 5 S dv p.2) (hh : D.has p.1) :
  Calls Tryz.prog 62 #[.pointer (some ⟨d, 0, none⟩), .agg #[.int .i64 p.1, dv]] w (DoneQ x S d D p dv F w) := by
 obtain ⟨q, l⟩ := p
 obtain ⟨a, rfl⟩ := Int.eq_ofNat_of_zero_le hh.1
 have hlt : (a : Int) < (x.Y.length : Int) := by rw [h.devSecs]; exact hh.2
 have hlt' : a < x.Y.length := by omega
 obtain ⟨hf, hs⟩ := h.devOpen
 obtain ⟨da, dc, rfl⟩ := val_shape hv
 obtain ⟨va, ha⟩ : ∃ va, (x.Y.map Prod.fst)[a]? = some va := ⟨_, List.getElem?_eq_getElem (by simpa using hlt')⟩
 have hA := hs.alloc (.cells #[.int .i64 a, .slice da l.length dc] 80 (0, 0))
 have hside := (Side.refl w).alloc (.cells #[.int .i64 a, .slice da l.length dc] 80 (0, 0))
 go_enter Tryz.func62, Tryz.ntmps62
 go_wp2
 generalize hw1 : w.alloc (.cells #[.int .i64 a, .slice da l.length dc] 80 (0, 0)) = w1 at hA hside ⊢
 generalize w.heap.size = bx at hA ⊢
 have k0 : w1.cell? ⟨d, 0, none⟩ = some (.slice (some ⟨x.sg, 0, none⟩) x.Y.length x.Y.length) := hA.front2.cell 0
 have kb0 : w1.cell? ⟨bx, 0, none⟩ = some (.int .i64 a) := hA.cell 0
 have kb1 : w1.cell? ⟨bx, 1, none⟩ = some (.slice da l.length dc) := hA.cell 1
 have ks : w1.cell? ⟨x.sg, a, none⟩ = some va := (hA.front3.cell a).trans (by simpa using ha)
 have kf : w1.frozen? ⟨x.sg, a, none⟩ = false := hA.front3.frozen a
 have H2 := (hA.front3.setCell a (.slice da l.length dc)).back3
 have s0 : (w1.setCell ⟨x.sg, a, none⟩ (.slice da l.length dc)).cell? ⟨d, 0, none⟩ = some (.slice (some ⟨x.sg, 0, none⟩) x.Y.length x.Y.length) := H2.front2.cell 0
 have sb0 : (w1.setCell ⟨x.sg, a, none⟩ (.slice da l.length dc)).cell? ⟨bx, 0, none⟩ = some (.int .i64 a) := H2.cell 0
 have sb1 : (w1.setCell ⟨x.sg, a, none⟩ (.slice da l.length dc)).cell? ⟨bx, 1, none⟩ = some (.slice da l.length dc) := H2.cell 1
 have s2 : (w1.setCell ⟨x.sg, a, none⟩ (.slice da l.length dc)).cell? ⟨d, 2, none⟩ = some (.map (some x.tm)) := H2.front2.cell 2
 clear ha hlt'
 go_region_held3 (fun w' => w'.cell? ⟨d, 0, none⟩ = some (.slice (some ⟨x.sg, 0, none⟩) x.Y.length x.Y.length) ∧ w'.cell? ⟨bx, 0, none⟩ = some (.int .i64 a) ∧ w'.cell? ⟨bx, 1, none⟩ = some (.slice da l.length dc)) (first | go_keep | exact ⟨k0, kb0, kb1⟩ | exact ⟨s0, sb0, sb1⟩) (fail)
 have hside2 := (hside.setCell ⟨x.sg, a, none⟩ (.slice da l.length dc)).drew
 generalize hw2 : (w1.setCell ⟨x.sg, a, none⟩ (.slice da l.length dc)) = w2 at H2 hside2 s0 sb0 sb1 s2 ⊢
 obtain ⟨w3, hrun, H3, hside3, _⟩ := Sat.delete (P := Tryz.prog) Tryz.underlying73 Tryz.underlying3 0 3 (w := w2.drew.drew) (Sat.front5 H2) (a : Int)
 have H4 := H3.back5
 have t0 : w3.cell? ⟨bx, 0, none⟩ = some (.int .i64 a) := H4.cell 0
 have t2 : w3.cell? ⟨d, 2, none⟩ = some (.map (some x.tm)) := H4.front2.cell 2
 go_wp2
 go_region_held3 (fun w' => w'.cell? ⟨bx, 0, none⟩ = some (.int .i64 a) ∧ w'.cell? ⟨d, 2, none⟩ = some (.map (some x.tm))) (first | go_keep | exact ⟨sb0, s2⟩ | exact ⟨t0, t2⟩) (fail)
 go_wp2
 go_end0
 refine ⟨rfl, Sat.devShut ⟨?_, ?_, hf.wait, hf.wvals⟩ (H4.right.to ?_), hside2.drew.trans hside3⟩
 ·show (x.Y.set (a : Int).toNat (.slice da l.length dc, l)).map Prod.snd = D.sec.set (a : Int).toNat l
  rw [List.map_set, hf.sec]
 ·intro y hy
  rcases List.mem_or_eq_of_mem_set hy with hy | rfl
  ·exact hf.vals y hy
  ·exact hv
 ·simp only [tornKV_del, Dx.cells, Dev.done, List.length_set, Int.toNat_natCast, List.map_set, List.setIfInBounds_toArray]
def KeepR (x : Dx) (S : Hp) (d : Nat) (D : Dev) (F : Assn) (kv : Value) (keep : List Int) : Prop :=
 ∃ a c, kv = .slice a keep.length c ∧ keep.length ≤ 9223372036854775807 ∧ ∀ i, i < keep.length → ∃ b off, a = some ⟨b, off, none⟩ ∧
  ∀ w' Y D', D'.keep = D.keep → Sat w' (devX { x with Y := Y } S d D' * F) → w'.cell? ⟨b, off + i, none⟩ = some (.int .i64 (keep.getD i 0))
def CrashQ (x : Dx) (S : Hp) (d : Nat) (D : Dev) (keep : List Int) (F : Assn) (w : World) (e : Ending) (w' : World) : Prop :=
 e = .returned (.tuple #[]) ∧ Sat w' (devA S d (D.crash keep) * F) ∧ Side w w'
def CrashRel (x : Dx) (S : Hp) (d : Nat) (D : Dev) (keep : List Int) (F : Assn) (w : World) (n : Nat) (u : Value) (wr : World) : Prop :=
 ∃ (k : Nat) (Y : List (Value × List UInt8)), k ≤ n ∧ u = .int .i64 k ∧ Sat wr (devX { x with Y := Y } S d (D.fates keep k) * F) ∧ Side w wr
theorem fates_keep (D : Dev) (keep : List Int) : ∀ k, (D.fates keep k).keep = D.keep ∧ (D.fates keep k).wait = D.wait ∧ (D.fates keep k).sec.length = D.sec.length
 | 0 => ⟨rfl, rfl, rfl⟩
 | k + 1 => by
  obtain ⟨h1, h2, h3⟩ := fates_keep D keep k
  unfold Dev.fates
  split
  ·unfold Dev.fate
   split
   ·exact ⟨h1, h2, by simp [Dev.done, h3]⟩
   ·split
    ·exact ⟨h1, h2, h3⟩
    ·exact ⟨h1, h2, h3⟩
  ·exact ⟨h1, h2, h3⟩
set_option maxRecDepth 100000 in
set_option maxHeartbeats 4000000 in
theorem crash_any (w : World) (S : Hp) (d : Nat) (D : Dev) (x : Dx) (keep : List Int) (kv : Value) (F : Assn) (h : Sat w (devX x S d D * F)) (hD : D.Ok) (hk : KeepR x S d D F kv keep) :
  Calls Tryz.prog 28 #[.pointer (some ⟨d, 0, none⟩), kv] w (CrashQ x S d D keep F w) := by
 obtain ⟨ka, kc, rfl, hkl, hcell⟩ := hk
 obtain ⟨wa, wc, hwv⟩ := h.devW
 have hn : (D.wait.length : Int) ≤ 1000000 := by have := hD.many; omega
 have k1 : w.cell? ⟨d, 1, none⟩ = some (.slice wa D.wait.length wc) := (h.devCell 1).trans (by simp only [Dx.cells, hwv]; rfl)
 have Hwv := SL.hid hwv; have Hcell := SL.hid hcell; clear hwv hcell
 go_enter Tryz.func28, Tryz.ntmps28
 go_wp2
 go_loopw [14] (fun u wr => CrashRel x S d D keep F w D.wait.length u wr) (fun u _ => D.wait.length - (intOf u).toNat)
 case atStart => exact ⟨0, x.Y, Nat.zero_le _, rfl, h, Side.refl w⟩
 case round =>
  obtain ⟨k, Y, hkn, rfl, hsat, hside⟩ := hrel
  clear k1
  obtain ⟨e1, e2, e3⟩ := fates_keep D keep k
  by_cases hlt : k < D.wait.length
  ·have hlt' : (k : Int) < (D.wait.length : Int) := by omega
   have hzn : x.Z.length = D.wait.length := hsat.devWaits.trans (by rw [e2])
   have hzl : k < x.Z.length := by omega
   obtain ⟨g, hwa⟩ : ∃ g, wa = some ⟨g, 0, none⟩ := by
    have hpos : 0 < x.Z.length := by omega
    have := sl_addr hsat.devOpen.2.front3 hpos
    obtain ⟨g, c, hh⟩ := this
    rw [Hwv.out] at hh
    exact ⟨_, (Value.slice.inj hh).1⟩
   subst hwa
   have hcz : wr.cell? ⟨g, k * 2, none⟩ = some (.int .i64 x.Z[k].1) ∧ wr.cell? ⟨g, k * 2 + 1, none⟩ = some x.Z[k].2.1 := by
    have := hsat.devOpen.2.front3
    simp only [Hwv.out] at this
    exact this.writeCells hzl
   obtain ⟨hc0, hc1⟩ := hcz
   have hwk : D.wait[k]? = some (x.Z[k].1, x.Z[k].2.2) := by
    rw [← e2, ← hsat.devOpen.1.wait]
    simp [hzl]
   have hval : Val 5 S x.Z[k].2.1 x.Z[k].2.2 := hsat.devOpen.1.wvals _ (List.getElem_mem hzl)
   obtain ⟨da, dc, hdv⟩ := val_shape hval
   rw [hdv] at hc1 hval
   have hhas : (D.fates keep k).has x.Z[k].1 := by
    have := hD.wait _ (List.mem_of_getElem? hwk)
    unfold Dev.has at this ⊢
    rw [e3]; exact this
   generalize x.Z[k].1 = at' at hc0 hwk hhas
   generalize x.Z[k].2.2 = dl at hc1 hwk hval
   have Hwk := SL.hid hwk
   have hwg : ∀ (cs : Array Value), (wr.alloc (.cells cs 80 (0, 0))).cell? ⟨wr.heap.size, 0, none⟩ = cs[0]? := fun cs => (hsat.alloc (.cells cs 80 (0, 0))).cell 0
   clear hwk hdv e1 e2 e3 hwg
   have hgl : g < wr.heap.size := World.block_lt_of_cell? wr _ hc0
   have hA := hsat.alloc (.cells #[.int .i64 at', .slice da dl.length dc] 80 (0, 0))
   have hsA := hside.alloc (.cells #[.int .i64 at', .slice da dl.length dc] 80 (0, 0))
   by_cases hkk : k < keep.length
   ·have hkk' : (k : Int) < (keep.length : Int) := by omega
    obtain ⟨kb, ko, rfl, hkf⟩ := Hcell.out k hkk
    have hkc := hkf wr Y _ (fates_keep D keep k).1 hsat
    have hkb : kb < wr.heap.size := World.block_lt_of_cell? wr _ hkc
    clear hkf
    generalize hf : keep.getD k 0 = f at hkc
    have Hf := SL.hid hf; clear hf
    by_cases hf1 : f = 1
    ·subst hf1
     go_wp2_with (go_at_call 62; refine (done_any _ S d _ _ (at', dl) _ _ hA.right hval hhas).mono ?_; rintro e w2 ⟨rfl, h2, d2⟩)
     go_roundw
     case rel =>
      refine ⟨k + 1, Y.set at'.toNat (.slice da dl.length dc, dl), by omega, by go_num, ?_, hsA.trans d2⟩
      have e : D.fates keep (k + 1) = (D.fates keep k).done (at', dl) := by
       rw [Dev.fates, Hwk.out]; simp only [Dev.fate, Hf.out, if_true]
      rw [e]; exact h2
     case measure => simp [intOf]; omega
    ·by_cases hf2 : f = 2
     ·subst hf2
      have hfit := hA.front2.devOpen.1
      obtain ⟨w2, hrun, h2, d2, hce⟩ := Sat.mapUpdate (P := Tryz.prog) Tryz.underlying73 Tryz.underlying3 (w := (wr.alloc (.cells #[.int .i64 at', .slice da dl.length dc] 80 (0, 0))).drew) hA.front2.devOpen.2.front4 at' (.agg #[])
      have c2 : (wr.alloc (.cells #[.int .i64 at', .slice da dl.length dc] 80 (0, 0))).cell? ⟨d, 2, none⟩ = some (.map (some x.tm)) := hA.front2.devCell 2
      have cb : (wr.alloc (.cells #[.int .i64 at', .slice da dl.length dc] 80 (0, 0))).cell? ⟨wr.heap.size, 0, none⟩ = some (.int .i64 at') := hA.cell 0
      have c2' : w2.cell? ⟨d, 2, none⟩ = some (.map (some x.tm)) := (hce.1 _).trans c2
      have cb' : w2.cell? ⟨wr.heap.size, 0, none⟩ = some (.int .i64 at') := (hce.1 _).trans cb
      clear hce
      go_wp2_with fail
      generalize hW1 : wr.alloc (.cells #[.int .i64 at', .slice da dl.length dc] 80 (0, 0)) = W1 at hrun c2 cb d2 hsA ⊢
      clear hW1
      go_region_held3 (fun w' => w'.cell? ⟨d, 2, none⟩ = some (.map (some x.tm)) ∧ w'.cell? ⟨wr.heap.size, 0, none⟩ = some (.int .i64 at')) (first | go_keep | exact ⟨c2', cb'⟩) (fail)
      go_wp2
      go_roundw
      case rel =>
       refine ⟨k + 1, Y, by omega, by go_num, ?_, hsA.drew.trans d2⟩
       have e : D.fates keep (k + 1) = (D.fates keep k).tear (at', dl) := by
        rw [Dev.fates, Hwk.out]; simp only [Dev.fate, Hf.out]; rfl
       rw [e]
       rw [tornKV_upd] at h2
       exact (Sat.devShut (D := (D.fates keep k).tear (at', dl)) ⟨hfit.sec, hfit.vals, hfit.wait, hfit.wvals⟩ h2.back4).drop2
      case measure => simp [intOf]; omega
     ·go_wp2
      go_roundw
      case rel =>
       refine ⟨k + 1, Y, by omega, by go_num, ?_, hsA⟩
       have e : D.fates keep (k + 1) = D.fates keep k := by
        rw [Dev.fates, Hwk.out]; simp only [Dev.fate, Hf.out, if_neg hf1, if_neg hf2]
       rw [e]; exact hA.right
      case measure => simp [intOf]; omega
   ·have hkk' : ¬ (k : Int) < (keep.length : Int) := by omega
    go_wp2
    go_roundw
    case rel =>
     refine ⟨k + 1, Y, by omega, by go_num, ?_, hsA⟩
     have e : D.fates keep (k + 1) = D.fates keep k := by
      rw [Dev.fates, Hwk.out]; simp [Dev.fate, List.getD, List.getElem?_eq_none (Nat.le_of_not_lt hkk)]
     rw [e]; exact hA.right
    case measure => simp [intOf]; omega
  ·obtain rfl : k = D.wait.length := by omega
   have k1 := hsat.devCell 1
   have k6 := hsat.devCell 6
   have k7 := hsat.devCell 7
   have k8 := hsat.devCell 8
   have k9 := hsat.devCell 9
   have kf := hsat.devFree
   simp only [Dx.cells] at k1 k6 k7 k8 k9
   have hfit := hsat.devOpen.1
   have H2 := ((((hsat.devOpen.2.setCell 1 (.slice none 0 0)).setCell 6 (.bool true)).setCell 7 (.bool false)).setCell 8 (.int .i64 0)).setCell 9 (.slice none 0 0)
   clear e1 e2 e3
   go_wp2
   go_end0
   refine ⟨rfl, ?_, ((((hside.setCell _ _).setCell _ _).setCell _ _).setCell _ _).setCell _ _⟩
   have H3 := ((H2.drop3).front4.right.slNil 80 2).slNil 3 1
   refine Sat.devOf (x := { x with Y := Y, wv := .slice none 0 0, Z := [], kv := .slice none 0 0 }) (Sat.devShut ⟨hfit.sec, hfit.vals, rfl, by simp⟩ ?_)
   exact H3.to (by
    simp only [Dx.cells, Dev.crash, List.length_nil, flatW, i64v, List.flatMap_nil, List.map_nil]
    ac_rfl)
end Go.Proofs.YtdafdidmbeecfaaGreatDoor
end

/- The device as plain data, and what it is in memory. device: its memory; the small functions. -/
import Derived.Test.YtlfooilcngjeiaaGreatLe
import Derived.Test.YtlfooilcngjeiaaGreatRows
import Derived.Deep.LoopGhost
import Derived.Deep.RegionHeld3
import Derived.Laws.CopyRow
namespace Go.SL
set_option linter.unusedVariables false
set_option linter.unusedSimpArgs false
open Go.RowKit
/-- A device: its sectors (nothing, or 512 bytes), what waits, what is torn, what was counted, and the rest. -/
abbrev i64w (n : Int) : Int := wrap64 n
structure Dev where
  sec : List (List UInt8)
  wait : List (Int × List UInt8)
  torn : List (Int × Unit)
  cr : Int
  cw : Int
  cf : Int
  down : Bool
  armed : Bool
  left : Int
  keep : List Int
def Dev.fresh (n : Nat) : Dev := ⟨List.replicate n [], [], [], 0, 0, 0, false, false, 0, []⟩
def Dev.done (D : Dev) (x : Int × List UInt8) : Dev := { D with sec := D.sec.set x.1.toNat x.2, torn := del D.torn x.1 }
def Dev.doneAll (D : Dev) (l : List (Int × List UInt8)) : Dev := l.foldl Dev.done D
def Dev.tear (D : Dev) (x : Int × List UInt8) : Dev := { D with torn := SL.upd D.torn x.1 () }
def Dev.fate (D : Dev) (f : Int) (x : Int × List UInt8) : Dev := if f = 1 then D.done x else if f = 2 then D.tear x else D
def Dev.fates (D : Dev) (keep : List Int) : Nat → Dev
  | 0 => D
  | k + 1 => match D.wait[k]? with
    | some p => (D.fates keep k).fate (keep.getD k 0) p
    | none => D.fates keep k
def Dev.crash (D : Dev) (keep : List Int) : Dev := { D.fates keep D.wait.length with wait := [], down := true, armed := false, left := 0, keep := [] }
def Dev.strike (D : Dev) : Dev := if !D.down && D.armed && D.left == 0 then D.crash D.keep else D
/-- What comes ahead of each operation: 0, or 2, and the device then. -/
def Dev.begun (D : Dev) : Dev := if D.strike.down then D.strike else if D.strike.armed then { D.strike with left := i64w (D.strike.left - 1) } else D.strike
def Dev.begins (D : Dev) : Int := if D.strike.down then 2 else 0
def Dev.has (D : Dev) (at' : Int) : Prop := 0 ≤ at' ∧ at' < D.sec.length
instance (D : Dev) (a : Int) : Decidable (D.has a) := inferInstanceAs (Decidable (_ ∧ _))
/-- The last that waits for a sector. -/
def newest (l : List (Int × List UInt8)) (a : Int) : Option (List UInt8) := (l.reverse.find? fun x => x.1 == a).map Prod.snd
/-- What a read tells of a device that is up. -/
def Dev.tells (D : Dev) (a : Int) : Int × List UInt8 :=
  match newest D.wait a with
  | some l => (0, padTo 512 l)
  | none => if (kget D.torn a).isSome then (3, []) else (0, padTo 512 (D.sec.getD a.toNat []))

def Dev.read (D : Dev) (a : Int) : (Int × List UInt8) × Dev :=
  if D.has a then (if D.begins = 0 then (D.begun.tells a, { D.begun with cr := i64w (D.begun.cr + 1) }) else ((2, []), D.begun)) else ((1, []), D)
def Dev.write (D : Dev) (a : Int) (l : List UInt8) : Int × Dev :=
  if D.has a ∧ l.length = 512 then (if D.begins = 0 then (0, { D.begun with cw := i64w (D.begun.cw + 1), wait := D.begun.wait ++ [(a, l)] }) else (2, D.begun)) else (1, D)
def Dev.flushed (D : Dev) : Dev := { ({ D with cf := i64w (D.cf + 1) } : Dev).doneAll D.wait with wait := [] }
def Dev.flush (D : Dev) : Int × Dev := if D.begins = 0 then (0, D.begun.flushed) else (2, D.begun)
/-- What may be: sizes, and where it waits. -/
structure Dev.Ok (D : Dev) : Prop where
  n : D.sec.length ≤ 20000
  wait : ∀ x ∈ D.wait, D.has x.1
  many : D.wait.length ≤ 1000000
  keep : D.keep.length ≤ 1000000
theorem Dev.strike_up {D : Dev} (h : D.begins = 0) : D.strike = D := by
  unfold Dev.begins at h
  by_cases h1 : (!D.down && D.armed && D.left == 0) = true
  · rw [Dev.strike, if_pos h1] at h; simp [Dev.crash] at h
  · rw [Dev.strike, if_neg h1]
theorem Dev.begun_up {D : Dev} (h : D.begins = 0) : D.begun = { D with left := D.begun.left } := by
  have hs := Dev.strike_up h
  have hd : D.down = false := by
    unfold Dev.begins at h
    rw [hs] at h
    cases hD : D.down with
    | false => rfl
    | true => simp [hD] at h
  obtain ⟨sec, wait, torn, cr, cw, cf, down, armed, left, keep⟩ := D
  simp only at hd
  subst hd
  unfold Dev.begun
  rw [hs]
  cases armed <;> rfl
theorem Dev.Ok.up {D : Dev} (h : D.Ok) (e : D.begins = 0) : D.begun.Ok := by
  rw [Dev.begun_up e]; exact ⟨h.n, h.wait, h.many, h.keep⟩
theorem Dev.begins_cases (D : Dev) : D.begins = 0 ∨ D.begins = 2 := by
  unfold Dev.begins; split <;> simp
/-- Writes: each a number, a value, bytes. -/
abbrev Zs := List (Int × Value × List UInt8)
def flatW (Z : Zs) : List Value := Z.flatMap fun z => [.int .i64 z.1, z.2.1]
theorem flatW_length (Z : Zs) : (flatW Z).length = Z.length * 2 := by
  induction Z with
  | nil => rfl
  | cons z Z ih => simp only [flatW, List.flatMap_cons, List.length_append, List.length_cons, List.length_nil] at ih ⊢; omega
theorem flatW_get : ∀ (Z : Zs) (i : Nat) (h : i < Z.length), (flatW Z)[i * 2]? = some (.int .i64 Z[i].1) ∧ (flatW Z)[i * 2 + 1]? = some Z[i].2.1 := by
  intro Z
  induction Z with
  | nil => intro i h; simp at h
  | cons z Z ih =>
    intro i h
    cases i with
    | zero => simp [flatW]
    | succ i =>
      have := ih i (by simpa using h)
      rw [show (i + 1) * 2 = i * 2 + 1 + 1 by omega]
      simpa [flatW] using this
theorem Sat.writeCells {w : World} {TW : TypeId} {n : Nat} {Z : Zs} {F : Assn} {g c m : Nat} (h : Sat w (sl TW 2 (.slice (some ⟨g, 0, none⟩) m c) n (flatW Z) * F)) {i : Nat} (hi : i < Z.length) :
    w.cell? ⟨g, i * 2, none⟩ = some (.int .i64 Z[i].1) ∧ w.cell? ⟨g, i * 2 + 1, none⟩ = some Z[i].2.1 := by
  obtain ⟨a, b⟩ := flatW_get Z i hi
  obtain ⟨_, hr⟩ := h.rds
  rcases hr with ⟨hv, h0⟩ | ⟨ad, c', he, ha⟩
  · cases hv
  · cases he
    exact ⟨by have := ha _ _ a; rwa [Addr.add_lit, Nat.zero_add] at this, by have := ha _ _ b; rwa [Addr.add_lit, Nat.zero_add] at this⟩
/-- What a device's memory is besides. -/
structure Dx where
  sg : Nat
  tm : Nat
  wv : Value
  kv : Value
  Y : List (Value × List UInt8)
  Z : Zs
def Dx.cells (x : Dx) (D : Dev) : Array Value :=
  #[.slice (some ⟨x.sg, 0, none⟩) x.Y.length x.Y.length, x.wv, .map (some x.tm), .int .i64 D.cr, .int .i64 D.cw, .int .i64 D.cf, .bool D.down, .bool D.armed, .int .i64 D.left, x.kv]
def tornKV (t : List (Int × Unit)) : KV := t.map fun p => (p.1, .agg #[])
def i64v (l : List Int) : List Value := l.map (Value.int .i64)
structure Dx.Fit (x : Dx) (T : TypeId) (S : Hp) (D : Dev) : Prop where
  sec : x.Y.map Prod.snd = D.sec
  vals : ∀ y ∈ x.Y, Val T S y.1 y.2
  wait : x.Z.map (fun z => (z.1, z.2.2)) = D.wait
  wvals : ∀ z ∈ x.Z, Val T S z.2.1 z.2.2
theorem Dx.Fit.mono {x : Dx} {T : TypeId} {S S' : Hp} {D : Dev} (h : x.Fit T S D) (e : Ext S S') : x.Fit T S' D :=
  ⟨h.sec, fun y hy => (h.vals y hy).mono e, h.wait, fun z hz => (h.wvals z hz).mono e⟩
theorem tornKV_upd (t : List (Int × Unit)) (a : Int) : SL.upd (tornKV t) a (.agg #[]) = tornKV (SL.upd t a ()) := by
  have := upd_map (fun _ : Unit => Value.agg #[]) t a ()
  simpa [tornKV] using this
theorem tornKV_del (t : List (Int × Unit)) (a : Int) : del (tornKV t) a = tornKV (del t a) := by
  simp only [tornKV, del, List.filter_map]; rfl
theorem tornKV_get (t : List (Int × Unit)) (a : Int) : (kget (tornKV t) a).isSome = (kget t a).isSome := by
  have := look_map (fun _ : Unit => Value.agg #[]) t a
  rw [tornKV, this, Option.isSome_map]
end Go.SL
namespace Go.SL
set_option linter.unusedVariables false
set_option linter.unusedSimpArgs false
open Go.RowKit
def devP (x : Dx) (D : Dev) (d : Nat) : Assn :=
  pt d (.cells (x.cells D) 64 (0, 0)) * (pt x.sg (.cells (x.Y.map Prod.fst).toArray 39 (0, 0)) * (sl 96 2 x.wv x.Z.length (flatW x.Z) * (mp x.tm (tornKV D.torn) * sl 3 1 x.kv D.keep.length (i64v D.keep))))
def devX (x : Dx) (S : Hp) (d : Nat) (D : Dev) : Assn := fact (x.Fit 5 S D) * devP x D d
def devA (S : Hp) (d : Nat) (D : Dev) : Assn := ex fun x : Dx => devX x S d D
section
variable {w : World} {S S' : Hp} {d : Nat} {D : Dev} {F : Assn} {x : Dx}
theorem Sat.devOpen (h : Sat w (devX x S d D * F)) : x.Fit 5 S D ∧ Sat w (pt d (.cells (x.cells D) 64 (0, 0)) * (pt x.sg (.cells (x.Y.map Prod.fst).toArray 39 (0, 0)) * (sl 96 2 x.wv x.Z.length (flatW x.Z) * (mp x.tm (tornKV D.torn) * (sl 3 1 x.kv D.keep.length (i64v D.keep) * F))))) := by
  obtain ⟨h1, h2⟩ := Sat.fact_iff.1 (h.to (star_assoc _ _ _))
  exact ⟨h1, h2.to (by unfold devP; ac_rfl)⟩
theorem Sat.devShut (hf : x.Fit 5 S D) (h : Sat w (pt d (.cells (x.cells D) 64 (0, 0)) * (pt x.sg (.cells (x.Y.map Prod.fst).toArray 39 (0, 0)) * (sl 96 2 x.wv x.Z.length (flatW x.Z) * (mp x.tm (tornKV D.torn) * (sl 3 1 x.kv D.keep.length (i64v D.keep) * F)))))) : Sat w (devX x S d D * F) :=
  (Sat.fact_iff.2 ⟨hf, h.to (by unfold devP; ac_rfl : _ = devP x D d * F)⟩ : Sat w (fact _ * _)).to (star_assoc _ _ _).symm
theorem Sat.devEx (h : Sat w (devA S d D * F)) : ∃ x, Sat w (devX x S d D * F) := Sat.ex_star_iff.1 h
theorem Sat.devOf (h : Sat w (devX x S d D * F)) : Sat w (devA S d D * F) := Sat.ex_star_iff.2 ⟨x, h⟩
theorem devX_mono (e : Ext S S') (h : Hp) (p : devX x S d D h) : devX x S' d D h := by
  obtain ⟨h1, h2, ⟨p1, p2⟩, p3, p4, p5⟩ := p
  exact ⟨h1, h2, ⟨p1.mono e, p2⟩, p3, p4, p5⟩
theorem devA_mono (e : Ext S S') (h : Hp) (p : devA S d D h) : devA S' d D h := by
  obtain ⟨x, p⟩ := p
  exact ⟨x, devX_mono e h p⟩
/-- A cell of the device's struct. -/
theorem Sat.devCell (h : Sat w (devX x S d D * F)) (i : Nat) : w.cell? ⟨d, i, none⟩ = (x.cells D)[i]? := h.devOpen.2.cell i
theorem Sat.devFree (h : Sat w (devX x S d D * F)) (i : Nat) : w.frozen? ⟨d, i, none⟩ = false := h.devOpen.2.frozen i
theorem Sat.devSecs (h : Sat w (devX x S d D * F)) : x.Y.length = D.sec.length := by rw [← h.devOpen.1.sec, List.length_map]
theorem Sat.devWaits (h : Sat w (devX x S d D * F)) : x.Z.length = D.wait.length := by rw [← h.devOpen.1.wait, List.length_map]
theorem Sat.devW (h : Sat w (devX x S d D * F)) : ∃ a c, x.wv = .slice a D.wait.length c := by
  have := sl_shape h.devOpen.2.front3
  rwa [h.devWaits] at this
end
end Go.SL
namespace Go.Proofs.YtlfooilcngjeiaaGreat
set_option linter.unusedVariables false
set_option linter.unusedSimpArgs false
open Go.RowKit Go.SL
/-- Sectors. -/
theorem sectors_any (w : World) (S : Hp) (d : Nat) (D : Dev) (F : Assn) (h : Sat w (devA S d D * F)) :
    Calls Tryz.prog 19 #[.pointer (some ⟨d, 0, none⟩)] w fun e w' => e = .returned (.int .i64 D.sec.length) ∧ w = w' := by
  obtain ⟨x, h⟩ := h.devEx
  have hc : w.cell? ⟨d, 0, none⟩ = some (.slice (some ⟨x.sg, 0, none⟩) D.sec.length D.sec.length) := by rw [h.devCell, ← h.devSecs]; rfl
  clear h
  go_enter Tryz.func19, Tryz.ntmps19
  go_wp2
  go_ret
  exact ⟨rfl, rfl⟩
def BoolIs (b : Bool) (w : World) (e : Ending) (w' : World) : Prop := e = .returned (.bool b) ∧ w = w'
theorem has_any (w : World) (S : Hp) (d : Nat) (D : Dev) (a : Int) (F : Assn) (h : Sat w (devA S d D * F)) :
    Calls Tryz.prog 44 #[.pointer (some ⟨d, 0, none⟩), .int .i64 a] w (BoolIs (decide (D.has a)) w) := by
  have hs := sectors_any w S d D F h
  clear h
  by_cases h0 : 0 ≤ a
  · by_cases h1 : a < D.sec.length
    · have hd : decide (D.has a) = true := by simp [Dev.has, h0, h1]
      rw [hd]; clear hd
      go_enter Tryz.func44, Tryz.ntmps44
      go_wp2_with (go_at_call 19; refine hs.mono ?_; rintro e w1 ⟨rfl, rfl⟩)
      go_ret
      exact ⟨rfl, rfl⟩
    · have hd : decide (D.has a) = false := by simp [Dev.has, h1]
      rw [hd]; clear hd
      have hd2 : decide (a < D.sec.length) = false := by simpa using h1
      go_enter Tryz.func44, Tryz.ntmps44
      go_wp2_with (go_at_call 19; refine hs.mono ?_; rintro e w1 ⟨rfl, rfl⟩)
      go_ret
      exact ⟨rfl, rfl⟩
  · have hd : decide (D.has a) = false := by simp [Dev.has, h0]
    rw [hd]; clear hd hs
    go_enter Tryz.func44, Tryz.ntmps44
    go_wp2
    go_ret
    exact ⟨rfl, rfl⟩
theorem tells_same {v : Value} {w : World} : Tells v w (.returned v) w := ⟨rfl, Sat.whole w, Side.refl w⟩
theorem counts_any (w : World) (S : Hp) (d : Nat) (D : Dev) (F : Assn) (h : Sat w (devA S d D * F)) :
    Calls Tryz.prog 13 #[.pointer (some ⟨d, 0, none⟩)] w (Tells (.agg #[.int .i64 D.cr, .int .i64 D.cw, .int .i64 D.cf]) w) := by
  obtain ⟨x, h⟩ := h.devEx
  have h3 : w.cell? ⟨d, 3, none⟩ = some (.int .i64 D.cr) := h.devCell 3
  have h4 : w.cell? ⟨d, 4, none⟩ = some (.int .i64 D.cw) := h.devCell 4
  have h5 : w.cell? ⟨d, 5, none⟩ = some (.int .i64 D.cf) := h.devCell 5
  have hlt : d < w.heap.size := h.devOpen.2.lt
  clear h
  go_enter Tryz.func13, Tryz.ntmps13
  go_wp2
  exact bodyPost_ret (v := .agg #[.int .i64 D.cr, .int .i64 D.cw, .int .i64 D.cf]) (by simp [results, Tryz.results13, go_sem]) rfl ⟨rfl, SL.Sat.right (SL.Sat.alloc (Sat.whole w) _), (Side.refl w).alloc _⟩
def CopiedBQ (w : World) (l : List UInt8) (e : Ending) (w' : World) : Prop := ∃ g, e = .returned (.slice (some ⟨g, 0, none⟩) 512 512) ∧ Sat w' (pt g (.cells (u8s (padTo 512 l)) 5 (0, 0)) * whole w) ∧ Side w w'
theorem info_u8 : (Tryz.prog.info? 5).map (fun i => (i.zero, i.size, i.bytes)) = some (some (.int .u8 0), 1, 1) := by kernel_rfl
theorem info_u8_1 : (Tryz.prog.info? 5).map (·.size) = some 1 := by kernel_rfl
theorem info_bytes : (Tryz.prog.info? 39).map (fun i => (i.zero, i.size, i.bytes)) = some (some (.slice none 0 0), 1, 24) := by kernel_rfl
theorem make_bytes (n : Nat) (hn : n ≤ 281474976710656) (w : World) : (Instr.makeSlice 39 (.int .i64 n) (.int .i64 n)).run Tryz.prog w =
    .ok (.slice (some ⟨w.heap.size, 0, none⟩) n n) (w.alloc (.cells (u8s (zs n)) 5 (0, 0))) := by
  obtain ⟨i, hi, hz, hs, hb⟩ := info_parts info_u8
  have := run_make (P := Tryz.prog) w 39 5 i _ Tryz.underlying39 hi hz .i64 .i64 n n (by omega) (by omega) (by rw [hb]; omega) (by omega)
  rw [this, hs]
  simp only [Int.toNat_natCast]
  rw [madeCells_u8]
set_option maxRecDepth 100000 in
set_option maxHeartbeats 1000000 in
theorem copiedB_any (w : World) (v : Value) (l : List UInt8) (hr : Rd w v l) (hl : l.length ≤ 9223372036854775807) :
    Calls Tryz.prog 46 #[v] w (CopiedBQ w l) := by
  have hmk : ∀ w, (Instr.makeSlice 39 (.int .i64 512) (.int .i64 512)).run Tryz.prog w =
    .ok (.slice (some ⟨w.heap.size, 0, none⟩) 512 512) (w.alloc (.cells (u8s (zs 512)) 5 (0, 0))) := make_bytes 512 (by omega)
  have hr' : Rd (w.alloc (.cells (u8s (zs 512)) 5 (0, 0))) v l := Rds.alloc hr _
  have hA := (Sat.whole w).alloc (.cells (u8s (zs 512)) 5 (0, 0))
  obtain ⟨w2, v2, hrun, h2, d2⟩ := copy_pad (P := Tryz.prog) (dT := 39) (T := 5) Tryz.underlying39 info_u8_1 hA hr' 3
  have d1 := (Side.refl w).alloc (.cells (u8s (zs 512)) 5 (0, 0))
  have Hrun := SL.hid hrun
  clear hrun hr' hA
  go_enter Tryz.func46, Tryz.ntmps46
  go_wp2_with (refine wpList_copy_run Hrun.out _ _ rfl rfl rfl rfl rfl ?_)
  go_ret
  exact ⟨_, rfl, h2, d1.trans d2⟩
end Go.Proofs.YtlfooilcngjeiaaGreat

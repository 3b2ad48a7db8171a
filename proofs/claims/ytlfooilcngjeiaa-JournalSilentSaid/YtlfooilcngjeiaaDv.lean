/- The device as plain data, and what it is in memory. -/
import Derived.Test.YtlfooilcngjeiaaBp
namespace Go.SL
set_option linter.unusedVariables false
set_option linter.unusedSimpArgs false
open Go.RowKit
/-- A device: its sectors (nothing, or 512 bytes), what waits, what is torn, what was counted, and the rest. -/
abbrev i64w (n : Int) : Int := wrap64 n
structure Dev where
  sec : List (List UInt8)
  wait : List (Int × List UInt8)
  torn : List (Int × Unit)
  cr : Int
  cw : Int
  cf : Int
  down : Bool
  armed : Bool
  left : Int
  keep : List Int
def padTo (n : Nat) (l : List UInt8) : List UInt8 := (l ++ zs n).take n
theorem padTo_length (n : Nat) (l : List UInt8) : (padTo n l).length = n := by simp [padTo, length_zs]
theorem padTo_self {n : Nat} {l : List UInt8} (h : l.length = n) : padTo n l = l := by rw [padTo, List.take_left' h]
def Dev.fresh (n : Nat) : Dev := ⟨List.replicate n [], [], [], 0, 0, 0, false, false, 0, []⟩
def Dev.done (D : Dev) (x : Int × List UInt8) : Dev := { D with sec := D.sec.set x.1.toNat x.2, torn := del D.torn x.1 }
def Dev.doneAll (D : Dev) (l : List (Int × List UInt8)) : Dev := l.foldl Dev.done D
def Dev.tear (D : Dev) (x : Int × List UInt8) : Dev := { D with torn := SL.upd D.torn x.1 () }
def Dev.fate (D : Dev) (f : Int) (x : Int × List UInt8) : Dev := if f = 1 then D.done x else if f = 2 then D.tear x else D
def Dev.fates (D : Dev) (keep : List Int) : Nat → Dev
  | 0 => D
  | k + 1 => match D.wait[k]? with
    | some p => (D.fates keep k).fate (keep.getD k 0) p
    | none => D.fates keep k
def Dev.crash (D : Dev) (keep : List Int) : Dev := { D.fates keep D.wait.length with wait := [], down := true, armed := false, left := 0, keep := [] }
def Dev.strike (D : Dev) : Dev := if !D.down && D.armed && D.left == 0 then D.crash D.keep else D
/-- What comes ahead of each operation: 0, or 2, and the device then. -/
def Dev.begun (D : Dev) : Dev := if D.strike.down then D.strike else if D.strike.armed then { D.strike with left := i64w (D.strike.left - 1) } else D.strike
def Dev.begins (D : Dev) : Int := if D.strike.down then 2 else 0
def Dev.has (D : Dev) (at' : Int) : Prop := 0 ≤ at' ∧ at' < D.sec.length
instance (D : Dev) (a : Int) : Decidable (D.has a) := inferInstanceAs (Decidable (_ ∧ _))
/-- The last that waits for a sector. -/
def newest (l : List (Int × List UInt8)) (a : Int) : Option (List UInt8) := (l.reverse.find? fun x => x.1 == a).map Prod.snd
/-- What a read tells of a device that is up. -/
def Dev.tells (D : Dev) (a : Int) : Int × List UInt8 :=
  match newest D.wait a with
  | some l => (0, padTo 512 l)
  | none => if (kget D.torn a).isSome then (3, []) else (0, padTo 512 (D.sec.getD a.toNat []))

def Dev.read (D : Dev) (a : Int) : (Int × List UInt8) × Dev :=
  if D.has a then (if D.begins = 0 then (D.begun.tells a, { D.begun with cr := i64w (D.begun.cr + 1) }) else ((2, []), D.begun)) else ((1, []), D)
def Dev.write (D : Dev) (a : Int) (l : List UInt8) : Int × Dev :=
  if D.has a ∧ l.length = 512 then (if D.begins = 0 then (0, { D.begun with cw := i64w (D.begun.cw + 1), wait := D.begun.wait ++ [(a, l)] }) else (2, D.begun)) else (1, D)
def Dev.flushed (D : Dev) : Dev := { ({ D with cf := i64w (D.cf + 1) } : Dev).doneAll D.wait with wait := [] }
def Dev.flush (D : Dev) : Int × Dev := if D.begins = 0 then (0, D.begun.flushed) else (2, D.begun)
/-- What may be: sizes, and where it waits. -/
structure Dev.Ok (D : Dev) : Prop where
  n : D.sec.length ≤ 20000
  wait : ∀ x ∈ D.wait, D.has x.1
  many : D.wait.length ≤ 1000000
  keep : D.keep.length ≤ 1000000
theorem Dev.strike_up {D : Dev} (h : D.begins = 0) : D.strike = D := by
  unfold Dev.begins at h
  by_cases h1 : (!D.down && D.armed && D.left == 0) = true
  · rw [Dev.strike, if_pos h1] at h; simp [Dev.crash] at h
  · rw [Dev.strike, if_neg h1]
theorem Dev.begun_up {D : Dev} (h : D.begins = 0) : D.begun = { D with left := D.begun.left } := by
  have hs := Dev.strike_up h
  have hd : D.down = false := by
    unfold Dev.begins at h
    rw [hs] at h
    cases hD : D.down with
    | false => rfl
    | true => simp [hD] at h
  obtain ⟨sec, wait, torn, cr, cw, cf, down, armed, left, keep⟩ := D
  simp only at hd
  subst hd
  unfold Dev.begun
  rw [hs]
  cases armed <;> rfl
theorem Dev.Ok.up {D : Dev} (h : D.Ok) (e : D.begins = 0) : D.begun.Ok := by
  rw [Dev.begun_up e]; exact ⟨h.n, h.wait, h.many, h.keep⟩
theorem Dev.begins_cases (D : Dev) : D.begins = 0 ∨ D.begins = 2 := by
  unfold Dev.begins; split <;> simp
/-- Writes: each a number, a value, bytes. -/
abbrev Zs := List (Int × Value × List UInt8)
def flatW (Z : Zs) : List Value := Z.flatMap fun z => [.int .i64 z.1, z.2.1]
theorem flatW_length (Z : Zs) : (flatW Z).length = Z.length * 2 := by
  induction Z with
  | nil => rfl
  | cons z Z ih => simp only [flatW, List.flatMap_cons, List.length_append, List.length_cons, List.length_nil] at ih ⊢; omega
theorem flatW_get : ∀ (Z : Zs) (i : Nat) (h : i < Z.length), (flatW Z)[i * 2]? = some (.int .i64 Z[i].1) ∧ (flatW Z)[i * 2 + 1]? = some Z[i].2.1 := by
  intro Z
  induction Z with
  | nil => intro i h; simp at h
  | cons z Z ih =>
    intro i h
    cases i with
    | zero => simp [flatW]
    | succ i =>
      have := ih i (by simpa using h)
      rw [show (i + 1) * 2 = i * 2 + 1 + 1 by omega]
      simpa [flatW] using this
theorem Sat.writeCells {w : World} {TW : TypeId} {n : Nat} {Z : Zs} {F : Assn} {g c m : Nat} (h : Sat w (sl TW 2 (.slice (some ⟨g, 0, none⟩) m c) n (flatW Z) * F)) {i : Nat} (hi : i < Z.length) :
    w.cell? ⟨g, i * 2, none⟩ = some (.int .i64 Z[i].1) ∧ w.cell? ⟨g, i * 2 + 1, none⟩ = some Z[i].2.1 := by
  obtain ⟨a, b⟩ := flatW_get Z i hi
  obtain ⟨_, hr⟩ := h.rds
  rcases hr with ⟨hv, h0⟩ | ⟨ad, c', he, ha⟩
  · cases hv
  · cases he
    exact ⟨by have := ha _ _ a; rwa [Addr.add_lit, Nat.zero_add] at this, by have := ha _ _ b; rwa [Addr.add_lit, Nat.zero_add] at this⟩
theorem sl_shape {w : World} {F : Assn} {T : TypeId} {sz n : Nat} {v : Value} {xs : List Value} (h : Sat w (sl T sz v n xs * F)) : ∃ a c, v = .slice a n c := by
  rcases h.slCases with ⟨rfl, rfl, _, _⟩ | ⟨g, cap, cur, rfl, _⟩
  · exact ⟨_, _, rfl⟩
  · exact ⟨_, _, rfl⟩
theorem sl_addr {w : World} {F : Assn} {T : TypeId} {sz n : Nat} {v : Value} {xs : List Value} (h : Sat w (sl T sz v n xs * F)) (hn : 0 < n) : ∃ g c, v = .slice (some ⟨g, 0, none⟩) n c := by
  rcases h.slCases with ⟨rfl, rfl, _, _⟩ | ⟨g, cap, cur, rfl, _⟩
  · omega
  · exact ⟨_, _, rfl⟩
/-- What a device's memory is besides. -/
structure Dx where
  sg : Nat
  tm : Nat
  wv : Value
  kv : Value
  Y : List (Value × List UInt8)
  Z : Zs
def Dx.cells (x : Dx) (D : Dev) : Array Value :=
  #[.slice (some ⟨x.sg, 0, none⟩) x.Y.length x.Y.length, x.wv, .map (some x.tm), .int .i64 D.cr, .int .i64 D.cw, .int .i64 D.cf, .bool D.down, .bool D.armed, .int .i64 D.left, x.kv]
def tornKV (t : List (Int × Unit)) : KV := t.map fun p => (p.1, .agg #[])
def i64v (l : List Int) : List Value := l.map (Value.int .i64)
structure Dx.Fit (x : Dx) (T : TypeId) (S : Hp) (D : Dev) : Prop where
  sec : x.Y.map Prod.snd = D.sec
  vals : ∀ y ∈ x.Y, Val T S y.1 y.2
  wait : x.Z.map (fun z => (z.1, z.2.2)) = D.wait
  wvals : ∀ z ∈ x.Z, Val T S z.2.1 z.2.2
theorem Dx.Fit.mono {x : Dx} {T : TypeId} {S S' : Hp} {D : Dev} (h : x.Fit T S D) (e : Ext S S') : x.Fit T S' D :=
  ⟨h.sec, fun y hy => (h.vals y hy).mono e, h.wait, fun z hz => (h.wvals z hz).mono e⟩
theorem tornKV_upd (t : List (Int × Unit)) (a : Int) : SL.upd (tornKV t) a (.agg #[]) = tornKV (SL.upd t a ()) := by
  have := upd_map (fun _ : Unit => Value.agg #[]) t a ()
  simpa [tornKV] using this
theorem tornKV_del (t : List (Int × Unit)) (a : Int) : del (tornKV t) a = tornKV (del t a) := by
  simp only [tornKV, del, List.filter_map]; rfl
theorem tornKV_get (t : List (Int × Unit)) (a : Int) : (kget (tornKV t) a).isSome = (kget t a).isSome := by
  have := look_map (fun _ : Unit => Value.agg #[]) t a
  rw [tornKV, this, Option.isSome_map]
end Go.SL

/- Rows of bytes as cells; their text; what the operations on them do. -/
import Derived.Test.YtlfooilcngjeiaaSl
import Derived.Laws.BytesString
namespace Go.SL
set_option linter.unusedVariables false
set_option linter.unusedSimpArgs false
open Go.RowKit
def u8 (x : UInt8) : Value := .int .u8 (x.toNat : Int)
def u8s (l : List UInt8) : Array Value := (l.map u8).toArray
def str (l : List UInt8) : ByteArray := ⟨l.toArray⟩
def zs (n : Nat) : List UInt8 := List.replicate n 0
theorem size_u8s (l : List UInt8) : (u8s l).size = l.length := by simp [u8s]
theorem get_u8s (l : List UInt8) (i : Nat) : (u8s l)[i]? = l[i]?.map u8 := by simp [u8s]
theorem set_u8s (l : List UInt8) (i : Nat) (x : UInt8) : (u8s l).setIfInBounds i (u8 x) = u8s (l.set i x) := by
  simp [u8s, List.map_set]
theorem length_zs (n : Nat) : (zs n).length = n := by simp [zs]
theorem u8_wrap (n : Int) : Value.int .u8 (IntKind.u8.wrap n) = u8 (UInt8.ofInt n) := by
  simp [u8, IntKind.wrap_u8]
  have : (UInt8.ofInt n).toNat = (n % 256).toNat := by
    simp [UInt8.ofInt, UInt8.toNat_ofNat']
    omega
  rw [this]; omega
theorem madeCells_u8 (n : Nat) : madeCells (Value.int .u8 0).cells (n * 1) = u8s (zs n) := by
  apply Array.ext
  · simp [size_madeCells, size_u8s, length_zs]
  · intro i h1 h2
    simp [madeCells, u8s, zs, Value.cells, u8, Nat.mod_one]
theorem str_inj {l k : List UInt8} : str l = str k ↔ l = k := by
  constructor
  · intro h
    have := congrArg ByteArray.data h
    simpa [str] using this
  · rintro rfl; rfl
theorem and_mask (k : Nat) (hk : k ≤ 62) (n c : Int) (hc : c = ((2 ^ k - 1 : Nat) : Int)) : bits .and .i64 n c = n % ((2 ^ k : Nat) : Int) := by
  subst hc
  have hp : (2 : Nat) ^ k ≤ 2 ^ 62 := Nat.pow_le_pow_right (by decide) hk
  have hpos : 0 < (2 : Nat) ^ k := Nat.pow_pos (by decide)
  have hm : (BitVec.ofInt 64 ((2 ^ k - 1 : Nat) : Int)).toNat = 2 ^ k - 1 := by
    rw [BitVec.toNat_ofInt]
    omega
  have key : (BitVec.ofInt 64 n &&& BitVec.ofInt 64 ((2 ^ k - 1 : Nat) : Int)).toNat = (n % ((2 ^ 64 : Nat) : Int)).toNat % 2 ^ k := by
    rw [BitVec.toNat_and, BitVec.toNat_ofInt, hm, Nat.and_two_pow_sub_one_eq_mod]
  show IntKind.i64.wrap ((BitVec.ofInt 64 n &&& BitVec.ofInt 64 ((2 ^ k - 1 : Nat) : Int)).toNat : Nat) = _
  have hd : (2 : Nat) ^ k ∣ 2 ^ 64 := Nat.pow_dvd_pow 2 (by omega)
  have h1 : (((n % ((2 ^ 64 : Nat) : Int)).toNat % 2 ^ k : Nat) : Int) = n % ((2 ^ k : Nat) : Int) := by
    rw [Int.natCast_emod, Int.toNat_of_nonneg (Int.emod_nonneg _ (by decide))]
    exact Int.emod_emod_of_dvd n (by exact_mod_cast hd)
  rw [key, h1, IntKind.wrap_i64]
  have h2 : 0 ≤ n % ((2 ^ k : Nat) : Int) := Int.emod_nonneg _ (by omega)
  have h3 : n % ((2 ^ k : Nat) : Int) < ((2 ^ k : Nat) : Int) := Int.emod_lt_of_pos _ (by omega)
  omega
theorem and16 (n : Int) : bits .and .i64 n 65535 = n % 65536 := and_mask 16 (by decide) n 65535 rfl
theorem and9 (n : Int) : bits .and .i64 n 511 = n % 512 := and_mask 9 (by decide) n 511 rfl
theorem and8 (n : Int) : bits .and .i64 n 255 = n % 256 := and_mask 8 (by decide) n 255 rfl
end Go.SL

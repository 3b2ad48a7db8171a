/- file's laws: bytes. -/
import Derived.Test.YtaoohjeaaccnfaaGreatVb
namespace Go.SL
set_option linter.unusedVariables false
set_option linter.unusedSimpArgs false
def byteL (n data : Int) : List UInt8 := (List.range (min (max n 0) 5000).toNat).map fun i : Nat => UInt8.ofInt (data + 7 * i)
theorem byteL_length (n data : Int) : (byteL n data).length = (min (max n 0) 5000).toNat := by simp [byteL]
def byteK (m k : Nat) (data : Int) : List UInt8 := (List.range k).map (fun i : Nat => UInt8.ofInt (data + 7 * i)) ++ zs (m - k)
theorem byteK_length {m k : Nat} (h : k ≤ m) (data : Int) : (byteK m k data).length = m := by simp [byteK, length_zs]; omega
theorem byteK_set {m k : Nat} (h : k < m) (data : Int) : (byteK m k data).set k (UInt8.ofInt (data + 7 * k)) = byteK m (k + 1) data := by
  unfold byteK
  obtain ⟨j, hj⟩ : ∃ j, m - k = j + 1 := ⟨m - k - 1, by omega⟩
  rw [hj, show m - (k + 1) = j by omega, List.range_succ, List.map_append, List.set_append, if_neg (by simp)]
  simp [zs, List.replicate_succ]
end Go.SL

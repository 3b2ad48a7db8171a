/- Plain: a sector tells the tag and the block that it was made of. -/
import Derived.Test.YtlfooilcngjeiaaTd
namespace Go.SL
set_option linter.unusedVariables false
set_option linter.unusedSimpArgs false
open Go.RowKit
theorem emod_pow_succ (n : Int) (j : Nat) : n % (256 : Int) ^ (j + 1) = n % (256 : Int) ^ j + (n / (256 : Int) ^ j % 256) * (256 : Int) ^ j := by
  have hp : 0 < (256 : Int) ^ j := Int.pow_pos (by decide)
  rw [Int.pow_succ]
  generalize (256 : Int) ^ j = p at hp
  have h1 := Int.emod_add_mul_ediv n p
  have h2 := Int.emod_add_mul_ediv (n / p) 256
  have h3 := Int.emod_nonneg n (by omega : p ≠ 0)
  have h4 := Int.emod_lt_of_pos n hp
  have h5 := Int.emod_nonneg (n / p) (by decide : (256 : Int) ≠ 0)
  have h6 := Int.emod_lt_of_pos (n / p) (by decide : (0 : Int) < 256)
  have h7 : 0 ≤ (n / p % 256) * p := Int.mul_nonneg h5 (by omega)
  have h8 : (n / p % 256) * p ≤ 255 * p := Int.mul_le_mul_of_nonneg_right (by omega) (by omega)
  have e : n = (n % p + (n / p % 256) * p) + (p * 256) * (n / p / 256) := by
    have h9 : p * (n / p) = (n / p % 256) * p + (p * 256) * (n / p / 256) := by
      conv => lhs; rw [← h2]
      rw [Int.mul_add, ← Int.mul_assoc, Int.mul_comm p]
    omega
  generalize hq : n / p / 256 = q at e
  generalize hx : n % p + n / p % 256 * p = x at e
  have h10 : 0 ≤ x := by omega
  have h11 : x < p * 256 := by omega
  rw [e, Int.add_mul_emod_self_left, Int.emod_eq_of_lt h10 h11]
theorem u8_ofInt (n : Int) : ((UInt8.ofInt n).toNat : Int) = n % 256 := by
  simp [UInt8.ofInt, UInt8.toNat_ofNat']
  omega
theorem leV_leN (n : Int) (s : Nat) (rest : List UInt8) : ∀ j, j ≤ s → leV (leN n s ++ rest) j = n % (256 : Int) ^ j := by
  intro j
  induction j with
  | zero => intro _; simp [leV]
  | succ j ih =>
    intro hj
    rw [leV, ih (by omega), emod_pow_succ]
    congr 1
    have : (leN n s ++ rest).getD j 0 = UInt8.ofInt (n / (256 : Int) ^ j) := by
      rw [List.getD, List.getElem?_append_left (by rw [leN_length]; omega)]
      simp [leN, List.getElem?_map, List.getElem?_range (show j < s by omega)]
    rw [this, u8_ofInt]
theorem encN_len (t : Tg) (k : Nat) : (encN t k).length = offN k := by
  induction k with
  | zero => rfl
  | succ k ih => rw [encN_succ, List.length_append, ih, leN_length, offN_succ]
theorem enc_split (t : Tg) (k : Nat) (hk : k < 9) : ∃ rest, enc t = encN t k ++ (leN (t.field k) (fsize k) ++ rest) := by
  obtain ⟨m, hm⟩ : ∃ m, 9 = k + 1 + m := ⟨8 - k, by omega⟩
  unfold enc
  rw [hm]
  clear hm
  induction m with
  | zero => exact ⟨[], by rw [Nat.add_zero, encN_succ, List.append_nil]⟩
  | succ m ih =>
    obtain ⟨r, hr⟩ := ih
    exact ⟨r ++ leN (t.field (k + 1 + m)) (fsize (k + 1 + m)), by rw [← Nat.add_assoc, encN_succ, hr]; simp only [List.append_assoc]⟩
theorem leV_enc (t : Tg) (b : List UInt8) (k : Nat) (hk : k < 9) : leV ((enc t ++ b).drop (offN k)) (fsize k) = t.field k % (256 : Int) ^ fsize k := by
  obtain ⟨r, hr⟩ := enc_split t k hk
  rw [hr, List.append_assoc, ← encN_len t k, List.drop_left, List.append_assoc, leV_leN _ _ _ _ (Nat.le_refl _)]
theorem decT_enc {t : Tg} (hf : t.Fit) (ho : t.ok = true) (b : List UInt8) : decT (enc t ++ b) 9 = t := by
  have h : ∀ k, k < 9 → decT (enc t ++ b) (k + 1) = (decT (enc t ++ b) k).set (t.field k % (256 : Int) ^ fsize k) k := fun k hk => by
    rw [decT, leV_enc t b k hk]
  rw [h 8 (by omega), h 7 (by omega), h 6 (by omega), h 5 (by omega), h 4 (by omega), h 3 (by omega), h 2 (by omega), h 1 (by omega), h 0 (by omega)]
  simp only [Tg.ok, Bool.and_eq_true, decide_eq_true_eq, and_assoc] at ho
  obtain ⟨o1, o2, o3, o4, o5, o6, o7, o8, o9, o10, o11⟩ := ho
  obtain ⟨f1, f2, f3, f4, f5, f6, f7, f8⟩ := hf
  obtain ⟨ep, st, sq, fl, ix, ct, id⟩ := t
  simp only at o1 o2 o3 o4 o5 o6 o7 o8 o9 o10 o11 f1 f2 f3 f4 f5 f6 f7 f8
  simp only [decT, Tg.set, Tg.field, fsize, u64w, Tg.zero, wrap64]
  congr 1 <;> omega
theorem decodeF_enc {t : Tg} (hf : t.Fit) (ho : t.ok = true) (b : List UInt8) : decodeF (enc t ++ b) = some (t, b) := by
  have hd := decT_enc hf ho b
  have e : (enc t ++ b).drop 32 = b := by rw [← enc_length t, List.drop_left]
  unfold decodeF
  rw [hd, e, if_pos ⟨ho, rfl⟩]
end Go.SL

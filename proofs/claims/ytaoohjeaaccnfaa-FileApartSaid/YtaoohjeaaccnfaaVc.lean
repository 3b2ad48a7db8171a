/- file's laws: bytes. -/
import Derived.Test.YtaoohjeaaccnfaaVb
namespace Go.SL
set_option linter.unusedVariables false
set_option linter.unusedSimpArgs false
def byteL (n data : Int) : List UInt8 := (List.range (min (max n 0) 5000).toNat).map fun i : Nat => UInt8.ofInt (data + 7 * i)
theorem byteL_length (n data : Int) : (byteL n data).length = (min (max n 0) 5000).toNat := by simp [byteL]
def byteK (m k : Nat) (data : Int) : List UInt8 := (List.range k).map (fun i : Nat => UInt8.ofInt (data + 7 * i)) ++ zs (m - k)
theorem byteK_length {m k : Nat} (h : k ≤ m) (data : Int) : (byteK m k data).length = m := by simp [byteK, length_zs]; omega
theorem byteK_set {m k : Nat} (h : k < m) (data : Int) : (byteK m k data).set k (UInt8.ofInt (data + 7 * k)) = byteK m (k + 1) data := by
  unfold byteK
  obtain ⟨j, hj⟩ : ∃ j, m - k = j + 1 := ⟨m - k - 1, by omega⟩
  rw [hj, show m - (k + 1) = j by omega, List.range_succ, List.map_append, List.set_append, if_neg (by simp)]
  simp [zs, List.replicate_succ]
end Go.SL
namespace Go.Proofs.Ytaoohjeaaccnfaa.Fs
set_option linter.unusedVariables false
set_option linter.unusedSimpArgs false
open Go.RowKit Go.SL Go.Proofs.Ytaoohjeaaccnfaa.Ba
def BytesQ (l : List UInt8) (F : Assn) (w : World) (e : Ending) (w' : World) : Prop := ∃ v, e = .returned v ∧ Sat w' (bs 5 v l * F) ∧ Side w w'
def ByRel (m g : Nat) (data : Int) (F : Assn) (w : World) (u : Value) (wr : World) : Prop :=
  ∃ k : Nat, k ≤ m ∧ u = .int .i64 (k : Int) ∧ Sat wr (bs 5 (.slice (some ⟨g, 0, none⟩) m m) (byteK m k data) * F) ∧ Side w wr
set_option maxRecDepth 100000 in
set_option maxHeartbeats 2000000 in
theorem bytes_any (n data : Int) (F : Assn) (w : World) (h : Sat w F) :
    Calls Try.prog 44 #[.int .i64 n, .int .i64 data] w (BytesQ (byteL n data) F w) := by
  refine callsQ fun Q HQ => ?_
  obtain ⟨m, hm⟩ : ∃ m, (min (max n 0) 5000).toNat = m := ⟨_, rfl⟩
  have hm5 : m ≤ 5000 := by omega
  have hB := bs_made m (by omega) h
  have hm5' : (m : Int) ≤ 5000 := by omega
  obtain ⟨z, hz⟩ : ∃ z : Int, z = (m : Int) := ⟨_, rfl⟩
  have hmk : ∀ w, (Instr.makeSlice 22 (.int .i64 z) (.int .i64 z)).run Try.prog w = .ok (.slice (some ⟨w.heap.size, 0, none⟩) m m) (w.alloc (.cells (u8s (zs m)) 5 (0, 0))) := by rw [hz]; exact make_bytes m (by omega)
  obtain ⟨ZB, hZB⟩ : ∃ Z, Z = u8s (zs m) := ⟨_, rfl⟩
  rw [← hZB] at hmk hB
  have HB := SL.hid hB
  have D := (Side.refl w).alloc (.cells ZB 5 (0, 0))
  have Hz := SL.hid hz
  have Hm := SL.hid hm
  have hby : byteL n data = byteK m m data := by
    unfold byteL byteK
    rw [hm, Nat.sub_self]
    exact (List.append_nil _).symm
  have HBy := SL.hid hby
  have hcase : (n < 0 ∧ z = 0) ∨ (¬ n < 0 ∧ n ≤ 5000 ∧ z = n) ∨ (5000 < n ∧ z = 5000) := by omega
  clear hB hZB hz h hm hby
  rcases hcase with ⟨h1, h2⟩ | ⟨h1, h2, h3⟩ | ⟨h1, h2⟩
  all_goals
    have Hfit : True := trivial
    try subst h2
    try subst h3
    go_enter Try.func44, Try.ntmps44
    go_wp2_with fail
    generalize w.alloc (.cells ZB 5 (0, 0)) = w1 at *
    generalize w.heap.size = g at *
    go_loopw [6] (fun u wr => ByRel m g data F w u wr) (fun u _ => m - (intOf u).toNat)
    case atStart => exact ⟨0, Nat.zero_le _, rfl, HB.out, D⟩
    case round =>
      obtain ⟨k, hk, rfl, hs, ds⟩ := hrel
      by_cases hlt : k < m
      · have hlt' : (k : Int) < (m : Int) := by omega
        have hl := byteK_length hk data
        obtain ⟨g', c, e, k1, k2, k3, k4, k5⟩ := bs_set hs (i := k) (by rw [hl]; exact hlt)
        simp only [Value.slice.injEq, Option.some.injEq, Addr.mk.injEq] at e
        obtain ⟨⟨rfl, -, -⟩, -, rfl⟩ := e
        have ck := k3 k (by rw [hl]; exact hlt)
        have h5 := k5 (UInt8.ofInt (data + 7 * k))
        rw [byteK_set hlt] at h5
        have hu : SL.u8 (UInt8.ofInt (data + 7 * k)) = Value.int .u8 (wrap64 (data + (k : Int) * 7) % 256) := by
          show Value.int .u8 (((UInt8.ofInt (data + 7 * k)).toNat : Nat) : Int) = _
          rw [u8_ofInt]; congr 1; unfold wrap64; omega
        rw [hu] at h5
        have H5 := SL.hid h5
        generalize SL.u8 ((byteK m k data).getD k 0) = y at *
        clear k1 k2 k3 k5 hs h5 hl hu HB D
        go_wp2_with fail
        go_roundw
        case rel => exact ⟨k + 1, hlt, by go_num, H5.out, ds.setCell _ _⟩
        case measure => simp [intOf]; omega
      · obtain rfl : k = m := by omega
        clear HB D
        go_wp2_with fail
        refine HQ.out _ _ ⟨_, rfl, ?_, ds⟩
        rw [HBy.out]; exact hs
end Go.Proofs.Ytaoohjeaaccnfaa.Fs

/- tag: Right. (the ways printed by a small program) tag: Encode. tag: setters; numbers out of bytes. tag: what may not be encoded; bytes.Equal. -/
import Derived.Test.YtlfooilcngjeiaaGreatTg
import Derived.Laws.BytesString
namespace Go.Proofs.YtlfooilcngjeiaaGreat
set_option linter.unusedVariables false
set_option linter.unusedSimpArgs false
open Go.RowKit Go.SL
set_option maxRecDepth 100000 in
set_option maxHeartbeats 4000000 in
theorem right_any (t : Tg) (w : World) : Calls Tryz.prog 42 #[.agg t.cells] w (Tells (.bool t.ok) w) := by
  simp only [Tg.cells]
  by_cases h0 : 1 ≤ t.ep
  · skip
    by_cases h1 : 1 ≤ t.st
    · skip
      by_cases h2 : t.st ≤ t.sq
      · skip
        by_cases h3 : t.sq ≤ 281474976710655
        · skip
          by_cases h4 : t.fl < t.sq
          · skip
            by_cases h5 : 1 ≤ t.ct
            · skip
              by_cases h6 : t.ct ≤ 72
              · skip
                by_cases h7 : 0 ≤ t.ix
                · skip
                  by_cases h8 : t.ix < t.ct
                  · skip
                    by_cases h9 : 0 ≤ t.id
                    · skip
                      by_cases h10 : t.id < 3840
                      · skip
                        rw [show t.ok = true by simp [Tg.ok, h0, h1, h2, h3, h4, h5, h6, h7, h8, h9, h10]]
                        go_enter Tryz.func42, Tryz.ntmps42
                        go_wp2
                        go_ret
                        exact ⟨rfl, SL.Sat.right (SL.Sat.alloc (Sat.whole w) _), (Side.refl w).alloc _⟩
                      · rw [show t.ok = false by simp [Tg.ok, h10]]
                        have hd : decide (t.id < 3840) = false := by simpa using h10
                        go_enter Tryz.func42, Tryz.ntmps42
                        go_wp2
                        go_ret
                        exact ⟨rfl, SL.Sat.right (SL.Sat.alloc (Sat.whole w) _), (Side.refl w).alloc _⟩
                    · rw [show t.ok = false by simp [Tg.ok, h9]]
                      have hd : decide (0 ≤ t.id) = false := by simpa using h9
                      go_enter Tryz.func42, Tryz.ntmps42
                      go_wp2
                      go_ret
                      exact ⟨rfl, SL.Sat.right (SL.Sat.alloc (Sat.whole w) _), (Side.refl w).alloc _⟩
                  · rw [show t.ok = false by simp [Tg.ok, h8]]
                    have hd : decide (t.ix < t.ct) = false := by simpa using h8
                    go_enter Tryz.func42, Tryz.ntmps42
                    go_wp2
                    go_ret
                    exact ⟨rfl, SL.Sat.right (SL.Sat.alloc (Sat.whole w) _), (Side.refl w).alloc _⟩
                · rw [show t.ok = false by simp [Tg.ok, h7]]
                  have hd : decide (0 ≤ t.ix) = false := by simpa using h7
                  go_enter Tryz.func42, Tryz.ntmps42
                  go_wp2
                  go_ret
                  exact ⟨rfl, SL.Sat.right (SL.Sat.alloc (Sat.whole w) _), (Side.refl w).alloc _⟩
              · rw [show t.ok = false by simp [Tg.ok, h6]]
                have hd : decide (t.ct ≤ 72) = false := by simpa using h6
                go_enter Tryz.func42, Tryz.ntmps42
                go_wp2
                go_ret
                exact ⟨rfl, SL.Sat.right (SL.Sat.alloc (Sat.whole w) _), (Side.refl w).alloc _⟩
            · rw [show t.ok = false by simp [Tg.ok, h5]]
              have hd : decide (1 ≤ t.ct) = false := by simpa using h5
              go_enter Tryz.func42, Tryz.ntmps42
              go_wp2
              go_ret
              exact ⟨rfl, SL.Sat.right (SL.Sat.alloc (Sat.whole w) _), (Side.refl w).alloc _⟩
          · rw [show t.ok = false by simp [Tg.ok, h4]]
            have hd : decide (t.fl < t.sq) = false := by simpa using h4
            go_enter Tryz.func42, Tryz.ntmps42
            go_wp2
            go_ret
            exact ⟨rfl, SL.Sat.right (SL.Sat.alloc (Sat.whole w) _), (Side.refl w).alloc _⟩
        · rw [show t.ok = false by simp [Tg.ok, h3]]
          have hd : decide (t.sq ≤ 281474976710655) = false := by simpa using h3
          go_enter Tryz.func42, Tryz.ntmps42
          go_wp2
          go_ret
          exact ⟨rfl, SL.Sat.right (SL.Sat.alloc (Sat.whole w) _), (Side.refl w).alloc _⟩
      · rw [show t.ok = false by simp [Tg.ok, h2]]
        have hd : decide (t.st ≤ t.sq) = false := by simpa using h2
        go_enter Tryz.func42, Tryz.ntmps42
        go_wp2
        go_ret
        exact ⟨rfl, SL.Sat.right (SL.Sat.alloc (Sat.whole w) _), (Side.refl w).alloc _⟩
    · rw [show t.ok = false by simp [Tg.ok, h1]]
      have hd : decide (1 ≤ t.st) = false := by simpa using h1
      go_enter Tryz.func42, Tryz.ntmps42
      go_wp2
      go_ret
      exact ⟨rfl, SL.Sat.right (SL.Sat.alloc (Sat.whole w) _), (Side.refl w).alloc _⟩
  · rw [show t.ok = false by simp [Tg.ok, h0]]
    have hd : decide (1 ≤ t.ep) = false := by simpa using h0
    go_enter Tryz.func42, Tryz.ntmps42
    go_wp2
    go_ret
    exact ⟨rfl, SL.Sat.right (SL.Sat.alloc (Sat.whole w) _), (Side.refl w).alloc _⟩
end Go.Proofs.YtlfooilcngjeiaaGreat
namespace Go.SL
set_option linter.unusedVariables false
set_option linter.unusedSimpArgs false
open Go.RowKit
def encN (t : Tg) (k : Nat) : List UInt8 := (List.range k).flatMap fun i => leN (t.field i) (fsize i)
theorem encN_succ (t : Tg) (k : Nat) : encN t (k + 1) = encN t k ++ leN (t.field k) (fsize k) := by simp [encN, List.range_succ]
def enc (t : Tg) : List UInt8 := encN t 9
theorem fsize_le (k : Nat) : fsize k ≤ 6 := by
  unfold fsize
  split <;> omega
theorem encN_length (t : Tg) (k : Nat) : (encN t k).length ≤ 6 * k := by
  induction k with
  | zero => simp [encN]
  | succ k ih => rw [encN_succ, List.length_append, leN_length]; have := fsize_le k; omega
theorem enc_length (t : Tg) : (enc t).length = 32 := by
  simp [enc, encN, List.range_succ, leN_length, fsize]
end Go.SL
namespace Go.Proofs.YtlfooilcngjeiaaGreat
set_option linter.unusedVariables false
set_option linter.unusedSimpArgs false
open Go.RowKit Go.SL
theorem index_k (b : Fb) (k : Nat) (hk : k < 9) (w : World) : (Instr.index 107 (fieldsV b) (.int .i64 (k : Int))).run Tryz.prog w = .ok (.agg (fcells b k)) w := by
  obtain rfl | rfl | rfl | rfl | rfl | rfl | rfl | rfl | rfl : k = 0 ∨ k = 1 ∨ k = 2 ∨ k = 3 ∨ k = 4 ∨ k = 5 ∨ k = 6 ∨ k = 7 ∨ k = 8 := by omega
  all_goals kernel_rfl
/-- append of one byte to bytes of one's own. -/
theorem append_byte {w : World} {v : Value} {l : List UInt8} {x : UInt8} {F : Assn} (h : Sat w (bs 5 v l * F)) (hl : l.length ≤ 1000000) :
    ∃ v' w', (Builtin.append_ #[39, 39] 39 #[v, .slice (some ⟨w.heap.size, 0, none⟩) 1 1]).run Tryz.prog (w.alloc (.cells #[u8 x] 5 (0, 0))) = .ok v' w' ∧ Sat w' (bs 5 v' (l ++ [x]) * F) ∧ Side w w' ∧ ∃ a c, v' = .slice a (l.length + 1) c := by
  obtain ⟨i0, hi, hz, hs0, hb0⟩ := info_parts info_u8
  have hA := h.alloc (.cells #[u8 x] 5 (0, 0))
  have hR : Rds (w.alloc (.cells #[u8 x] 5 (0, 0))) 1 (.slice (some ⟨w.heap.size, 0, none⟩) 1 1) 1 [u8 x] :=
    ⟨rfl, .inr ⟨_, _, rfl, fun j u hu => by
      rw [Addr.add_lit, Nat.zero_add]
      exact (hA.cell j).trans (by simpa using hu)⟩⟩
  obtain ⟨v', w', hrun, hsat', hside'⟩ := Sat.append (P := Tryz.prog) (ty := 39) Tryz.underlying39 hi hz hs0 hb0 rfl hA.right hR (by intro u hu; rw [List.mem_singleton.1 hu]; rfl) (by unfold maxLen; omega) (by omega)
  refine ⟨v', w', hrun, hsat'.to (by rw [bs, List.length_append, List.map_append]; rfl), ((Side.refl w).alloc _).trans hside', sl_shape hsat'⟩
def EncIn (pre : List UInt8) (n : Int) (s : Nat) (X : Assn) (w0 : World) (gk : Nat) (u6 u9 u29 : Value) (wr : World) : Prop :=
  ∃ j : Nat, j ≤ s ∧ s - j ≤ gk ∧ u29 = .int .i64 (j : Int) ∧ u9 = .int .u64 (n / (256 : Int) ^ j) ∧ Sat wr (bs 5 u6 (pre ++ leN n j) * X) ∧ Side w0 wr
def EncOut (t : Tg) (fb : Fb) (bt : Nat) (X : Assn) (w0 : World) (gk : Nat) (u6 u20 : Value) (wr : World) : Prop :=
  ∃ k : Nat, k ≤ 9 ∧ 9 - k ≤ gk ∧ u20 = .int .i64 (k : Int) ∧ Sat wr (bs 5 u6 (encN t k) * (fieldsA fb * (pt bt (.cells t.cells 59 (0, 0)) * X))) ∧ Side w0 wr
def EncodeQ (l : List UInt8) (w : World) (e : Ending) (w' : World) : Prop := ∃ v, e = .returned (.tuple #[v, .int .i64 0]) ∧ Sat w' (bs 5 v l * whole w) ∧ Side w w'
theorem field_range (t : Tg) (ht : t.Fit) (k : Nat) : 0 ≤ t.field k ∧ t.field k < 18446744073709551616 := by
  obtain ⟨h0, h1, h2, h3, h4, h5, h6, h7⟩ := ht
  unfold Tg.field magic u64w
  split <;> omega
set_option maxRecDepth 100000 in
set_option maxHeartbeats 4000000 in
theorem encode_yes (t : Tg) (ht : t.Fit) (hok : t.ok = true) (bv : Value) (l : List UInt8) (hl : l.length = 480) (w : World) (hr : Rd w bv l) :
    Calls Tryz.prog 17 #[.agg t.cells, bv] w (EncodeQ (enc t ++ l) w) := by
  obtain ⟨ba, bc, rfl⟩ := hr.shape
  rw [hl] at hr ⊢
  have hmk : ∀ w, (Instr.makeSlice 39 (.int .i64 0) (.int .i64 512)).run Tryz.prog w = .ok (.slice (some ⟨w.heap.size, 0, none⟩) 0 512) (w.alloc (.cells (u8s (zs 512)) 5 (0, 0))) := fun w => by
    obtain ⟨i, hi, hz, hs, hb⟩ := info_parts info_u8
    have := run_make (P := Tryz.prog) w 39 5 i _ Tryz.underlying39 hi hz .i64 .i64 0 512 (by omega) (by omega) (by rw [hb]; omega) (by omega)
    rw [this, hs]
    exact congrArg (fun c => Result.ok _ (w.alloc (.cells c _ (0, 0)))) (madeCells_u8 512)
  have hri := right_any t
  rw [hok] at hri
  have hA := (Sat.whole w).alloc (.cells t.cells 59 (0, 0))
  have hs := (Side.refl w).alloc (.cells t.cells 59 (0, 0))
  have Hl := SL.hid hl; have Hr := SL.hid hr
  clear hl hr hok
  go_enter Tryz.func17, Tryz.ntmps17
  simp only [Tg.cells] at hA hri ⊢
  go_wp2_with fail
  refine (hri _).mono ?_
  rintro e w2 ⟨rfl, h2, d2⟩
  have H2 := h2.keepW hA
  have D2 := Side.trans hs d2
  clear hri hA hs h2 d2
  generalize w.heap.size = bt at H2 ⊢
  have hlt := H2.lt
  go_wp2_with fail
  have H3 := H2.alloc (.cells (u8s (zs 512)) 5 (0, 0))
  have D3 := D2.alloc (.cells (u8s (zs 512)) 5 (0, 0))
  generalize hw3 : w2.alloc (.cells (u8s (zs 512)) 5 (0, 0)) = w3 at H3 D3 ⊢
  generalize w2.heap.size = gb at H3 ⊢
  clear hw3 hlt H2 D2 hmk
  refine (fields_any w3).mono ?_
  rintro e w4 ⟨fb, rfl, h4, d4⟩
  have H4 := h4.under H3
  have D4 := D3.trans d4
  clear h4 d4 H3 D3
  have H5 : Sat w4 (bs 5 (.slice (some ⟨gb, 0, none⟩) 0 512) (encN t 0) * (fieldsA fb * (pt bt (.cells t.cells 59 (0, 0)) * whole w))) := by
    have := Sat.slOf (sz := 1) (n := 0) (cap := 512) H4.front2 (by omega) (by unfold maxLen; omega) (by simp [size_u8s, length_zs])
    exact this
  have hix := index_k fb
  have hgk := get_k fb t
  generalize hfv : fieldsV fb = fv at hix
  clear hfv H4
  go_wp2_with fail
  go_loopg [6, 20] 9 (fun gk u6 u20 wr => EncOut t fb bt (whole w) w gk u6 u20 wr)
  case atStart => exact ⟨0, by omega, by omega, rfl, H5, D4⟩
  case round =>
    clear H5 D4
    obtain ⟨gko, rfl⟩ : ∃ n, n = gk := ⟨gk, rfl⟩
    obtain ⟨k, hk, hgo, rfl, hsat, hside⟩ := hrel
    have hlen := encN_length t k
    have hshape := sl_shape hsat
    obtain ⟨va, vc, rfl⟩ := hshape
    by_cases hlt : k < 9
    · have hlt' : (k : Int) < 9 := by omega
      have hixk := hix k hlt
      obtain ⟨f, caps, hf, hen, hget⟩ := hgk k hlt ht
      obtain ⟨f2, caps2, hf2⟩ : ∃ f2 caps2, fset fb k = (f2, caps2) := ⟨_, _, rfl⟩
      simp only [fcells, hf, hf2] at hixk
      have hsz : (fsize k : Int) ≤ 6 := by have := fsize_le k; omega
      have hA := hsat.alloc (.cells #[.int .i64 (fsize k), fnV f caps, fnV f2 caps2] 106 (0, 0))
      have hsA := hside.alloc (.cells #[.int .i64 (fsize k), fnV f caps, fnV f2 caps2] 106 (0, 0))
      have cb : ∀ o, wr.cell? ⟨bt, o, none⟩ = t.cells[o]? := fun o => hsat.front3.cell o
      have cb0 := cb 0; have cb1 := cb 1; have cb2 := cb 2; have cb3 := cb 3; have cb4 := cb 4; have cb5 := cb 5; have cb6 := cb 6
      simp only [Tg.cells] at cb0 cb1 cb2 cb3 cb4 cb5 cb6
      have hbl := hsat.front3.lt
      have Hen := SL.hid encN_succ
      have hcall := hget _ _ (hA.front3.front2.front2)
      clear hix hgk hget cb hf hf2 hsat hside
      go_wp2_with fail
      refine hcall.mono ?_
      rintro e w5 ⟨rfl, h5, d5⟩
      have H5 := h5.keepW hA
      have D5 := hsA.trans d5
      clear hcall h5 d5 hA hsA cb0 cb1 cb2 cb3 cb4 cb5 cb6 hixk hbl hen
      generalize wr.heap.size = b8 at H5 ⊢
      have c8 : w5.cell? ⟨b8, 0, none⟩ = some (.int .i64 (fsize k : Int)) := H5.cell 0
      obtain ⟨fn0, fn1⟩ := field_range t ht k
      have Hes : Hid (encN t (k + 1) = encN t k ++ leN (t.field k) (fsize k)) := encN_succ t k
      have hlenK : (encN t k).length ≤ 54 := by omega
      generalize hfk : t.field k = n at *
      generalize hsk : fsize k = sz at *
      generalize hpre : encN t k = pre at *
      have H6 : Sat w5 (bs 5 (.slice va pre.length vc) (pre ++ leN n 0) * (pt b8 (.cells #[.int .i64 (sz : Int), fnV f caps, fnV f2 caps2] 106 (0, 0)) * (fieldsA fb * (pt bt (.cells t.cells 59 (0, 0)) * whole w)))) := H5.front2.to (by simp only [leN, List.range_zero, List.map_nil, List.append_nil])
      clear H5 hfk hsk hpre
      go_wp2_with fail
      go_loopg [6, 9, 29] sz (fun gk u6 u9 u29 wr => EncIn pre n sz (pt b8 (.cells #[.int .i64 (sz : Int), fnV f caps, fnV f2 caps2] 106 (0, 0)) * (fieldsA fb * (pt bt (.cells t.cells 59 (0, 0)) * whole w))) w gk u6 u9 u29 wr)
      case atStart => exact ⟨0, by omega, by omega, rfl, by simp, H6, D5⟩
      case round =>
        clear H6 D5 c8
        obtain ⟨j, hj, hgj, rfl, rfl, hsat, hside⟩ := hrel
        have hl6 : (pre ++ leN n j).length ≤ 60 := by rw [List.length_append, leN_length]; omega
        by_cases hjl : j < sz
        · have hjl' : (j : Int) < (sz : Int) := by omega
          have hp : 0 < (256 : Int) ^ j := Int.pow_pos (by decide)
          have q0 : 0 ≤ n / (256 : Int) ^ j := Int.ediv_nonneg fn0 (by omega)
          have q1 : n / (256 : Int) ^ j < 18446744073709551616 := Int.lt_of_le_of_lt (Int.ediv_le_self _ fn0) fn1
          have q2 : n / (256 : Int) ^ (j + 1) = n / (256 : Int) ^ j / 256 := by
            rw [Int.pow_succ, Int.ediv_ediv, if_neg (fun hh => absurd hh.1 (by omega)), Int.sub_zero]
          have hs8 := leN_succ n j
          obtain ⟨v', w6, hrun, h6, d6, a6, c6, rfl⟩ := append_byte (x := UInt8.ofInt (n / (256 : Int) ^ j)) hsat (by omega)
          have hu8 := u8_wrap (n / (256 : Int) ^ j)
          rw [IntKind.wrap_u8] at hu8
          rw [List.append_assoc, ← hs8] at h6
          generalize hq : n / (256 : Int) ^ j = q at *
          rw [← hu8] at hrun
          have Hrun := SL.hid hrun; have Hq2 := SL.hid q2
          clear hrun hs8 hu8 hsat hq q2 hp
          go_wp2_with (at_builtin; refine wpList_append_run Hrun.out _ _ rfl rfl rfl rfl rfl ?_)
          go_roundg (gk - 1)
          case measure => omega
          case rel =>
            refine ⟨j + 1, by omega, by omega, by go_num, by rw [Hq2.out], ?_, hside.trans d6⟩
            rw [List.length_append] at h6
            exact h6
        · obtain rfl : j = sz := by omega
          have hshape := sl_shape hsat
          obtain ⟨a6, c6, rfl⟩ := hshape
          rw [← Hes.out] at hsat
          have H9 := hsat.drop2
          clear hjl hl6 hsat
          go_wp2
          go_roundg (gko - 1)
          case measure => omega
          case rel =>
            refine ⟨k + 1, by omega, by omega, by go_num, ?_, hside⟩
            first | exact H9 | (rw [← Hes.out]; exact H9)
    · obtain rfl : k = 9 := by omega
      have hrl : Rd wr (.slice ba 480 bc) l := Rds.carry Hr.out fun a u hu => (hsat.right.right.right.addEmp.to (star_comm _ _)).cellOld hu
      obtain ⟨i0, hi, hz, hs0, hb0⟩ := info_parts info_u8
      have hrl2 : Rds wr 1 (.slice ba 480 bc) 480 (l.map Go.SL.u8) := by
        have := hrl; unfold Rd at this; rwa [Hl.out] at this
      obtain ⟨v', w6, hrun, h6, d6⟩ := Sat.append (P := Tryz.prog) (ty := 39) Tryz.underlying39 hi hz hs0 hb0 rfl hsat hrl2 (by
        intro u hu; obtain ⟨x, _, rfl⟩ := List.mem_map.1 hu; rfl) (by unfold maxLen; omega) (by omega)
      have hbs : Sat w6 (bs 5 v' (enc t ++ l) * (fieldsA fb * (pt bt (.cells t.cells 59 (0, 0)) * whole w))) := h6.to (by
        rw [bs, List.length_append, List.map_append, Hl.out]; rfl)
      have Hrun := SL.hid hrun
      clear hrun h6 hrl hrl2 hsat hlt hi hz hs0 hb0 hix hgk
      go_wp2_with (at_builtin; refine wpList_append_run Hrun.out _ _ rfl rfl rfl rfl rfl ?_)
      go_ret2
      exact ⟨v', rfl, hbs.drop2.drop2, hside.trans d6⟩
end Go.Proofs.YtlfooilcngjeiaaGreat
namespace Go.SL
set_option linter.unusedVariables false
set_option linter.unusedSimpArgs false
open Go.RowKit
def Tg.zero : Tg := ⟨0, 0, 0, 0, 0, 0, 0⟩
def Tg.set (t : Tg) (n : Int) : Nat → Tg
  | 1 => { t with ep := n % 4294967296 }
  | 2 => { t with sq := n }
  | 3 => { t with fl := n }
  | 4 => { t with st := n }
  | 5 => { t with ix := wrap64 n }
  | 6 => { t with ct := wrap64 n }
  | 7 => { t with id := wrap64 n }
  | _ => t
def offN (k : Nat) : Nat := ((List.range k).map fsize).sum
theorem offN_succ (k : Nat) : offN (k + 1) = offN k + fsize k := by simp [offN, List.range_succ]
def decT (l : List UInt8) : Nat → Tg
  | 0 => Tg.zero
  | k + 1 => (decT l k).set (leV (l.drop (offN k)) (fsize k)) k
end Go.SL
namespace Go.Proofs.YtlfooilcngjeiaaGreat
set_option linter.unusedVariables false
set_option linter.unusedSimpArgs false
open Go.RowKit Go.SL
def SetQ (b : Nat) (t : Tg) (F : Assn) (w : World) (e : Ending) (w' : World) : Prop := e = .returned (.tuple #[]) ∧ Sat w' (pt b (.cells t.cells 59 (0, 0)) * F) ∧ Side w w'
theorem setX (b : Nat) (n : Int) (t : Tg) (w : World) (F : Assn) (h : Sat w (pt b (.cells t.cells 59 (0, 0)) * F)) :
    Calls Tryz.prog 86 #[ptV b, .int .u64 n] w (SetQ b t F w) := by
  go_enter Tryz.func86, Tryz.ntmps86
  go_wp2
  go_end0
  exact ⟨rfl, h, Side.refl w⟩
theorem setE (b : Nat) (n : Int) (t : Tg) (w : World) (F : Assn) (h : Sat w (pt b (.cells t.cells 59 (0, 0)) * F)) :
    Calls Tryz.prog 67 #[ptV b, .int .u64 n] w (SetQ b (t.set n 1) F w) := by
  have hc : w.cell? ⟨b, 0, none⟩ = some (.int .u32 t.ep) := h.cell 0
  have hf := h.frozen 0
  have h2 := h.setCell 0 (.int .u32 (n % 4294967296))
  have H2 := SL.hid h2
  clear h h2
  go_enter Tryz.func67, Tryz.ntmps67
  go_wp2
  go_end0
  exact ⟨rfl, H2.out, (Side.refl w).setCell _ _⟩
theorem setL (b c f o : Nat) (n v : Int) (t t' : Tg) (w : World) (F : Assn) (h : Sat w (pt c (.cells #[fnV f #[]] 141 (0, 0)) * (pt b (.cells t.cells 59 (0, 0)) * F))) (hen : ∀ args w, (callFunc f args).run Tryz.prog w = .ok (.enter f args) w)
    (hat : ∀ (b : Nat) (w : World), Calls Tryz.prog f #[ptV b] w fun e w' => e = .returned (.pointer (some ⟨b, o, none⟩)) ∧ w = w') (ho : t.cells[o]? = some (.int .u64 v)) (ht : t.cells.setIfInBounds o (.int .u64 n) = t'.cells) :
    Calls Tryz.prog 88 #[ptV b, .int .u64 n, ptV c] w (SetQ b t' (pt c (.cells #[fnV f #[]] 141 (0, 0)) * F) w) := by
  have hc : w.cell? ⟨c, 0, none⟩ = some (fnV f #[]) := h.cell 0
  have hco := (h.front2.cell o).trans ho
  have hf := h.front2.frozen o
  have h2 := h.front2.setCell o (.int .u64 n)
  rw [ht] at h2
  clear h ho ht
  go_enter Tryz.func88, Tryz.ntmps88
  go_wp2_with fail
  refine (hat _ _).mono ?_
  rintro e w1 ⟨rfl, rfl⟩
  go_wp2
  go_end0
  exact ⟨rfl, h2, (Side.refl w).setCell _ _⟩
theorem setS (b c f o : Nat) (n v : Int) (t t' : Tg) (w : World) (F : Assn) (h : Sat w (pt c (.cells #[fnV f #[]] 144 (0, 0)) * (pt b (.cells t.cells 59 (0, 0)) * F))) (hen : ∀ args w, (callFunc f args).run Tryz.prog w = .ok (.enter f args) w)
    (hat : ∀ (b : Nat) (w : World), Calls Tryz.prog f #[ptV b] w fun e w' => e = .returned (.pointer (some ⟨b, o, none⟩)) ∧ w = w') (ho : t.cells[o]? = some (.int .i64 v)) (ht : t.cells.setIfInBounds o (.int .i64 (wrap64 n)) = t'.cells) :
    Calls Tryz.prog 90 #[ptV b, .int .u64 n, ptV c] w (SetQ b t' (pt c (.cells #[fnV f #[]] 144 (0, 0)) * F) w) := by
  have hc : w.cell? ⟨c, 0, none⟩ = some (fnV f #[]) := h.cell 0
  have hco := (h.front2.cell o).trans ho
  have hf := h.front2.frozen o
  have h2 := h.front2.setCell o (.int .i64 (wrap64 n))
  rw [ht] at h2
  clear h ho ht
  go_enter Tryz.func90, Tryz.ntmps90
  go_wp2_with fail
  refine (hat _ _).mono ?_
  rintro e w1 ⟨rfl, rfl⟩
  go_wp2
  go_end0
  exact ⟨rfl, h2, (Side.refl w).setCell _ _⟩
/-- A setter's contract. -/
theorem set_k (fb : Fb) (b : Nat) (t : Tg) (n : Int) (k : Nat) (hk : k < 9) :
    ∃ f caps, fset fb k = (f, caps) ∧ (∀ args w, (callFunc f args).run Tryz.prog w = .ok (.enter f args) w) ∧
      ∀ w F, Sat w (fieldsA fb * (pt b (.cells t.cells 59 (0, 0)) * F)) → Calls Tryz.prog f (#[ptV b, .int .u64 n] ++ caps) w (SetQ b (t.set n k) (fieldsA fb * F) w) := by
  have fin : ∀ {t' : Tg} {R F : Assn} {w : World} {e : Ending} {w' : World} {c : Nat} {o : Obj}, SetQ b t' (pt c o * R) w e w' → (pt b (.cells t'.cells 59 (0, 0)) * (pt c o * R) = pt b (.cells t'.cells 59 (0, 0)) * (fieldsA fb * F)) → SetQ b t' (fieldsA fb * F) w e w' :=
    fun ⟨h1, h2, h3⟩ e => ⟨h1, h2.to e, h3⟩
  match k, hk with
  | 0, _ => exact ⟨_, _, rfl, en_x2, fun w F h => setX b n t w _ h.front2⟩
  | 1, _ => exact ⟨_, _, rfl, en_f2, fun w F h => setE b n t w _ h.front2⟩
  | 2, _ => exact ⟨_, _, rfl, en_l2, fun w F h => (setL b fb.b2 _ 2 n _ t (t.set n 2) w _ ((fieldsO h).front2.front9.front2) en_f3 at3 rfl rfl).mono fun _ _ q => fin q (by unfold fieldsA; ac_rfl)⟩
  | 3, _ => exact ⟨_, _, rfl, en_l2, fun w F h => (setL b fb.b3 _ 3 n _ t (t.set n 3) w _ ((fieldsO h).front3.front9.front2) en_f4 at4 rfl rfl).mono fun _ _ q => fin q (by unfold fieldsA; ac_rfl)⟩
  | 4, _ => exact ⟨_, _, rfl, en_l2, fun w F h => (setL b fb.b4 _ 1 n _ t (t.set n 4) w _ ((fieldsO h).front4.front9.front2) en_f5 at5 rfl rfl).mono fun _ _ q => fin q (by unfold fieldsA; ac_rfl)⟩
  | 5, _ => exact ⟨_, _, rfl, en_s2, fun w F h => (setS b fb.b5 _ 4 n _ t (t.set n 5) w _ ((fieldsO h).front5.front9.front2) en_f6 at6 rfl rfl).mono fun _ _ q => fin q (by unfold fieldsA; ac_rfl)⟩
  | 6, _ => exact ⟨_, _, rfl, en_s2, fun w F h => (setS b fb.b6 _ 5 n _ t (t.set n 6) w _ ((fieldsO h).front6.front9.front2) en_f7 at7 rfl rfl).mono fun _ _ q => fin q (by unfold fieldsA; ac_rfl)⟩
  | 7, _ => exact ⟨_, _, rfl, en_s2, fun w F h => (setS b fb.b7 _ 6 n _ t (t.set n 7) w _ ((fieldsO h).front7.front9.front2) en_f8 at8 rfl rfl).mono fun _ _ q => fin q (by unfold fieldsA; ac_rfl)⟩
  | 8, _ => exact ⟨_, _, rfl, en_x2, fun w F h => setX b n t w _ h.front2⟩
end Go.Proofs.YtlfooilcngjeiaaGreat
namespace Go.Proofs.YtlfooilcngjeiaaGreat
set_option linter.unusedVariables false
set_option linter.unusedSimpArgs false
open Go.RowKit Go.SL
theorem toList_loop (l : List UInt8) : ∀ (n i : Nat) (acc : List UInt8), l.length - i = n → ByteArray.toList.loop ⟨l.toArray⟩ i acc = acc.reverse ++ l.drop i := by
  intro n
  induction n with
  | zero =>
    intro i acc h
    rw [ByteArray.toList.loop]
    have : ¬ i < ByteArray.size ⟨l.toArray⟩ := by show ¬ i < l.toArray.size; simp; omega
    rw [if_neg this, List.drop_of_length_le (by omega)]; simp
  | succ n ih =>
    intro i acc h
    rw [ByteArray.toList.loop]
    have hi : i < l.length := by omega
    have : i < ByteArray.size ⟨l.toArray⟩ := by show i < l.toArray.size; simpa using hi
    rw [if_pos this, ih (i + 1) _ (by omega), List.drop_eq_getElem_cons hi]
    simp [ByteArray.get!, hi]
theorem toList_str (l : List UInt8) : (str l).toList = l := by
  show ByteArray.toList.loop ⟨l.toArray⟩ 0 [] = l
  rw [toList_loop l _ 0 [] rfl]; rfl
/-- The text of bytes. -/
theorem run_text (w : World) (v : Value) (l : List UInt8) (h : Rd w v l) : (convert 39 9 v).run Tryz.prog w = .ok (.string (str l)) w := by
  have hfold : ∀ (l : List UInt8) (s : ByteArray), (l.map fun x => (x.toNat : Int)).foldl (fun r n => r.push (UInt8.ofNat n.toNat)) s = ⟨s.data ++ l.toArray⟩ := by
    intro l
    induction l with
    | nil => intro s; simp
    | cons a l ih => intro s; simp only [List.map_cons, List.foldl_cons, ih]; simp [ByteArray.push]
  obtain ⟨_, hr⟩ := h
  rcases hr with ⟨rfl, h0⟩ | ⟨a, c, rfl, ha⟩
  · have : l = [] := List.eq_nil_of_length_eq_zero h0
    subst this
    rw [run_convert_bytes_string w _ _ 5 none 0 0 Tryz.underlying39 Tryz.underlying5 Tryz.underlying9]
    rfl
  · rw [run_convert_bytes_string w _ _ 5 (some a) _ c Tryz.underlying39 Tryz.underlying5 Tryz.underlying9]
    have hl := run_loadCells_list (P := Tryz.prog) (w := w) a (l.map u8) ha
    rw [List.length_map] at hl
    have := run_bytesToString (P := Tryz.prog) w a l.length c (l.map fun x => (x.toNat : Int)) (by
      rw [hl]
      simp [u8, Function.comp_def])
    rw [this, hfold]
    simp [str]
set_option maxRecDepth 100000 in
theorem encode_no (t : Tg) (hok : t.ok = false) (bv : Value) (l : List UInt8) (w : World) (hr : Rd w bv l) :
    Calls Tryz.prog 17 #[.agg t.cells, bv] w (Tells (.tuple #[.slice none 0 0, .int .i64 1]) w) := by
  obtain ⟨ba, bc, rfl⟩ := hr.shape
  have hri := right_any t
  rw [hok] at hri
  have hA := (Sat.whole w).alloc (.cells t.cells 59 (0, 0))
  have hs := (Side.refl w).alloc (.cells t.cells 59 (0, 0))
  clear hr hok
  go_enter Tryz.func17, Tryz.ntmps17
  simp only [Tg.cells] at hA hri ⊢
  go_wp2_with fail
  refine (hri _).mono ?_
  rintro e w2 ⟨rfl, h2, d2⟩
  have H2 := (h2.keepW hA).right
  have D2 := Side.trans hs d2
  clear hri hA hs h2 d2
  go_wp2
  go_ret2
  exact ⟨rfl, H2, D2⟩
theorem equal_any (w : World) (v1 v2 : Value) (l1 l2 : List UInt8) (h1 : Rd w v1 l1) (h2 : Rd w v2 l2) :
    Calls Tryz.prog 80 #[v1, v2] w (BoolIs (decide (l1 = l2)) w) := by
  have k1 := run_text w v1 l1 h1
  have k2 := run_text w v2 l2 h2
  by_cases he : l1 = l2
  · subst he
    rw [show decide (l1 = l1) = true by simp]
    clear h1 h2
    go_enter Tryz.func80, Tryz.ntmps80
    go_wp2
    go_ret
    exact ⟨rfl, rfl⟩
  · rw [show decide (l1 = l2) = false by simpa using he]
    have hne : ((str l1).toList == (str l2).toList) = false := by
      rw [toList_str, toList_str]; simpa using he
    clear h1 h2 he
    go_enter Tryz.func80, Tryz.ntmps80
    go_wp2
    go_ret
    exact ⟨rfl, rfl⟩
end Go.Proofs.YtlfooilcngjeiaaGreat

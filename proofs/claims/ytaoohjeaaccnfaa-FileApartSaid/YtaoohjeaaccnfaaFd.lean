/- inode: put, Encode, EncodeRow. -/
import Derived.Test.YtaoohjeaaccnfaaFc
namespace Go.SL
set_option linter.unusedVariables false
set_option linter.unusedSimpArgs false
open Go.RowKit
def leP (xs : List Int) : List UInt8 := xs.flatMap fun p => leN p 2
theorem leP_length (xs : List Int) : (leP xs).length = 2 * xs.length := by
  induction xs with
  | nil => rfl
  | cons x xs ih => rw [leP, List.flatMap_cons, List.length_append, leN_length]; show 2 + (leP xs).length = _; rw [ih, List.length_cons]; omega
theorem leP_snoc (xs : List Int) (p : Int) : leP (xs ++ [p]) = leP xs ++ leN p 2 := by simp [leP]
/-- The bytes of a node. -/
def encN0 (n : Nd) : List UInt8 := ((((leN n.kd 1 ++ leN n.lk 2) ++ leN n.sz 4) ++ leP n.dr) ++ leP [n.rw])
def encNd (n : Nd) : List UInt8 := padTo 480 (encN0 n)
theorem encNd_length (n : Nd) : (encNd n).length = 480 := padTo_length _ _
theorem ptrOk_range {p : Int} (h : ptrOk p = true) : 0 ≤ p ∧ p < 3840 := by simpa [ptrOk] using h
theorem Nd.ok_facts {n : Nd} (h : n.ok = true) : (n.kd = 1 ∨ n.kd = 2) ∧ 0 ≤ n.lk ∧ n.lk ≤ 65535 ∧ 0 ≤ n.sz ∧ n.sz ≤ 122880 ∧ n.dr.all ptrOk = true ∧ ptrOk n.rw = true ∧ (16 < blocksOf n.sz ∨ n.rw = 0) ∧ ∀ i : Nat, i < 16 → (i : Int) < blocksOf n.sz ∨ n.dr.getD i 0 = 0 := by
  unfold Nd.ok at h
  simp only [Bool.and_eq_true, Bool.or_eq_true, decide_eq_true_eq] at h
  obtain ⟨⟨⟨⟨⟨⟨⟨⟨h1, h2⟩, h3⟩, h4⟩, h5⟩, h6⟩, h7⟩, h8⟩, h9⟩ := h
  refine ⟨h1, h2, h3, h4, h5, h6, h7, h8, fun i hi => ?_⟩
  have := List.all_eq_true.1 h9 i (List.mem_range.2 hi)
  simpa using this
end Go.SL
namespace Go.Proofs.Ytaoohjeaaccnfaa.Fs
set_option linter.unusedVariables false
set_option linter.unusedSimpArgs false
open Go.RowKit Go.SL Go.Proofs.Ytaoohjeaaccnfaa.Ba
def PutLRel (v : Value) (l : List UInt8) (xs : List Int) (w : World) (u0 u9 : Value) (wr : World) : Prop :=
  ∃ k : Nat, k ≤ xs.length ∧ u9 = .int .i64 (k : Int) ∧ Rd wr u0 (l ++ leP (xs.take k)) ∧ Sat wr (whole w) ∧ (0 < k → Sat wr (bs 5 u0 (l ++ leP (xs.take k)) * whole w)) ∧ Side w wr
set_option maxRecDepth 100000 in
set_option maxHeartbeats 2000000 in
theorem putL_any (w : World) (v xv : Value) (l : List UInt8) (xs : List Int) (hr : Rd w v l) (hx : RdI w xv xs) (h1 : 1 ≤ xs.length) (hl : l.length + 2 * xs.length ≤ 1000) (hall : xs.all ptrOk = true) :
    Calls Try.prog 75 #[v, xv] w (BsQ (l ++ leP xs) w) := by
  have HX := SL.hid hx
  obtain ⟨xa, xc, rfl⟩ := hx.shapeF
  have hln : (xs.length : Int) ≤ 1000 := by omega
  have Hall := SL.hid hall
  clear hx hall
  go_enter Try.func75, Try.ntmps75
  go_wp2_with fail
  go_loopw [0, 9] (fun u0 u9 wr => PutLRel v l xs w u0 u9 wr) (fun _ u _ => xs.length - (intOf u).toNat)
  case atStart => exact ⟨0, Nat.zero_le _, rfl, by simpa [leP] using hr, Sat.whole w, fun h => absurd h (by omega), Side.refl w⟩
  case round =>
    clear hr
    obtain ⟨k, hk, rfl, hrd, hsat, hown, hside⟩ := hrel
    by_cases hlt : k < xs.length
    · have hlt' : (k : Int) < (xs.length : Int) := by omega
      have hxr : RdI wr (.slice xa xs.length xc) xs := by
        rcases HX.out with ⟨x, c, h1, h2⟩ | ⟨g, o, c, h1, h2, h3, h4⟩
        · exact .inl ⟨x, c, h1, h2⟩
        · exact .inr ⟨g, o, c, h1, h2, h3, fun j hj => (hsat.to (emp_star _).symm).cellOld (h4 j hj)⟩
      obtain ⟨g, o, c', hv, hc⟩ := hxr.atF hlt
      cases hv
      have hts := take_succF hlt
      have hmem : xs.getD k 0 ∈ xs := by rw [List.getD, List.getElem?_eq_getElem hlt]; exact List.getElem_mem hlt
      obtain ⟨p0, p1⟩ := ptrOk_range (List.all_eq_true.1 Hall.out _ hmem)
      obtain ⟨ra, rc, rfl⟩ := hrd.shape
      have hLl : (l ++ leP (xs.take k)).length ≤ 998 := by rw [List.length_append, leP_length, List.length_take]; omega
      have hnx : l ++ leP (xs.take (k + 1)) = (l ++ leP (xs.take k)) ++ leN (xs.getD k 0) 2 := by rw [hts, leP_snoc, List.append_assoc]
      generalize l ++ leP (xs.take k) = LK at *
      have hpt : Calls Try.prog 74 #[.slice ra LK.length rc, .int .i64 2, .int .u64 (xs.getD k 0)] wr (BsQ (LK ++ leN (xs.getD k 0) 2) wr) := put_any wr _ LK 2 (xs.getD k 0) hrd (by omega) (by omega) p0 (by omega)
      rw [← hnx] at hpt
      have Hs := SL.hid hsat
      clear hts hmem hrd hown hsat hxr hnx hLl
      generalize xs.getD k 0 = p at *
      generalize hLN : l ++ leP (xs.take (k + 1)) = LN at *
      have HLN := SL.hid hLN
      clear hLN
      go_wp2_with fail
      (with_reducible refine hpt.mono ?_)
      rintro e w2 ⟨v2, rfl, h2, d2⟩
      have H2 := h2.under Hs.out
      obtain ⟨a2, c2, rfl⟩ := sl_shape H2
      have hfin : PutLRel v l xs w (.slice a2 LN.length c2) (.int .i64 ((k : Int) + 1)) w2 := ⟨k + 1, by omega, by go_num, by rw [HLN.out]; exact H2.rds, H2.right, fun _ => by rw [HLN.out]; exact H2, hside.trans d2⟩
      have Hfin := SL.hid hfin
      clear hpt h2 H2 hfin
      go_wp2_with fail
      go_roundw
      case rel => exact Hfin.out
      case measure => simp [intOf]; omega
    · obtain rfl : k = xs.length := by omega
      have H := hown (by omega)
      rw [List.take_length] at H hrd
      generalize l ++ leP xs = LK at *
      obtain ⟨ra, rc, rfl⟩ := hrd.shape
      clear hown hrd hsat
      go_wp2_with fail
      go_ret
      exact ⟨_, rfl, H, hside⟩
theorem info_node0 : (Try.prog.info? 48).map (·.size) = some 20 := by kernel_rfl
def BsOkQ (l : List UInt8) (w : World) (e : Ending) (w' : World) : Prop := ∃ v, e = .returned (.tuple #[v, .int .i64 0]) ∧ Sat w' (bs 5 v l * whole w) ∧ Side w w'
set_option maxRecDepth 100000 in
set_option maxHeartbeats 4000000 in
theorem encode_no (w : World) (n : Nd) (h16 : n.dr.length = 16) (hok : n.ok = false) :
    Calls Try.prog 59 #[n.v] w (Tells (.tuple #[.slice none 0 0, .int .i64 1]) w) := by
  have hA := (Sat.whole w).alloc (.cells (ints n.l) 48 (0, 0))
  have dA := (Side.refl w).alloc (.cells (ints n.l) 48 (0, 0))
  have hri := right_any (w.alloc (.cells (ints n.l) 48 (0, 0))) n h16
  have hrow : (w.alloc (.cells (ints n.l) 48 (0, 0))).rangeAt w.heap.size 0 (n.l.map (Value.int .i64)) := fun j v hv => by
    rw [Nat.zero_add, hA.cell, get_ints, ← List.getElem?_map]; exact hv
  have hinfo : (Try.prog.info? 48).map (·.size) = some (n.l.map (Value.int .i64)).length := by rw [List.length_map, Nd.cells h16]; exact info_node0
  rw [hok] at hri
  have Hrow := SL.hid hrow; have Hinfo := SL.hid hinfo
  clear hok hrow hinfo
  have hv : n.v = .agg (n.l.map (Value.int .i64)).toArray := rfl
  rw [hv] at hri ⊢
  have hi : ints n.l = (n.l.map (Value.int .i64)).toArray := rfl
  rw [hi] at hA dA hri Hrow
  generalize n.l.map (Value.int .i64) = X at *
  go_enter Try.func59, Try.ntmps59
  go_wp2_with (refine wpList_load_mid (by exact rfl) 48 (.tmp 1) (by exact rfl) w.heap.size 0 (by exact rfl) X _ (by with_reducible exact Hrow.out) Try.underlying48 rfl (by with_reducible exact Hinfo.out) ?_)
  (with_reducible refine hri.mono ?_)
  rintro e w2 ⟨rfl, h2, d2⟩
  have H2 := (h2.keepW hA).right
  clear hri h2 hA
  go_wp2
  go_ret2
  exact ⟨rfl, H2, dA.trans d2⟩
set_option maxRecDepth 100000 in
set_option maxHeartbeats 4000000 in
theorem encode_yes (w : World) (n : Nd) (h16 : n.dr.length = 16) (hok : n.ok = true) :
    Calls Try.prog 59 #[n.v] w (BsOkQ (encNd n) w) := by
  have hA := (Sat.whole w).alloc (.cells (ints n.l) 48 (0, 0))
  have dA := (Side.refl w).alloc (.cells (ints n.l) 48 (0, 0))
  have hri := right_any (w.alloc (.cells (ints n.l) 48 (0, 0))) n h16
  have hrow : (w.alloc (.cells (ints n.l) 48 (0, 0))).rangeAt w.heap.size 0 (n.l.map (Value.int .i64)) := fun j v hv => by
    rw [Nat.zero_add, hA.cell, get_ints, ← List.getElem?_map]; exact hv
  have hinfo : (Try.prog.info? 48).map (·.size) = some (n.l.map (Value.int .i64)).length := by rw [List.length_map, Nd.cells h16]; exact info_node0
  rw [hok] at hri
  have Hrow := SL.hid hrow; have Hinfo := SL.hid hinfo
  obtain ⟨f1, f2, f3, f4, f5, f6, f7, -, -⟩ := Nd.ok_facts hok
  obtain ⟨r0, r1⟩ := ptrOk_range f7
  have hk0 : 0 ≤ n.kd := by omega
  have hk1 : n.kd ≤ 2 := by omega
  clear hok hrow hinfo f1
  have hv : n.v = .agg (n.l.map (Value.int .i64)).toArray := rfl
  rw [hv] at hri ⊢
  have hi : ints n.l = (n.l.map (Value.int .i64)).toArray := rfl
  rw [hi] at hA dA hri Hrow
  have G : Hid (∀ (w' : World) (P : Assn), Sat w' (pt w.heap.size (.cells (n.l.map (Value.int .i64)).toArray 48 (0, 0)) * P) → w'.cell? ⟨w.heap.size, 0, none⟩ = some (.int .i64 n.kd) ∧ w'.cell? ⟨w.heap.size, 1, none⟩ = some (.int .i64 n.lk) ∧
      w'.cell? ⟨w.heap.size, 2, none⟩ = some (.int .i64 n.sz) ∧ w'.cell? ⟨w.heap.size, 19, none⟩ = some (.int .i64 n.rw) ∧ RdI w' (.slice (some ⟨w.heap.size, 3, none⟩) 16 16) n.dr) := SL.hid fun w' P h => by
    have h16' := RdI.row (xs := n.l) h 3 16 (by rw [Nd.cells h16]; decide) (by decide)
    rw [Nd.drop3 h16] at h16'
    exact ⟨h.cell 0, h.cell 1, h.cell 2, (h.cell 19).trans (Nd.at19 h16), h16'⟩
  clear hv hi
  generalize n.l.map (Value.int .i64) = X at *
  go_enter Try.func59, Try.ntmps59
  go_wp2_with (refine wpList_load_mid (by exact rfl) 48 (.tmp 1) (by exact rfl) w.heap.size 0 (by exact rfl) X _ (by with_reducible exact Hrow.out) Try.underlying48 rfl (by with_reducible exact Hinfo.out) ?_)
  (with_reducible refine hri.mono ?_)
  rintro e w2 ⟨rfl, h2, d2⟩
  have H2 := h2.keepW hA
  have D2 := dA.trans d2
  have He := SL.hid (show encNd n = padTo 480 ((((leN n.kd 1 ++ leN n.lk 2) ++ leN n.sz 4) ++ leP n.dr) ++ leP [n.rw]) from rfl)
  have c0 := (G.out _ _ H2).1
  have hp : Calls Try.prog 74 #[.slice none 0 0, .int .i64 1, .int .u64 n.kd] w2 (BsQ ([] ++ leN n.kd 1) w2) := put_any w2 _ [] 1 n.kd (H2.slNil 5 1).rds (by decide) (by decide) hk0 (by omega)
  rw [List.nil_append] at hp
  clear hri h2 hA Hrow
  go_wp2_with fail
  (with_reducible refine hp.mono ?_)
  rintro e w3 ⟨v3, rfl, h3, d3⟩
  have H3 := h3.under H2
  have D3 := D2.trans d3
  have c1 := (G.out _ _ H3.front2).2.1
  have l3 : Hid ((leN n.kd 1).length = 1) := SL.hid (leN_length _ _)
  generalize leN n.kd 1 = L3 at *
  have hp4 : Calls Try.prog 74 #[v3, .int .i64 2, .int .u64 n.lk] w3 (BsQ (L3 ++ leN n.lk 2) w3) := put_any w3 v3 L3 2 n.lk H3.rds (by have := l3.out; omega) (by decide) f2 (by omega)
  obtain ⟨a3, n3, rfl⟩ := sl_shape H3
  clear hp h3 d3 H2 D2 c0
  go_wp2_with fail
  (with_reducible refine hp4.mono ?_)
  rintro e w4 ⟨v4, rfl, h4, d4⟩
  have H4 := h4.under H3.right
  have D4 := D3.trans d4
  have c2 := (G.out _ _ H4.front2).2.2.1
  have l4 : Hid ((L3 ++ leN n.lk 2).length = 3) := SL.hid (by rw [List.length_append, leN_length, l3.out])
  generalize L3 ++ leN n.lk 2 = L4 at *
  have hp5 : Calls Try.prog 74 #[v4, .int .i64 4, .int .u64 n.sz] w4 (BsQ (L4 ++ leN n.sz 4) w4) := put_any w4 v4 L4 4 n.sz H4.rds (by have := l4.out; omega) (by decide) f4 (by omega)
  obtain ⟨a4, n4, rfl⟩ := sl_shape H4
  clear hp4 h4 d4 H3 D3 c1
  go_wp2_with fail
  (with_reducible refine hp5.mono ?_)
  rintro e w5 ⟨v5, rfl, h5, d5⟩
  have H5 := h5.under H4.right
  have D5 := D4.trans d5
  have l5 : Hid ((L4 ++ leN n.sz 4).length = 7) := SL.hid (by rw [List.length_append, leN_length, l4.out])
  generalize L4 ++ leN n.sz 4 = L5 at *
  have hp6 := putL_any w5 v5 _ L5 n.dr H5.rds (G.out _ _ H5.front2).2.2.2.2 (by omega) (by have := l5.out; omega) f6
  obtain ⟨a5, n5, rfl⟩ := sl_shape H5
  clear hp5 h5 d5 H4 D4 c2
  go_wp2_with fail
  (with_reducible refine hp6.mono ?_)
  rintro e w6 ⟨v6, rfl, h6, d6⟩
  have H6 := h6.under H5.right
  have D6 := D5.trans d6
  have c19 := (G.out _ _ H6.front2).2.2.2.1
  have l6 : Hid ((L5 ++ leP n.dr).length = 39) := SL.hid (by rw [List.length_append, leP_length, l5.out, h16])
  generalize L5 ++ leP n.dr = L6 at *
  obtain ⟨a6, n6, rfl⟩ := sl_shape H6
  have H7 := H6.alloc (.cells #[.int .i64 n.rw] 3 (0, 0))
  have D7 := D6.alloc (.cells #[.int .i64 n.rw] 3 (0, 0))
  have hp7 := putL_any (w6.alloc (.cells #[.int .i64 n.rw] 3 (0, 0))) (.slice a6 L6.length n6) (.slice (some ⟨w6.heap.size, 0, none⟩) 1 1) L6 [n.rw] H7.front2.rds (.inr ⟨_, 0, 1, rfl, Nat.le_refl 1, by decide, fun k hk => by
    have : k = 0 := by simpa using hk
    subst this; exact H7.cell 0⟩) (by simp) (by have := l6.out; simp; omega) (by simpa using f7)
  clear hp6 h6 d6 H5 D5
  go_wp2_with fail
  (with_reducible refine hp7.mono ?_)
  rintro e w8 ⟨v8, rfl, h8, d8⟩
  have H8 := h8.under H7.right.right.right
  have D8 := D7.trans d8
  have l8 : Hid ((L6 ++ leP [n.rw]).length = 41) := SL.hid (by rw [List.length_append, leP_length, l6.out]; rfl)
  generalize L6 ++ leP [n.rw] = L8 at *
  have hp9 : Calls Try.prog 76 #[v8, .int .i64 480] w8 (BsQ (padTo 480 L8) w8) := field_any w8 v8 L8 H8.rds 480 (by decide)
  obtain ⟨a8, n8, rfl⟩ := sl_shape H8
  clear hp7 h8 d8 H6 D6 H7 D7
  go_wp2_with fail
  (with_reducible refine hp9.mono ?_)
  rintro e w9 ⟨v9, rfl, h9, d9⟩
  have H9 := h9.under H8.right
  have D9 := D8.trans d9
  clear hp9 h9 d9 H8 D8
  obtain ⟨a9, n9, rfl⟩ := sl_shape H9
  go_wp2
  go_ret2
  exact ⟨_, rfl, by rw [He.out]; exact H9, D9⟩
theorem info_row : (Try.prog.info? 65).map (·.size) = some 240 := by kernel_rfl
set_option maxRecDepth 100000 in
set_option maxHeartbeats 4000000 in
theorem encodeRow_no (w : World) (l : List Int) (hl : l.length = 240) (hok : l.all ptrOk = false) :
    Calls Try.prog 60 #[.agg (ints l)] w (Tells (.tuple #[.slice none 0 0, .int .i64 1]) w) := by
  have hA := (Sat.whole w).alloc (.cells (ints l) 65 (0, 0))
  have dA := (Side.refl w).alloc (.cells (ints l) 65 (0, 0))
  have hrd := RdI.row hA 0 240 (by omega) (by decide)
  rw [List.drop_zero, List.take_of_length_le (by omega)] at hrd
  have hp := pointers_any _ _ l hrd (by omega)
  rw [hok] at hp
  clear hrd
  generalize ints l = X at *
  go_enter Try.func60, Try.ntmps60
  go_wp2_with fail
  (with_reducible refine hp.mono ?_)
  rintro e w2 ⟨rfl, rfl⟩
  clear hp
  go_wp2
  go_ret2
  exact ⟨rfl, hA.right, dA⟩
set_option maxRecDepth 100000 in
set_option maxHeartbeats 4000000 in
theorem encodeRow_yes (w : World) (l : List Int) (hl : l.length = 240) (hok : l.all ptrOk = true) :
    Calls Try.prog 60 #[.agg (ints l)] w (BsOkQ (leP l) w) := by
  have hA := (Sat.whole w).alloc (.cells (ints l) 65 (0, 0))
  have dA := (Side.refl w).alloc (.cells (ints l) 65 (0, 0))
  have hrd := RdI.row hA 0 240 (by omega) (by decide)
  rw [List.drop_zero, List.take_of_length_le (by omega)] at hrd
  have hp := pointers_any _ _ l hrd (by omega)
  rw [hok] at hp
  have hq := putL_any (w.alloc (.cells (ints l) 65 (0, 0))) (.slice none 0 0) _ [] l (hA.slNil 5 1).rds hrd (by omega) (by simp; omega) hok
  rw [List.nil_append] at hq
  clear hrd
  generalize ints l = X at *
  go_enter Try.func60, Try.ntmps60
  go_wp2_with fail
  (with_reducible refine hp.mono ?_)
  rintro e w2 ⟨rfl, rfl⟩
  clear hp
  go_wp2_with fail
  (with_reducible refine hq.mono ?_)
  rintro e w3 ⟨v3, rfl, h3, d3⟩
  have H3 := h3.under hA.right
  obtain ⟨a3, n3, rfl⟩ := sl_shape H3
  clear hq h3 hA
  go_wp2
  go_ret2
  exact ⟨_, rfl, H3, dA.trans d3⟩
end Go.Proofs.Ytaoohjeaaccnfaa.Fs

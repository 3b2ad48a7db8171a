/- octets: Number, Bytes, Left. -/
import Derived.Test.YtaoohjeaaccnfaaFa
namespace Go.SL
set_option linter.unusedVariables false
set_option linter.unusedSimpArgs false
open Go.RowKit
theorem Rd.at {w : World} {va : Option Addr} {n vc : Nat} {l : List UInt8} (h : Rd w (.slice va n vc) l) (h0 : 0 < l.length) : ∃ g o, va = some ⟨g, o, none⟩ ∧ ∀ i x, l[i]? = some x → w.cell? ⟨g, o + i, none⟩ = some (u8 x) := by
  rcases h.2 with ⟨hv, h9⟩ | ⟨a, c, hv, ha⟩
  · omega
  · cases hv
    obtain ⟨g, o, p⟩ := a
    have h1 := ha 0 (u8 l[0]) (by rw [List.getElem?_map, List.getElem?_eq_getElem h0]; rfl)
    have hp : p = none := by simpa [Addr.add] using World.cell?_spot h1
    subst hp
    refine ⟨g, o, rfl, fun i x hx => ?_⟩
    have := ha i (u8 x) (by rw [List.getElem?_map, hx]; rfl)
    rwa [Addr.add_lit] at this
end Go.SL
namespace Go.Proofs.Ytaoohjeaaccnfaa.Fs
set_option linter.unusedVariables false
set_option linter.unusedSimpArgs false
open Go.RowKit Go.SL Go.Proofs.Ytaoohjeaaccnfaa.Ba
theorem info_num : (Try.prog.info? 145).map (·.size) = some 2 := by kernel_rfl
theorem info_num2 (a b : Int) : (Try.prog.info? 145).map (·.size) = some (#[.int .u64 a, .int .u64 b] : Array Value).size := info_num
theorem num_one (a b : Int) : (#[.int .u64 a, .int .u64 b] : Array Value).all (·.oneCell') = true := by simp [Value.oneCell']
set_option maxRecDepth 100000 in
set_option maxHeartbeats 2000000 in
theorem with_any (w : World) (l : List UInt8) (j : Nat) (hj : j < l.length) (h8 : l.length ≤ 8) (x : UInt8) (hx : l[j]? = some x) :
    Calls Try.prog 98 #[.agg #[.int .u64 (leV l j), .int .u64 (8 * (j : Int))], u8 x] w (Tells (.agg #[.int .u64 (leV l (j + 1)), .int .u64 (8 * (j : Int) + 8)]) w) := by
  have hs := or_step8 l j (by omega)
  have hj8 : (j : Int) < 8 := by omega
  rw [hx, Option.getD_some] at hs
  have hA := ((Sat.whole w).alloc (.cells #[.int .u64 (leV l j), .int .u64 (8 * (j : Int))] 145 (0, 0))).alloc (.cells #[.int .u64 (leV l (j + 1)), .int .u64 (8 * (j : Int) + 8)] 145 (0, 0))
  have dA := ((Side.refl w).alloc (.cells #[.int .u64 (leV l j), .int .u64 (8 * (j : Int))] 145 (0, 0))).alloc (.cells #[.int .u64 (leV l (j + 1)), .int .u64 (8 * (j : Int) + 8)] 145 (0, 0))
  rw [World.size_alloc] at hA
  unfold u8
  have hx0 : 0 ≤ (x.toNat : Int) := by omega
  have hx1 : (x.toNat : Int) < 256 := by have := UInt8.toNat_lt x; omega
  generalize (x.toNat : Int) = c at *
  have e1 : IntKind.u64.wrap c = c := by rw [IntKind.wrap_u64]; omega
  rw [e1] at hs
  generalize leV l j = a at *
  generalize leV l (j + 1) = b at *
  go_enter Try.func98, Try.ntmps98
  go_wp2
  exact bodyPost_ret (results_cell_row rfl _ _ _ 145 _ (0, 0) _ rfl hA.heap Try.underlying145 rfl info_num) rfl ⟨rfl, hA.right.right, dA⟩
def TakeRel (l : List UInt8) (b : Nat) (w : World) (u8 : Value) (wr : World) : Prop :=
  ∃ j : Nat, j ≤ l.length ∧ u8 = .int .i64 (j : Int) ∧ Sat wr (pt b (.cells #[.int .u64 (leV l j), .int .u64 (8 * (j : Int))] 145 (0, 0)) * whole w) ∧ Side w wr
set_option maxRecDepth 100000 in
set_option maxHeartbeats 2000000 in
theorem takeN_any (w : World) (v : Value) (l : List UInt8) (hr : Rd w v l) (h8 : l.length ≤ 8) :
    Calls Try.prog 94 #[v] w (Tells (.int .u64 (leV l l.length)) w) := by
  obtain ⟨va, vc, rfl⟩ := hr.shape
  have Hr := SL.hid hr
  clear hr
  have hA := (Sat.whole w).alloc (.cells #[.int .u64 0, .int .u64 0] 145 (0, 0))
  have dA := (Side.refl w).alloc (.cells #[.int .u64 0, .int .u64 0] 145 (0, 0))
  have hln : (l.length : Int) ≤ 8 := by omega
  go_enter Try.func94, Try.ntmps94
  go_wp2_with fail
  generalize w.alloc (.cells #[.int .u64 0, .int .u64 0] 145 (0, 0)) = w1 at hA dA ⊢
  generalize w.heap.size = b at hA ⊢
  go_loopw [8] (fun u wr => TakeRel l b w u wr) (fun u _ => l.length - (intOf u).toNat)
  case atStart => exact ⟨0, Nat.zero_le _, rfl, hA, dA⟩
  case round =>
    clear hA dA
    obtain ⟨j, hj, rfl, hsat, hside⟩ := hrel
    have hRd : Rd wr (.slice va l.length vc) l := Hr.out.keep hsat
    have c0 : wr.cell? ⟨b, 0, none⟩ = some (.int .u64 (leV l j)) := hsat.cell 0
    have c1 : wr.cell? ⟨b, 1, none⟩ = some (.int .u64 (8 * (j : Int))) := hsat.cell 1
    by_cases hjl : j < l.length
    · have hjl' : (j : Int) < (l.length : Int) := by omega
      obtain ⟨x, hx⟩ : ∃ x, l[j]? = some x := ⟨_, List.getElem?_eq_getElem hjl⟩
      obtain ⟨g, o, rfl, hall⟩ := hRd.at (by omega)
      have hcell := hall j x hx
      clear hall
      have hwt := with_any wr l j hjl h8 x hx
      have hz : wr.heap[b]? = some (.cells #[.int .u64 (leV l j), .int .u64 (8 * (j : Int))] 145 (0, 0)) := hsat.heap
      unfold u8 at hcell hwt
      generalize (x.toNat : Int) = c at hcell hwt
      have Hs := SL.hid hsat
      clear hsat hRd hx
      go_wp2_with fail
      (with_reducible refine hwt.mono ?_)
      rintro e w2 ⟨rfl, h2, d2⟩
      have H2 := h2.keepW Hs.out
      have hz2 := H2.heap
      have H3 := H2.setRow (cs' := #[.int .u64 (leV l (j + 1)), .int .u64 (8 * (j : Int) + 8)])
      have HH3 := SL.hid H3
      clear h2 H2 H3 hz hwt
      go_wp2_with (refine wpList_store_row rfl 145 (.tmp 3) (.tmp 14) rfl b #[.int .u64 (leV l (j + 1)), .int .u64 (8 * (j : Int) + 8)] rfl rfl 145 #[.int .u64 (leV l j), .int .u64 (8 * (j : Int))] hz2 (info_num2 _ _) rfl (num_one _ _) ?_)
      go_roundw
      case rel => exact ⟨j + 1, by omega, by go_num, by have := HH3.out; rwa [show 8 * (j : Int) + 8 = 8 * ((j + 1 : Nat) : Int) by omega] at this, (hside.trans d2).setRow _ _⟩
      case measure => simp [intOf]; omega
    · obtain rfl : j = l.length := by omega
      go_wp2_with fail
      go_ret
      exact ⟨rfl, hsat.right, hside⟩
def NextQ (r g cap : Nat) (cur : Array Value) (L : List UInt8) (o n : Nat) (w : World) (F : Assn) (e : Ending) (w' : World) : Prop :=
  ∃ c, e = .returned (.tuple #[.slice (some ⟨g, o, none⟩) n c, .bool true]) ∧ Sat w' (readerA r g cap cur L (o + n) * F) ∧ Side w w'
set_option maxRecDepth 100000 in
set_option maxHeartbeats 2000000 in
theorem next_any (w : World) (r g cap : Nat) (cur : Array Value) (L : List UInt8) (o n : Nat) (F : Assn) (h : Sat w (readerA r g cap cur L o * F)) (ho : o < L.length) (hn : o + n ≤ L.length) (hl : L.length ≤ 1000000) :
    Calls Try.prog 93 #[ptV r, .int .i64 (n : Int)] w (NextQ r g cap cur L o n w F) := by
  obtain ⟨x, c, ⟨q1, q2, q3, q4, q5⟩, hxc, h1⟩ := reader_open h
  obtain ⟨rfl, rfl⟩ := hxc ho
  have c0 : w.cell? ⟨r, 0, none⟩ = some (.slice (some ⟨g, x, none⟩) (L.length - x) (cap - x)) := h1.cell 0
  have f0 : w.frozen? ⟨r, 0, none⟩ = false := h1.frozen 0
  have hset : ∀ y d, Sat (w.setCell ⟨r, 0, none⟩ (.slice (some ⟨g, y, none⟩) (L.length - x - n) d)) (pt r (.cells #[.slice (some ⟨g, y, none⟩) (L.length - x - n) d, .bool false] 138 (0, 0)) * (pt g (.cells cur 5 (0, 0)) * F)) := fun y d => by
    have := h1.setCell 0 (.slice (some ⟨g, y, none⟩) (L.length - x - n) d)
    simpa only [List.setIfInBounds_toArray, List.set_cons_zero] using this
  obtain ⟨m, hm⟩ : ∃ m, m = L.length - x := ⟨_, rfl⟩
  obtain ⟨k, hk⟩ : ∃ k, k = cap - x := ⟨_, rfl⟩
  rw [← hm, ← hk] at c0
  rw [← hm] at hset
  have hnm : (n : Int) ≤ (m : Int) := by omega
  have hmk : (m : Int) ≤ (k : Int) := by omega
  have hkk : (k : Int) ≤ 9223372036854775807 := by unfold maxLen at q2; omega
  have HM := SL.hid hm; have HK := SL.hid hk; have Hset := SL.hid hset
  clear hm hk hset h1 h hxc
  by_cases hnk : k = n
  · subst hnk
    have hkm : m = k := by omega
    subst hkm
    go_enter Try.func93, Try.ntmps93
    go_wp2
    go_ret2
    refine ⟨_, rfl, ?_, (Side.refl w).setCell _ _⟩
    refine reader_shut x 0 ⟨q1, q2, q3, q4, hn⟩ (fun h => ?_) ?_
    · have := HM.out; omega
    · have := Hset.out x 0
      have e : L.length - (x + m) = m - m := by have := HM.out; omega
      rw [e]; rw [Nat.sub_self] at this ⊢; exact this
  · go_enter Try.func93, Try.ntmps93
    go_wp2
    go_ret2
    refine ⟨_, rfl, ?_, (Side.refl w).setCell _ _⟩
    refine reader_shut (x + n) (k - n) ⟨q1, q2, q3, q4, hn⟩ (fun h => ⟨rfl, by have := HK.out; omega⟩) ?_
    have := Hset.out (x + n) (k - n)
    have e : L.length - (x + n) = m - n := by have := HM.out; omega
    rw [e]; exact this
theorem cur_rd {w : World} {g : Nat} {cur : Array Value} {L : List UInt8} {F : Assn} (h1 : Sat w (pt g (.cells cur 5 (0, 0)) * F)) (q4 : cur.toList.take L.length = L.map u8) (o n c : Nat) (hn : o + n ≤ L.length) : Rd w (.slice (some ⟨g, o, none⟩) n c) ((L.drop o).take n) := by
  have hl : ((L.drop o).take n).length = n := by rw [List.length_take, List.length_drop]; omega
  refine ⟨by simp, .inr ⟨⟨g, o, none⟩, c, by rw [hl], fun j u hu => ?_⟩⟩
  rw [Addr.add_lit, h1.cell]
  rw [List.getElem?_map, List.getElem?_take] at hu
  split at hu
  · rename_i hj
    rw [List.getElem?_drop] at hu
    rw [← Array.getElem?_toList]
    have : (cur.toList.take L.length)[o + j]? = cur.toList[o + j]? := by rw [List.getElem?_take, if_pos (by omega)]
    rw [← this, q4, List.getElem?_map]; exact hu
  · cases hu
theorem reader_rd {w : World} {r g cap : Nat} {cur : Array Value} {L : List UInt8} {o' : Nat} {F : Assn} (h : Sat w (readerA r g cap cur L o' * F)) (o n c : Nat) (hn : o + n ≤ L.length) : Rd w (.slice (some ⟨g, o, none⟩) n c) ((L.drop o).take n) :=
  have ⟨_, _, hf, _, h1⟩ := reader_open h
  cur_rd h1.front2 hf.2.2.2.1 o n c hn
theorem drop_rd {w : World} {r g cap : Nat} {cur : Array Value} {L : List UInt8} {o : Nat} {F : Assn} (h : Sat w (readerA r g cap cur L o * F)) : Sat w F := have ⟨_, _, _, _, h1⟩ := reader_open h; h1.right.right
def NumQ (r g cap : Nat) (cur : Array Value) (L : List UInt8) (o n : Nat) (w : World) (F : Assn) (e : Ending) (w' : World) : Prop :=
  e = .returned (.int .u64 (leV (L.drop o) n)) ∧ Sat w' (readerA r g cap cur L (o + n) * F) ∧ Side w w'
set_option maxRecDepth 100000 in
set_option maxHeartbeats 2000000 in
theorem number_any (w : World) (r g cap : Nat) (cur : Array Value) (L : List UInt8) (o n : Nat) (F : Assn) (h : Sat w (readerA r g cap cur L o * F)) (ho : o < L.length) (hn : o + n ≤ L.length) (h8 : n ≤ 8) (hl : L.length ≤ 1000000) :
    Calls Try.prog 80 #[ptV r, .int .i64 (n : Int)] w (NumQ r g cap cur L o n w F) := by
  have hwi := within_any w (n : Int) 8 (by omega) (by omega)
  have hnx := next_any w r g cap cur L o n F h ho hn hl
  clear h
  go_enter Try.func80, Try.ntmps80
  go_wp2_with fail
  (with_reducible refine hwi.mono ?_)
  rintro e w1 ⟨rfl, rfl⟩
  clear hwi
  go_wp2_with fail
  (with_reducible refine hnx.mono ?_)
  rintro e w2 ⟨c, rfl, h2, d2⟩
  have hlen : ((L.drop o).take n).length = n := by rw [List.length_take, List.length_drop]; omega
  have htk := takeN_any w2 (.slice (some ⟨g, o, none⟩) n c) ((L.drop o).take n) (reader_rd h2 o n c (by omega)) (by omega)
  rw [hlen, leV_take _ _ _ (Nat.le_refl _)] at htk
  clear hnx
  go_wp2_with fail
  (with_reducible refine htk.mono ?_)
  rintro e w3 ⟨rfl, h3, d3⟩
  have H3 := h3.keepW h2
  clear htk h2 h3 hlen
  go_wp2
  go_ret
  exact ⟨rfl, H3, d2.trans d3⟩
set_option maxRecDepth 100000 in
theorem left_any (w : World) (r g cap : Nat) (cur : Array Value) (L : List UInt8) (o : Nat) (F : Assn) (h : Sat w (readerA r g cap cur L o * F)) :
    Calls Try.prog 83 #[ptV r] w (IntIs ((L.length - o : Nat) : Int) w) := by
  obtain ⟨x, c, _, _, h1⟩ := reader_open h
  have c0 : w.cell? ⟨r, 0, none⟩ = some (.slice (some ⟨g, x, none⟩) (L.length - o) c) := h1.cell 0
  clear h h1
  generalize L.length - o = m at *
  go_enter Try.func83, Try.ntmps83
  go_wp2
  go_ret
  exact ⟨rfl, rfl⟩
def NextEQ (g o n : Nat) (w : World) (F : Assn) (L : List UInt8) (e : Ending) (w' : World) : Prop :=
  ∃ c, e = .returned (.tuple #[.slice (some ⟨g, o, none⟩) n c, .bool true]) ∧ Rd w' (.slice (some ⟨g, o, none⟩) n c) (L.drop o) ∧ Sat w' F ∧ Side w w'
set_option maxRecDepth 100000 in
set_option maxHeartbeats 2000000 in
theorem nextE_any (w : World) (r g cap : Nat) (cur : Array Value) (L : List UInt8) (o : Nat) (F : Assn) (h : Sat w (readerA r g cap cur L o * F)) (ho : o < L.length) (hl : L.length ≤ 1000000) :
    Calls Try.prog 93 #[ptV r, .int .i64 ((L.length - o : Nat) : Int)] w (NextEQ g o (L.length - o) w F L) := by
  refine (next_any w r g cap cur L o (L.length - o) F h ho (by omega) hl).mono ?_
  rintro e w2 ⟨c, rfl, h2, d2⟩
  have htk : (L.drop o).take (L.length - o) = L.drop o := List.take_of_length_le (by rw [List.length_drop]; exact Nat.le_refl _)
  have := reader_rd h2 o (L.length - o) c (by omega)
  rw [htk] at this
  exact ⟨c, rfl, this, drop_rd h2, d2⟩
set_option maxRecDepth 100000 in
set_option maxHeartbeats 2000000 in
theorem bytesE_any (w : World) (r g cap : Nat) (cur : Array Value) (L : List UInt8) (o : Nat) (F : Assn) (h : Sat w (readerA r g cap cur L o * F)) (ho : o < L.length) (hl : L.length ≤ 1000000) :
    Calls Try.prog 82 #[ptV r, .int .i64 ((L.length - o : Nat) : Int)] w fun e w' => ∃ v, e = .returned v ∧ Sat w' (bs 5 v (L.drop o) * F) ∧ Side w w' := by
  have hnx := nextE_any w r g cap cur L o F h ho hl
  have hlen : (L.drop o).length = L.length - o := List.length_drop
  have hm : ((L.length - o : Nat) : Int) ≤ 1000000 := by omega
  clear h
  generalize L.length - o = m at *
  go_enter Try.func82, Try.ntmps82
  go_wp2_with fail
  (with_reducible refine hnx.mono ?_)
  rintro e w2 ⟨c, rfl, hrd, h2, d2⟩
  have hN : Sat w2 (bs 5 (.slice none 0 0) [] * F) := h2.slNil _ _
  obtain ⟨v', w3, hrun, h3, d3, a3, c3, rfl⟩ := append_bytes hN hrd (by simp) (by omega)
  simp only [List.length_nil, Nat.zero_add, List.length_drop] at hrun h3
  have Hrun := SL.hid hrun
  have Hl := SL.hid hlen
  rw [List.nil_append] at h3
  clear hnx hrun h2 hrd hlen hN
  go_wp2_with (at_builtin; refine wpList_append_run Hrun.out _ _ rfl rfl rfl rfl rfl ?_)
  go_ret
  exact ⟨_, rfl, h3, d2.trans d3⟩
end Go.Proofs.Ytaoohjeaaccnfaa.Fs

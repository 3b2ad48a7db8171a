/- batch: New, Len, Err; a row's Read. -/
import Derived.Test.YtcgpegdnicnciaaW7
namespace Go.Proofs.Ytcgpegdnicnciaa
set_option linter.unusedVariables false
set_option linter.unusedSimpArgs false
open Go.RowKit Go.SL
def NewQ (rd : Value) (w : World) (e : Ending) (w' : World) : Prop := ∃ b, e = .returned (.pointer (some ⟨b, 0, none⟩)) ∧ (∀ S, Sat w' (batchA 54 5 S b rd 0 [] [] * whole w)) ∧ Side w w'
theorem batch_fresh {w : World} {b : Nat} {rd : Value} {F : Assn} (h : Sat w (pt b (.cells #[rd, .int .i64 0, .map none, .bool false, .map none, .bool false, .map none] 54 (0, 0)) * F)) (S : Hp) :
    Sat w (batchA 54 5 S b rd 0 [] [] * F) := by
  have e1 : ∀ {w : World} {F : Assn} (v : Bool), Sat w F → Sat w (bookA 5 S (.map none) v [] * F) := fun v h => (h.to (emp_star _).symm).weak fun k hk => by rw [hk]; exact bookA_nil _ _ _
  have e2 : ∀ {w : World} {F : Assn}, Sat w F → Sat w (askA (.map none) * F) := fun h => (h.to (emp_star _).symm).weak fun k hk => .inl ⟨rfl, hk⟩
  exact Sat.batchShut ⟨.map none, false, .map none, false, .map none⟩ ((e1 false (e1 false (e2 h))).to (by ac_rfl))
set_option maxRecDepth 100000 in
set_option maxHeartbeats 1000000 in
theorem new_any (w : World) (T : TypeId) (rv : Value) :
    Calls Try.prog 8 #[.iface T rv] w (NewQ (.iface T rv) w) := by
  go_enter Try.func8, Try.ntmps8
  go_wp2
  go_ret
  exact ⟨w.heap.size, rfl, fun S => batch_fresh ((Sat.whole w).alloc _) S, (Side.refl w).alloc _⟩
set_option maxRecDepth 100000 in
set_option maxHeartbeats 1000000 in
theorem err_any (w : World) (S : Hp) (b : Nat) (rd : Value) (err : Int) (W D : CB) (F : Assn)
    (h : Sat w (batchA 54 5 S b rd err W D * F)) :
    Calls Try.prog 14 #[.pointer (some ⟨b, 0, none⟩)] w fun e w' => e = .returned (.int .i64 err) ∧ w = w' := by
  obtain ⟨x, hx⟩ := h.batchOpen
  have hc1 : w.cell? ⟨b, 1, none⟩ = some (.int .i64 err) := hx.cell 1
  go_enter Try.func14, Try.ntmps14
  go_wp2
  go_ret
  exact ⟨rfl, rfl⟩
theorem run_lenM_nil {P : Program} {w : World} {t kt e : TypeId} (ht : P.underlying t = some (.map kt e)) (ty : TypeId) :
    (Builtin.len_ #[t] ty #[.map none]).run P w = .ok (.int .i64 0) w := by
  simp [Builtin.len_, run_underlying ht, goInt]
set_option maxRecDepth 100000 in
set_option maxHeartbeats 1000000 in
theorem len_any (w : World) (S : Hp) (b : Nat) (rd : Value) (err : Int) (W D : CB) (F : Assn)
    (h : Sat w (batchA 54 5 S b rd err W D * (pool S * F))) :
    Calls Try.prog 12 #[.pointer (some ⟨b, 0, none⟩)] w fun e w' => e = .returned (.int .i64 W.length) ∧ w = w' := by
  obtain ⟨x, hx⟩ := h.batchOpen
  have hc2 : w.cell? ⟨b, 2, none⟩ = some x.wv := hx.cell 2
  have hln : (Builtin.len_ #[49] 3 #[x.wv]).run Try.prog w = .ok (.int .i64 W.length) w := by
    obtain ⟨Z, z1, z2, z3, hrd, _⟩ := (hx.to (by ac_rfl : _ = bookA 5 S x.wv x.ws W * (pool S * (pt b (.cells (x.cells rd err) 54 (0, 0)) * (bookA 5 S x.tv x.ts D * (askA x.av * F)))))).bookCases
    have hlen : W.length = Z.length := by have := z1.length_eq; simpa using this.symm
    rcases hrd with ⟨hv, hz⟩ | ⟨m, o, hv, hb, hm⟩
    · have : Z = [] := by simpa using hz
      rw [hlen, hv, this, run_lenM_nil Try.underlying49]; rfl
    · rw [hlen, hv, run_lenM hb hm Try.underlying49]; simp
  clear hx h
  generalize x.wv = v at hc2 hln
  go_enter Try.func12, Try.ntmps12
  go_wp2
  go_ret
  exact ⟨rfl, rfl⟩
/-- Rows of bytes that lie apart. -/
def rowsR (v : Value) (gs : List (Nat × List UInt8)) : Assn := sl 31 1 v gs.length (rowVals gs) * rowsA 5 gs
theorem rowsA_get {T : TypeId} {w : World} {gs : List (Nat × List UInt8)} {F : Assn} (h : Sat w (rowsA T gs * F)) {i : Nat} {p : Nat × List UInt8} (hp : gs[i]? = some p) : w.heap[p.1]? = some (.cells (u8s p.2) T (0, 0)) := by
  induction gs generalizing i F with
  | nil => simp at hp
  | cons q gs ih =>
    have h' : Sat w (pt q.1 (.cells (u8s q.2) T (0, 0)) * (rowsA T gs * F)) := h.to (star_assoc _ _ _)
    cases i with
    | zero => simp at hp; subst hp; exact h'.heap
    | succ i => exact ih (h'.to (star_left_comm _ _ _)) (by simpa using hp)
theorem rd_row {T : TypeId} {w : World} {g : Nat} {l : List UInt8} {c : Nat} (h : w.heap[g]? = some (.cells (u8s l) T (0, 0))) : Rd w (.slice (some ⟨g, 0, none⟩) l.length c) l := by
  refine ⟨by simp, .inr ⟨_, _, rfl, ?_⟩⟩
  have := At_of_take (n := l.length) h
  rwa [show (u8s l).toList.take l.length = l.map u8 from by simp [u8s, List.take_of_length_le]] at this
/-- What rows answer. -/
def rowAns (gs : List (Nat × List UInt8)) (id : Int) : Int × List UInt8 := if 0 ≤ id then match gs[id.toNat]? with | some p => (0, p.2) | none => (1, []) else (1, [])
def allSmall (gs : List (Nat × List UInt8)) : Prop := ∀ p ∈ gs, small p.2
set_option maxRecDepth 100000 in
set_option maxHeartbeats 1000000 in
theorem rowsRead_any (w : World) (v : Value) (gs : List (Nat × List UInt8)) (id : Int) (F : Assn) (hs : allSmall gs) (hlen : gs.length ≤ 1000) (h : Sat w (rowsR v gs * F)) :
    Calls Try.prog 20 #[v, .int .i64 id] w (ReadAns (rowAns gs id) (rowsR v gs) F w) := by
  have h' : Sat w (sl 31 1 v gs.length (rowVals gs) * (rowsA 5 gs * F)) := h.to (star_assoc _ _ _)
  obtain ⟨a, k, rfl⟩ : ∃ a k, v = .slice a gs.length k := by
    rcases h'.slCases with ⟨rfl, hz, _⟩ | ⟨g, cap, cur, rfl, _⟩
    · exact ⟨none, 0, by rw [hz]⟩
    · exact ⟨_, _, rfl⟩
  by_cases h0 : 0 ≤ id
  · obtain ⟨i, rfl⟩ := Int.eq_ofNat_of_zero_le h0
    by_cases hi : i < gs.length
    · have hi' : (i : Int) < (gs.length : Int) := by omega
      have hp : gs[i]? = some gs[i] := List.getElem?_eq_getElem hi
      have hA : rowAns gs i = (0, gs[i].2) := by simp [rowAns, hp]
      rw [hA]
      have hrow : w.heap[gs[i].1]? = _ := rowsA_get (h'.to (star_left_comm _ _ _)) hp
      have hcell : ∃ g, a = some ⟨g, 0, none⟩ ∧ w.cell? ⟨g, i, none⟩ = some (.slice (some ⟨gs[i].1, 0, none⟩) gs[i].2.length gs[i].2.length) := by
        rcases h'.rds.2 with ⟨hv, hz⟩ | ⟨a', c', hv, hat⟩
        · omega
        · cases hv
          rcases h'.slCases with ⟨hv, _⟩ | ⟨g, cap, cur, hv, _⟩
          · cases hv
          · cases hv
            refine ⟨g, rfl, ?_⟩
            have := hat i (.slice (some ⟨gs[i].1, 0, none⟩) gs[i].2.length gs[i].2.length) (by simp [rowVals, hi])
            rwa [Addr.add_lit, Nat.zero_add] at this
      obtain ⟨g, rfl, hc⟩ := hcell
      have hr := SL.hid (rd_row (c := gs[i].2.length) hrow)
      have hbg : Hid (gs[i].2.length ≤ 1000000000) := Nat.le_trans (hs _ (List.getElem_mem hi)) (by decide)
      clear hrow hp hA hs
      generalize hn : gs[i].2.length = n at hc hr
      clear hn
      have hlt : ¬ ((i : Int) < 0) := by omega
      go_enter Try.func20, Try.ntmps20
      go_wp2_with (go_at_call 22; refine (clone_any _ _ gs[i].2 hr.out hbg).mono ?_; rintro e w1 ⟨v1, rfl, hs1, hd1⟩)
      go_ret2
      exact ⟨v1, rfl, (hs1.under h).ansOf, hd1⟩
    · have hi' : ¬ (i : Int) < (gs.length : Int) := by omega
      have hA : rowAns gs i = (1, []) := by simp [rowAns, List.getElem?_eq_none (Nat.le_of_not_lt hi)]
      rw [hA]
      have hlt : ¬ ((i : Int) < 0) := by omega
      clear hA hs
      go_enter Try.func20, Try.ntmps20
      go_wp2
      go_ret2
      exact ⟨_, rfl, h.ansNil (by decide), Side.refl w⟩
  · have hA : rowAns gs id = (1, []) := by simp [rowAns, h0]
    rw [hA]
    have h0' : id < 0 := by omega
    clear hA hs h0
    go_enter Try.func20, Try.ntmps20
    go_wp2
    go_ret2
    exact ⟨_, rfl, h.ansNil (by decide), Side.refl w⟩
end Go.Proofs.Ytcgpegdnicnciaa

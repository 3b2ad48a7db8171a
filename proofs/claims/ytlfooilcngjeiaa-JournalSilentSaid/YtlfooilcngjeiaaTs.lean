/- tag: setters; numbers out of bytes. -/
import Derived.Test.YtlfooilcngjeiaaTn
namespace Go.SL
set_option linter.unusedVariables false
set_option linter.unusedSimpArgs false
open Go.RowKit
def Tg.zero : Tg := ⟨0, 0, 0, 0, 0, 0, 0⟩
def Tg.set (t : Tg) (n : Int) : Nat → Tg
  | 1 => { t with ep := n % 4294967296 }
  | 2 => { t with sq := n }
  | 3 => { t with fl := n }
  | 4 => { t with st := n }
  | 5 => { t with ix := wrap64 n }
  | 6 => { t with ct := wrap64 n }
  | 7 => { t with id := wrap64 n }
  | _ => t
/-- The number of the first j bytes, the lowest first. -/
def leV (l : List UInt8) : Nat → Int
  | 0 => 0
  | j + 1 => leV l j + ((l.getD j 0).toNat : Int) * (256 : Int) ^ j
theorem leV_range (l : List UInt8) (j : Nat) : 0 ≤ leV l j ∧ leV l j < (256 : Int) ^ j := by
  induction j with
  | zero => simp [leV]
  | succ j ih =>
    have h1 : ((l.getD j 0).toNat : Int) < 256 := by have := UInt8.toNat_lt (l.getD j 0); omega
    have h0 : 0 ≤ ((l.getD j 0).toNat : Int) := by omega
    have hp : 0 < (256 : Int) ^ j := Int.pow_pos (by decide)
    rw [leV, Int.pow_succ]
    generalize ((l.getD j 0).toNat : Int) = x at *
    generalize (256 : Int) ^ j = p at *
    have h2 : 0 ≤ x * p := Int.mul_nonneg h0 (by omega)
    have h3 : x * p ≤ 255 * p := Int.mul_le_mul_of_nonneg_right (by omega) (by omega)
    omega
def offN (k : Nat) : Nat := ((List.range k).map fsize).sum
theorem offN_succ (k : Nat) : offN (k + 1) = offN k + fsize k := by simp [offN, List.range_succ]
def decT (l : List UInt8) : Nat → Tg
  | 0 => Tg.zero
  | k + 1 => (decT l k).set (leV (l.drop (offN k)) (fsize k)) k
end Go.SL
namespace Go.Proofs.Ytlfooilcngjeiaa
set_option linter.unusedVariables false
set_option linter.unusedSimpArgs false
open Go.RowKit Go.SL
def SetQ (b : Nat) (t : Tg) (F : Assn) (w : World) (e : Ending) (w' : World) : Prop := e = .returned (.tuple #[]) ∧ Sat w' (pt b (.cells t.cells 74 (0, 0)) * F) ∧ Side w w'
theorem setX (b : Nat) (n : Int) (t : Tg) (w : World) (F : Assn) (h : Sat w (pt b (.cells t.cells 74 (0, 0)) * F)) :
    Calls Try.prog 107 #[ptV b, .int .u64 n] w (SetQ b t F w) := by
  go_enter Try.func107, Try.ntmps107
  go_wp2
  go_end0
  exact ⟨rfl, h, Side.refl w⟩
theorem setE (b : Nat) (n : Int) (t : Tg) (w : World) (F : Assn) (h : Sat w (pt b (.cells t.cells 74 (0, 0)) * F)) :
    Calls Try.prog 88 #[ptV b, .int .u64 n] w (SetQ b (t.set n 1) F w) := by
  have hc : w.cell? ⟨b, 0, none⟩ = some (.int .u32 t.ep) := h.cell 0
  have hf := h.frozen 0
  have h2 := h.setCell 0 (.int .u32 (n % 4294967296))
  have H2 := SL.hid h2
  clear h h2
  go_enter Try.func88, Try.ntmps88
  go_wp2
  go_end0
  exact ⟨rfl, H2.out, (Side.refl w).setCell _ _⟩
theorem setL (b c f o : Nat) (n v : Int) (t t' : Tg) (w : World) (F : Assn) (h : Sat w (pt c (.cells #[fnV f #[]] 170 (0, 0)) * (pt b (.cells t.cells 74 (0, 0)) * F))) (hen : ∀ args w, (callFunc f args).run Try.prog w = .ok (.enter f args) w)
    (hat : ∀ (b : Nat) (w : World), Calls Try.prog f #[ptV b] w fun e w' => e = .returned (.pointer (some ⟨b, o, none⟩)) ∧ w = w') (ho : t.cells[o]? = some (.int .u64 v)) (ht : t.cells.setIfInBounds o (.int .u64 n) = t'.cells) :
    Calls Try.prog 109 #[ptV b, .int .u64 n, ptV c] w (SetQ b t' (pt c (.cells #[fnV f #[]] 170 (0, 0)) * F) w) := by
  have hc : w.cell? ⟨c, 0, none⟩ = some (fnV f #[]) := h.cell 0
  have hco := (h.front2.cell o).trans ho
  have hf := h.front2.frozen o
  have h2 := h.front2.setCell o (.int .u64 n)
  rw [ht] at h2
  clear h ho ht
  go_enter Try.func109, Try.ntmps109
  go_wp2_with fail
  refine (hat _ _).mono ?_
  rintro e w1 ⟨rfl, rfl⟩
  go_wp2
  go_end0
  exact ⟨rfl, h2, (Side.refl w).setCell _ _⟩
theorem setS (b c f o : Nat) (n v : Int) (t t' : Tg) (w : World) (F : Assn) (h : Sat w (pt c (.cells #[fnV f #[]] 173 (0, 0)) * (pt b (.cells t.cells 74 (0, 0)) * F))) (hen : ∀ args w, (callFunc f args).run Try.prog w = .ok (.enter f args) w)
    (hat : ∀ (b : Nat) (w : World), Calls Try.prog f #[ptV b] w fun e w' => e = .returned (.pointer (some ⟨b, o, none⟩)) ∧ w = w') (ho : t.cells[o]? = some (.int .i64 v)) (ht : t.cells.setIfInBounds o (.int .i64 (wrap64 n)) = t'.cells) :
    Calls Try.prog 111 #[ptV b, .int .u64 n, ptV c] w (SetQ b t' (pt c (.cells #[fnV f #[]] 173 (0, 0)) * F) w) := by
  have hc : w.cell? ⟨c, 0, none⟩ = some (fnV f #[]) := h.cell 0
  have hco := (h.front2.cell o).trans ho
  have hf := h.front2.frozen o
  have h2 := h.front2.setCell o (.int .i64 (wrap64 n))
  rw [ht] at h2
  clear h ho ht
  go_enter Try.func111, Try.ntmps111
  go_wp2_with fail
  refine (hat _ _).mono ?_
  rintro e w1 ⟨rfl, rfl⟩
  go_wp2
  go_end0
  exact ⟨rfl, h2, (Side.refl w).setCell _ _⟩
/-- A setter's contract. -/
theorem set_k (fb : Fb) (b : Nat) (t : Tg) (n : Int) (k : Nat) (hk : k < 9) :
    ∃ f caps, fset fb k = (f, caps) ∧ (∀ args w, (callFunc f args).run Try.prog w = .ok (.enter f args) w) ∧
      ∀ w F, Sat w (fieldsA fb * (pt b (.cells t.cells 74 (0, 0)) * F)) → Calls Try.prog f (#[ptV b, .int .u64 n] ++ caps) w (SetQ b (t.set n k) (fieldsA fb * F) w) := by
  have fin : ∀ {t' : Tg} {R F : Assn} {w : World} {e : Ending} {w' : World} {c : Nat} {o : Obj}, SetQ b t' (pt c o * R) w e w' → (pt b (.cells t'.cells 74 (0, 0)) * (pt c o * R) = pt b (.cells t'.cells 74 (0, 0)) * (fieldsA fb * F)) → SetQ b t' (fieldsA fb * F) w e w' :=
    fun ⟨h1, h2, h3⟩ e => ⟨h1, h2.to e, h3⟩
  match k, hk with
  | 0, _ => exact ⟨_, _, rfl, en_x2, fun w F h => setX b n t w _ h.front2⟩
  | 1, _ => exact ⟨_, _, rfl, en_f2, fun w F h => setE b n t w _ h.front2⟩
  | 2, _ => exact ⟨_, _, rfl, en_l2, fun w F h => (setL b fb.b2 _ 2 n _ t (t.set n 2) w _ ((fieldsO h).front2.front9.front2) en_f3 at3 rfl rfl).mono fun _ _ q => fin q (by unfold fieldsA; ac_rfl)⟩
  | 3, _ => exact ⟨_, _, rfl, en_l2, fun w F h => (setL b fb.b3 _ 3 n _ t (t.set n 3) w _ ((fieldsO h).front3.front9.front2) en_f4 at4 rfl rfl).mono fun _ _ q => fin q (by unfold fieldsA; ac_rfl)⟩
  | 4, _ => exact ⟨_, _, rfl, en_l2, fun w F h => (setL b fb.b4 _ 1 n _ t (t.set n 4) w _ ((fieldsO h).front4.front9.front2) en_f5 at5 rfl rfl).mono fun _ _ q => fin q (by unfold fieldsA; ac_rfl)⟩
  | 5, _ => exact ⟨_, _, rfl, en_s2, fun w F h => (setS b fb.b5 _ 4 n _ t (t.set n 5) w _ ((fieldsO h).front5.front9.front2) en_f6 at6 rfl rfl).mono fun _ _ q => fin q (by unfold fieldsA; ac_rfl)⟩
  | 6, _ => exact ⟨_, _, rfl, en_s2, fun w F h => (setS b fb.b6 _ 5 n _ t (t.set n 6) w _ ((fieldsO h).front6.front9.front2) en_f7 at7 rfl rfl).mono fun _ _ q => fin q (by unfold fieldsA; ac_rfl)⟩
  | 7, _ => exact ⟨_, _, rfl, en_s2, fun w F h => (setS b fb.b7 _ 6 n _ t (t.set n 7) w _ ((fieldsO h).front7.front9.front2) en_f8 at8 rfl rfl).mono fun _ _ q => fin q (by unfold fieldsA; ac_rfl)⟩
  | 8, _ => exact ⟨_, _, rfl, en_x2, fun w F h => setX b n t w _ h.front2⟩
end Go.Proofs.Ytlfooilcngjeiaa

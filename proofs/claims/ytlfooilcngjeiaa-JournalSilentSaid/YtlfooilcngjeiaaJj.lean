/- journal: live (what it hands over). -/
import Derived.Test.YtlfooilcngjeiaaJi
namespace Go.Proofs.Ytlfooilcngjeiaa
set_option linter.unusedVariables false
set_option linter.unusedSimpArgs false
open Go.RowKit Go.SL
/-- The wide fence knows no depth. -/
theorem roundIn_any {P : Program} {l fn : Nat} {tmps : Array Value} {assign body : Code} {w : World} {R : Ending → World → Prop} {n m : Nat} (h : RoundIn Fence.wide n P l fn tmps assign body w R) : RoundIn Fence.wide m P l fn tmps assign body w R :=
  ⟨h.1, fun c cs _ => h.2 c cs (room_wide _)⟩
theorem roundIn_round {P : Program} {l k fn : Nat} {tmps : Array Value} {assign body : Code} {w : World} {R : Ending → World → Prop} {n m : Nat} (h : RoundIn Fence.wide n P l fn tmps assign body w R) : RoundIn (Fence.wide.inRound k) m P l fn tmps assign body w R :=
  roundIn_any (n := n) h
/-- wpIn_range, where a round's slots are made of the caller's. -/
theorem wpIn_range_s {F : Fence} {n : Nat} {P : Program} {α : Type} {C : (List α → Assn) → Prop} {g : Operand} {ps : Array Tmp} {assign body : Code} {Q : Exit → Act → World → Prop} {a : Act} {w w0 : World}
    (hro : F.round = none) (h1 : 1 ≤ n) {gf : Nat} {lb : Array Value} (hg : a.eval g = .func (.func gf) #[] lb) (hFg : F.fn gf) (eg : ∀ args w, (callFunc gf args).run P w = .ok (.enter gf args) w)
    {It : Assn} {T : α → Array Value → Assn} {S Sp : List α → Prop} (hit : IteratesC C F (n - 1) P gf lb It T S Sp)
    (f : α → Array Value → Array Value) (A : List α → Assn) (hC : ∀ X, C fun ys => A ys * X) (Ax : Code → List α → Assn) (B : List α → α → Assn) (G : Assn)
    (hps : ∀ x vs Fr W, Sat W (T x vs * Fr) → vs.size = ps.size) (hs : Side w0 w) (h0 : Sat w (A [] * (It * G)))
    (hassign : ∀ (l : Nat) (r : Loop) (pre : List α) (x : α) (vs : Array Value) (Fr : Assn) (W : World) (K : Act → World → Prop), Sp (pre ++ [x]) → Side w0 W → Sat W (A pre * (T x vs * (pt l (.loop r) * Fr))) →
      (∀ W', Side w0 W' → Sat W' (B pre x * (pt l (.loop r) * Fr)) → K { tmps := f x a.tmps, defers := [] } W') →
      assign.wpIn (F.inRound l) (n - 1 - 1) P (Exit.then K (fun _ _ _ => False)) { tmps := (ps.zip vs).foldl (fun t (p, v) => t.setIfInBounds p v) a.tmps, defers := [] } W)
    (hbody : ∀ (l : Nat) (r : Loop) (pre : List α) (x : α) (Fr : Assn) (W : World), Sp (pre ++ [x]) → Side w0 W → Sat W (B pre x * (pt l (.loop r) * Fr)) →
      body.wpIn (F.inRound l) (n - 1 - 1) P (roundS w0 A Ax (pre ++ [x]) (pt l (.loop r) * Fr)) { tmps := f x a.tmps, defers := [] } W)
    (hdone : ∀ (D : Nat) (ys : List α) (W : World), S ys → Side w0 W → Sat W (A ys * (It * (pt D (.deferred (some [])) * G))) →
      Q .normal { a with defers := { target := .collected D, args := #[] } :: a.defers } W)
    (hstop : ∀ (D : Nat) (c : Code) (ys : List α) (W : World), Sp ys → Side w0 W → Sat W (Ax c ys * (It * (pt D (.deferred (some [])) * G))) →
      c.wpIn F n P Q { a with defers := { target := .collected D, args := #[] } :: a.defers } W) :
    (Code.rangeFunc g ps assign body).wpIn F n P Q a w := by
  refine wpIn_rangeC hro h1 hg hFg eg hit A hC Ax (fun pre x a' => fact (a' = { tmps := f x a.tmps, defers := [] }) * B pre x) G hps hs h0 ?_ ?_ hdone hstop
  · intro l r pre x vs Fr W K hsp hsd H hK
    exact hassign l r pre x vs Fr W K hsp hsd H fun W' h1 h2 => hK _ W' h1 ((Sat.fact_iff.2 ⟨rfl, h2⟩ : Sat W' (fact _ * _)).to (star_assoc _ _ _).symm)
  · intro l r pre x a' Fr W hsp hsd H
    obtain ⟨rfl, H2⟩ := Sat.fact_iff.1 (H.to (star_assoc _ _ _))
    exact hbody l r pre x Fr W hsp hsd H2
def LiveFQ (p : Value) (n : Int) (w : World) (e : Ending) (w' : World) : Prop :=
  e = .returned (.func (.func 97) #[] #[.pointer (some ⟨w.heap.size, 0, none⟩), .pointer (some ⟨w.heap.size + 1, 0, none⟩)]) ∧
    w' = (w.alloc (.cells #[p] 36 (0, 0))).alloc (.cells #[.int .i64 n] 3 (0, 0))
theorem live_any (w : World) (j : Nat) (n : Int) : Calls Try.prog 76 #[ptV j, .int .i64 n] w (LiveFQ (ptV j) n w) := by
  go_enter Try.func76, Try.ntmps76
  go_wp2
  go_ret
  exact ⟨rfl, rfl⟩
/-- The places from the tail on that are live, each with its block. -/
def ownersN (T : Tb) (P first k : Nat) : List (Int × Int) := ((List.range k).map fun i => (first + i) % P).filterMap fun p : Nat => (told T.os (p : Int)).map fun id => (id, (p : Int))
theorem ownersN_succ (T : Tb) (P first k : Nat) : ownersN T P first (k + 1) = ownersN T P first k ++ (match told T.os (((first + k) % P : Nat) : Int) with | some id => [(id, (((first + k) % P : Nat) : Int))] | none => []) := by
  unfold ownersN
  rw [List.range_succ, List.map_append, List.filterMap_append]
  congr 1
  cases h : told T.os (((first + k) % P : Nat) : Int) with
  | none => simp only [List.map_cons, List.map_nil, List.filterMap_cons, h, Option.map_none, List.filterMap_nil]
  | some id => simp only [List.map_cons, List.map_nil, List.filterMap_cons, h, Option.map_some, List.filterMap_nil]
theorem ownersN_prefix (T : Tb) (P first : Nat) {k n : Nat} (h : k ≤ n) : ownersN T P first k <+: ownersN T P first n := by
  obtain ⟨m, rfl⟩ := Nat.le.dest h
  clear h
  induction m with
  | zero => exact List.prefix_refl _
  | succ m ih => rw [show k + (m + 1) = (k + m) + 1 by omega, ownersN_succ]; exact ih.trans (List.prefix_append _ _)
end Go.Proofs.Ytlfooilcngjeiaa

/- Steps towards the statement StoreC. -/
import Derived.Test.YtdafdidmbeecfaaGreatDoorStoreCP25
import Derived.Lib.AppendZeros
section
namespace Go.Proofs.YtdafdidmbeecfaaGreatDoor
set_option linter.unusedVariables false
set_option linter.unusedSimpArgs false
open Go.RowKit Go.SL
attribute [local go_sem] Oper.semAt_some
theorem info_write2 : (Tryz.prog.info? 57).map (fun i => (i.zero, i.size, i.bytes)) = some (some (.agg #[.int .i64 0, .slice none 0 0]), 2, 32) := by kernel_rfl
def MovesQ (S : Hp) (j d r t m : Nat) (own : KV) (R : Mv) (F : Assn) (w : World) (e : Ending) (w' : World) : Prop :=
 ∃ (S' : Hp) (v : Value) (Z : Zs), Ext S S' ∧ e = .returned (.tuple #[v, .int .i64 R.1.1]) ∧ Z.map (fun z => (z.1, z.2.2)) = R.1.2 ∧ (∀ z ∈ Z, Val 5 S' z.2.1 z.2.2) ∧
  Sat w' (jrX j d r t R.2.1 * (devA S' d R.2.2 * (pool S' * (sl 57 2 v Z.length (SL.flatW Z) * (mp m own * F))))) ∧ Side w w'
def MovesA (S : Hp) (d m bl bj bo b6 b7 j : Nat) (own : KV) (J : Jr) (D : Dev) (F : Assn) (ys : List (Int × Int)) : Assn := ex fun q : Hp × Value × Zs =>
 fact (Ext S q.1 ∧ (J.moves D own ys).1.1 = 0 ∧ q.2.2.map (fun z => (z.1, z.2.2)) = (J.moves D own ys).1.2 ∧ ∀ z ∈ q.2.2, Val 5 q.1 z.2.1 z.2.2) *
  (pt bl (.cells #[q.2.1] 46 (0, 0)) * (sl 57 2 q.2.1 q.2.2.length (SL.flatW q.2.2) * (devA q.1 d (J.moves D own ys).2.2 * (pool q.1 *
   (pt bj (.cells #[ptV j] 40 (0, 0)) * (pt bo (.cells #[.map (some m)] 100 (0, 0)) * (pt b6 (.cells #[.slice none 0 0] 46 (0, 0)) * (pt b7 (.cells #[.int .i64 0] 25 (0, 0)) * (mp m own * F)))))))))
def MovesX (S : Hp) (j d r t m b6 b7 : Nat) (own : KV) (J : Jr) (D : Dev) (F : Assn) (ys : List (Int × Int)) : Assn := ex fun S' : Hp =>
 fact (Ext S S' ∧ (J.moves D own ys).1.1 ≠ 0 ∧ (J.moves D own ys).1.2 = []) * (jrX j d r t (J.moves D own ys).2.1 * (pt b6 (.cells #[.slice none 0 0] 46 (0, 0)) * (pt b7 (.cells #[.int .i64 (J.moves D own ys).1.1] 25 (0, 0)) * (devA S' d (J.moves D own ys).2.2 * (pool S' * (mp m own * F))))))
theorem movesA_open {S : Hp} {d m bl bj bo b6 b7 j : Nat} {own : KV} {J : Jr} {D : Dev} {F G : Assn} {ys : List (Int × Int)} {w : World} (h : Sat w (MovesA S d m bl bj bo b6 b7 j own J D F ys * G)) :
  ∃ (S' : Hp) (v : Value) (Z : Zs), Ext S S' ∧ (J.moves D own ys).1.1 = 0 ∧ Z.map (fun z => (z.1, z.2.2)) = (J.moves D own ys).1.2 ∧ (∀ z ∈ Z, Val 5 S' z.2.1 z.2.2) ∧
   Sat w (pt bl (.cells #[v] 46 (0, 0)) * (sl 57 2 v Z.length (SL.flatW Z) * (devA S' d (J.moves D own ys).2.2 * (pool S' *
   (pt bj (.cells #[ptV j] 40 (0, 0)) * (pt bo (.cells #[.map (some m)] 100 (0, 0)) * (pt b6 (.cells #[.slice none 0 0] 46 (0, 0)) * (pt b7 (.cells #[.int .i64 0] 25 (0, 0)) * (mp m own * (F * G)))))))))) := by
 obtain ⟨q, h⟩ := Sat.ex_star_iff.1 h
 obtain ⟨⟨h1, h2, h3, h4⟩, h5⟩ := Sat.fact_iff.1 (h.to (star_assoc _ _ _))
 exact ⟨q.1, q.2.1, q.2.2, h1, h2, h3, h4, h5.to (by ac_rfl)⟩
theorem movesA_shut {S S' : Hp} {d m bl bj bo b6 b7 j : Nat} {own : KV} {J : Jr} {D : Dev} {F G : Assn} {ys : List (Int × Int)} {w : World} {v : Value} {Z : Zs} (h1 : Ext S S') (h2 : (J.moves D own ys).1.1 = 0)
  (h3 : Z.map (fun z => (z.1, z.2.2)) = (J.moves D own ys).1.2) (h4 : ∀ z ∈ Z, Val 5 S' z.2.1 z.2.2)
  (h : Sat w (pt bl (.cells #[v] 46 (0, 0)) * (sl 57 2 v Z.length (SL.flatW Z) * (devA S' d (J.moves D own ys).2.2 * (pool S' *
   (pt bj (.cells #[ptV j] 40 (0, 0)) * (pt bo (.cells #[.map (some m)] 100 (0, 0)) * (pt b6 (.cells #[.slice none 0 0] 46 (0, 0)) * (pt b7 (.cells #[.int .i64 0] 25 (0, 0)) * (mp m own * (F * G))))))))))) : Sat w (MovesA S d m bl bj bo b6 b7 j own J D F ys * G) :=
 by
 unfold MovesA
 exact Sat.ex_star_iff.2 ⟨(S', v, Z), (Sat.fact_iff.2 ⟨⟨h1, h2, h3, h4⟩, h⟩ : Sat w (fact (_ ∧ _ ∧ _ ∧ _) * _)).to (by ac_rfl)⟩
theorem movesX_shut {S S' : Hp} {j d r t m b6 b7 : Nat} {own : KV} {J : Jr} {D : Dev} {F G : Assn} {ys : List (Int × Int)} {w : World} (h1 : Ext S S') (h2 : (J.moves D own ys).1.1 ≠ 0) (h3 : (J.moves D own ys).1.2 = [])
  (h : Sat w (jrX j d r t (J.moves D own ys).2.1 * (pt b6 (.cells #[.slice none 0 0] 46 (0, 0)) * (pt b7 (.cells #[.int .i64 (J.moves D own ys).1.1] 25 (0, 0)) * (devA S' d (J.moves D own ys).2.2 * (pool S' * (mp m own * (F * G)))))))) :
  Sat w (MovesX S j d r t m b6 b7 own J D F ys * G) :=
 by
 unfold MovesX
 exact Sat.ex_star_iff.2 ⟨S', (Sat.fact_iff.2 ⟨⟨h1, h2, h3⟩, h⟩ : Sat w (fact (_ ∧ _ ∧ _) * _)).to (by ac_rfl)⟩
theorem moves_results {tmps : Array Value} {w : World} {b6 b7 : Nat} {v u : Value} (h6 : tmps[6]? = some (.pointer (some ⟨b6, 0, none⟩))) (h7 : tmps[7]? = some (.pointer (some ⟨b7, 0, none⟩))) (c6 : w.cell? ⟨b6, 0, none⟩ = some v) (c7 : w.cell? ⟨b7, 0, none⟩ = some u) :
  (results Tryz.f55 tmps).run Tryz.prog w = .ok (.tuple #[v, u]) w := by
 simp [results, Tryz.results55, go_sem, h6, h7, c6, c7]
theorem flatW_snoc (Z : Zs) (z : Int × Value × List UInt8) : SL.flatW (Z ++ [z]) = SL.flatW Z ++ [.int .i64 z.1, z.2.1] := by simp [SL.flatW]
set_option maxRecDepth 100000 in
set_option maxHeartbeats 4000000 in
theorem moves_anyX (w : World) (S : Hp) (j d r t m : Nat) (J : Jr) (D : Dev) (own : KV) (n : Nat) (F : Assn) (h : Sat w (jrX j d r t J * (devA S d D * (pool S * (mp m own * F))))) (hJ : J.Ok) (hD : D.Ok) (hn : n ≤ J.P) :
  Calls Tryz.prog 55 #[ptV j, .int .i64 (n : Int), .map (some m)] w (MovesQ S j d r t m own (J.moves D own (ownersN J.T J.P (Jr.tail J) n)) F w) := by
 obtain ⟨i0, hi, hz, hs0, hb0⟩ := info_parts info_write2
 refine (callsIn_wide (n := 9)).1 ?_
 refine callsIn_of_wp_marks Tryz.func55 rfl trivial ?_ rfl
 simp only [Tryz.ntmps55, List.size_toArray, List.length_cons, List.length_nil, Nat.reduceAdd, Nat.reduceSub, Array.replicate_succ, Array.replicate_zero, List.push_toArray, List.append_toArray, List.nil_append, List.cons_append]
 have h1 := ((((h.alloc (.cells #[ptV j] 40 (0, 0))).alloc (.cells #[.map (some m)] 100 (0, 0))).alloc (.cells #[.slice none 0 0] 46 (0, 0))).alloc (.cells #[.int .i64 0] 25 (0, 0))).alloc (.cells #[.slice none 0 0] 46 (0, 0))
 have d1 := (((((Side.refl w).alloc (.cells #[ptV j] 40 (0, 0))).alloc (.cells #[.map (some m)] 100 (0, 0))).alloc (.cells #[.slice none 0 0] 46 (0, 0))).alloc (.cells #[.int .i64 0] 25 (0, 0))).alloc (.cells #[.slice none 0 0] 46 (0, 0))
 simp only [World.size_alloc] at h1
 gi_wp2_with fail
 generalize ((((w.alloc (.cells #[ptV j] 40 (0, 0))).alloc (.cells #[.map (some m)] 100 (0, 0))).alloc (.cells #[.slice none 0 0] 46 (0, 0))).alloc (.cells #[.int .i64 0] 25 (0, 0))).alloc (.cells #[.slice none 0 0] 46 (0, 0)) = w1 at h1 d1 ⊢
 generalize w.heap.size + 1 + 1 + 1 + 1 = bl at h1 ⊢
 generalize w.heap.size + 1 + 1 + 1 = b7 at h1 ⊢
 generalize w.heap.size + 1 + 1 = b6 at h1 ⊢
 generalize w.heap.size + 1 = bo at h1 ⊢
 generalize w.heap.size = bj at h1 ⊢
 refine callV (live_any w1 j (n : Int)) ?_
 rintro e w2 ⟨rfl, rfl⟩
 have h2 := (h1.alloc (.cells #[ptV j] 40 (0, 0))).alloc (.cells #[.int .i64 (n : Int)] 3 (0, 0))
 have d2 := (d1.alloc (.cells #[ptV j] 40 (0, 0))).alloc (.cells #[.int .i64 (n : Int)] 3 (0, 0))
 simp only [World.size_alloc] at h2
 gi_wp2_with fail
 generalize (w1.alloc (.cells #[ptV j] 40 (0, 0))).alloc (.cells #[.int .i64 (n : Int)] 3 (0, 0)) = w2 at h2 d2 ⊢
 generalize w1.heap.size + 1 = cn at h2 ⊢
 generalize w1.heap.size = cj at h2 ⊢
 clear h1 d1 h
 have hE : Sat w2 ((jrX j d r t J * MovesA S d m bl bj bo b6 b7 j own J D F []) * (LiveIt cj cn j n * emp)) := by
  have h3 := h2.slNil 57 2
  have h4 : Sat w2 (MovesA S d m bl bj bo b6 b7 j own J D F [] * (LiveIt cj cn j n * jrX j d r t J)) := movesA_shut (S' := S) (v := .slice none 0 0) (Z := []) (Ext.refl S) rfl rfl (by simp)
   (h3.to (by unfold LiveIt; simp only [Jr.moves, List.foldl_nil, List.length_nil, SL.flatW, List.flatMap_nil]; ac_rfl))
  exact h4.to (by rw [star_emp]; ac_rfl)
 clear h2
 refine wpIn_range_s (w0 := w) rfl (by decide) (gf := 101) (lb := #[.pointer (some ⟨cj, 0, none⟩), .pointer (some ⟨cn, 0, none⟩)]) rfl trivial (enters Tryz.func101 (by kernel_rfl) rfl)
  (live_iter _ cj cn j d r t J n hJ hn)
  (fun x tt => (((tt.setIfInBounds 18 (.int .i64 x.1)).setIfInBounds 19 (.int .i64 x.2)).setIfInBounds 9 (.int .i64 x.1)).setIfInBounds 10 (.int .i64 x.2))
  (fun ys => jrX j d r t J * MovesA S d m bl bj bo b6 b7 j own J D F ys) (fun X => withR_star (withR_mk _ _) X)
  (fun c ys => fact (c = .ret) * MovesX S j d r t m b6 b7 own J D F ys)
  (fun pre x => jrX j d r t J * MovesA S d m bl bj bo b6 b7 j own J D F pre) emp ?hps d2 hE ?assign ?body ?done ?stop
 case hps =>
  intro x vs Fr W h
  unfold pairT at h
  obtain ⟨rfl, _⟩ := Sat.fact_iff.1 h
  rfl
 case assign =>
  intro l rr pre x vs Fr W K _ hsd H hK
  have H1 := H.front2
  unfold pairT at H1
  obtain ⟨rfl, H2⟩ := Sat.fact_iff.1 H1
  clear H H1
  gi_wp2
  exact hK _ hsd H2
 case done =>
  intro D2 ys W hS hsd H
  subst hS
  obtain ⟨S', v, Z, hE1, h0, hZ, hV, H2⟩ := movesA_open (H.to (by ac_rfl) : Sat W (MovesA S d m bl bj bo b6 b7 j own J D F (ownersN J.T J.P (Jr.tail J) n) * (jrX j d r t J * (LiveIt cj cn j n * (pt D2 (.deferred (some [])) * emp)))))
  have kl : W.cell? ⟨bl, 0, none⟩ = some v := H2.cell 0
  have k6 : W.cell? ⟨b6, 0, none⟩ = some (.slice none 0 0) := H2.front7.cell 0
  have f6 : W.frozen? ⟨b6, 0, none⟩ = false := H2.front7.frozen 0
  have H3 := (H2.front7.setCell 0 v).front8
  have k7 : (W.setCell ⟨b6, 0, none⟩ v).cell? ⟨b7, 0, none⟩ = some (.int .i64 0) := H3.cell 0
  have f7 : (W.setCell ⟨b6, 0, none⟩ v).frozen? ⟨b7, 0, none⟩ = false := H3.frozen 0
  have H4 := H3.setCell 0 (.int .i64 0)
  have d4 := (hsd.setCell ⟨b6, 0, none⟩ v).setCell ⟨b7, 0, none⟩ (.int .i64 0)
  obtain ⟨va, vc, rfl⟩ := sl_shape H2.front2
  have hj := Jr.moves_ok h0
  generalize J.moves D own (ownersN J.T J.P (Jr.tail J) n) = R at *
  obtain ⟨⟨rc, rl⟩, J', D'⟩ := R
  simp only at h0 hj hZ
  subst h0 hj
  have HH := SL.hid H4
  clear H H2 H3 H4 hE d2
  have HD := SL.hid d4
  clear d4
  gi_wp2
  generalize (W.setCell ⟨b6, 0, none⟩ (.slice va Z.length vc)).setCell ⟨b7, 0, none⟩ (.int .i64 0) = W3 at HH HD ⊢
  have H5 : Sat W3 (pt D2 (.deferred (some [])) * (pt b6 (.cells #[.slice va Z.length vc] 46 (0, 0)) * (pt b7 (.cells #[.int .i64 0] 25 (0, 0)) * (jrX j d r t J' * (devA S' d D' * (pool S' * (sl 57 2 (.slice va Z.length vc) Z.length (SL.flatW Z) * (mp m own * F)))))))) := by
   have h := HH.out
   simp only [List.setIfInBounds_toArray, List.set_cons_zero] at h
   exact (h.to (by ac_rfl : _ = (pt bl (.cells #[.slice va Z.length vc] 46 (0, 0)) * (pt bj (.cells #[ptV j] 40 (0, 0)) * (pt bo (.cells #[.map (some m)] 100 (0, 0)) * (LiveIt cj cn j n * emp)))) * (pt D2 (.deferred (some [])) * (pt b6 (.cells #[.slice va Z.length vc] 46 (0, 0)) * (pt b7 (.cells #[.int .i64 0] 25 (0, 0)) * (jrX j d r t J' * (devA S' d D' * (pool S' * (sl 57 2 (.slice va Z.length vc) Z.length (SL.flatW Z) * (mp m own * F)))))))))).right
  have hK := H5.heap
  have H6 := (H5.putObj (.deferred none)).right
  refine ⟨by simp, .inl ⟨_, _, rfl, run_takeDeferred hK, ?_⟩⟩
  exact ⟨_, moves_results rfl rfl (H6.cell 0) (H6.front2.cell 0), S', _, Z, hE1, rfl, hZ, hV, H6.right.right, HD.out.putObj _ _⟩
 case stop =>
  intro D2 c ys W hSp hsd H0
  obtain ⟨rfl, H⟩ := Sat.fact_iff.1 (H0.to (star_assoc _ _ _))
  obtain ⟨S', H1⟩ := Sat.ex_star_iff.1 H
  obtain ⟨⟨hE1, h0, hnil⟩, H2⟩ := Sat.fact_iff.1 (H1.to (star_assoc _ _ _))
  have hst := Jr.moves_stop h0 hSp
  have H3 : Sat W (pt D2 (.deferred (some [])) * (pt b6 (.cells #[.slice none 0 0] 46 (0, 0)) * (pt b7 (.cells #[.int .i64 (J.moves D own ys).1.1] 25 (0, 0)) * (jrX j d r t (J.moves D own ys).2.1 * (devA S' d (J.moves D own ys).2.2 * (pool S' * (mp m own * F))))))) :=
   (H2.to (by ac_rfl : _ = (LiveIt cj cn j n * emp) * (pt D2 (.deferred (some [])) * (pt b6 (.cells #[.slice none 0 0] 46 (0, 0)) * (pt b7 (.cells #[.int .i64 (J.moves D own ys).1.1] 25 (0, 0)) * (jrX j d r t (J.moves D own ys).2.1 * (devA S' d (J.moves D own ys).2.2 * (pool S' * (mp m own * F))))))))).right
  rw [hst]
  have hK := H3.heap
  have H4 := (H3.putObj (.deferred none)).right
  have H5 := H4.right.right.slNil 57 2
  have HD := SL.hid (hsd.putObj D2 (.deferred none))
  have HN := SL.hid hnil
  have H4' := SL.hid H4; have H5' := SL.hid H5
  generalize J.moves D own ys = R at *
  clear H0 H H1 H2 H3 H4 H5 hE d2 hst h0 hnil
  gi_wp2
  refine ⟨by simp, .inl ⟨_, _, rfl, run_takeDeferred hK, ?_⟩⟩
  exact ⟨_, moves_results rfl rfl (H4'.out.cell 0) (H4'.out.front2.cell 0), S', .slice none 0 0, [], hE1, rfl, by rw [HN.out]; rfl, by simp, H5'.out.to (by ac_rfl), HD.out⟩
 case body =>
  intro l rr pre x Fr W hSp hsd H
  obtain ⟨id, p⟩ := x
  obtain ⟨S', v, Z, hE1, h0, hZ, hV, H2⟩ := movesA_open (H.to (by ac_rfl) : Sat W (MovesA S d m bl bj bo b6 b7 j own J D F pre * (jrX j d r t J * (pt l (.loop rr) * Fr))))
  have hst := J.moves_snoc D own pre (id, p)
  unfold Jr.moveStep at hst
  rw [if_neg (by simpa using h0), Jr.moves_ok h0] at hst
  dsimp only at hst
  have hln : Z.length ≤ n := by
   have h1 := hSp.length_le
   have h2 := ownersN_len J.T J.P (Jr.tail J) n
   have h3 := Jr.moves_len (J := J) (D := D) (own := own) pre
   rw [← hZ, List.length_map] at h3
   simp only [List.length_append, List.length_cons, List.length_nil] at h1
   omega
  have hP := hJ.p1
  have hDk : (J.moves D own pre).2.2.Ok := (J.moves_keeps hD own pre).ok hD (by have := hD.many; omega)
  have kj : W.cell? ⟨bj, 0, none⟩ = some (ptV j) := H2.front5.cell 0
  have ko : W.cell? ⟨bo, 0, none⟩ = some (.map (some m)) := H2.front6.cell 0
  have hlk := Sat.lookup (P := Tryz.prog) Tryz.underlying100 Tryz.underlying3 (z := .int .i64 0) (by kernel_rfl) H2.front9 id true
  simp only [List.setIfInBounds_toArray, List.set_cons_succ, List.set_cons_zero]
  cases hk : kget own id with
  | some q =>
   rw [hk] at hst hlk
   simp only [Option.isSome_some, if_true, Option.getD_some] at hst hlk
   have H3 : Sat W ((jrX j d r t J * MovesA S d m bl bj bo b6 b7 j own J D F (pre ++ [(id, p)])) * (pt l (.loop rr) * Fr)) := by
    have := movesA_shut (S := S) (S' := S') (own := own) (J := J) (D := D) (ys := pre ++ [(id, p)]) (F := F) (G := jrX j d r t J * (pt l (.loop rr) * Fr)) (v := v) (Z := Z) hE1 (by rw [hst]; exact h0) (by rw [hst]; exact hZ) hV (by rw [hst]; exact H2)
    exact this.to (by ac_rfl)
   have H3' := SL.hid H3
   clear H H2 H3 hst hk hSp hE d2
   gi_wp2
   exact ⟨hsd, H3'.out⟩
  | none =>
   rw [hk] at hst hlk
   simp only [Option.isSome_none, if_true, Option.getD_none, if_neg Bool.false_ne_true] at hst hlk
   have hl := load_anyX W S' j d r t J (J.moves D own pre).2.2 id p _ (H2.to (by ac_rfl : _ = jrX j d r t J * (devA S' d (J.moves D own pre).2.2 * (pool S' * (pt bl (.cells #[v] 46 (0, 0)) * (sl 57 2 v Z.length (SL.flatW Z) * 
    (pt bj (.cells #[ptV j] 40 (0, 0)) * (pt bo (.cells #[.map (some m)] 100 (0, 0)) * (pt b6 (.cells #[.slice none 0 0] 46 (0, 0)) * (pt b7 (.cells #[.int .i64 0] 25 (0, 0)) * (mp m own * (F * (pt l (.loop rr) * Fr))))))))))))) hJ hDk
   have hl0 := load_len (J := J) (D := (J.moves D own pre).2.2) (id := id) (p := p)
   have hlo := Jr.load_ok (J := J) (D := (J.moves D own pre).2.2) (id := id) (p := p)
   have hln' : Z.length + 1 ≤ 20001 := by omega
   generalize hR : J.load (J.moves D own pre).2.2 id p = R at hl hst hl0 hlo
   obtain ⟨⟨rc, rl⟩, J', D'⟩ := R
   dsimp only at hl hst hl0 hlo
   have Hst := SL.hid hst; have Hl0 := SL.hid hl0; have Hlo := SL.hid hlo; have HZ := SL.hid hZ; have HV := SL.hid hV; have HE1 := SL.hid hE1
   clear H H2 hst hk hSp hE d2 hR hl0 hlo hZ hV hE1 hDk h0
   gi_wp2_with fail
   refine callRV hl ?_
   rintro e w3 ⟨dv, rfl, h3, d3⟩
   clear hl kj ko hlk
   by_cases hrc : rc = 0
   ·subst hrc
    obtain rfl := Hlo.out rfl
    have hst := Hst.out
    rw [if_pos rfl] at hst
    have h480 := Hl0.out rfl
    obtain ⟨S3, hE3, hV3, h4⟩ := Sat.poolBs (h3.ansYes.to (by ac_rfl : _ = pool S' * (bs 5 dv rl * (pt bl (.cells #[v] 46 (0, 0)) * (sl 57 2 v Z.length (SL.flatW Z) * (jrX j d r t J' * (devA S' d D' * 
     (pt bj (.cells #[ptV j] 40 (0, 0)) * (pt bo (.cells #[.map (some m)] 100 (0, 0)) * (pt b6 (.cells #[.slice none 0 0] 46 (0, 0)) * (pt b7 (.cells #[.int .i64 0] 25 (0, 0)) * (mp m own * (F * (pt l (.loop rr) * Fr)))))))))))))) (by unfold small; omega)
    obtain ⟨da, dc, rfl⟩ : ∃ da dc, dv = .slice da rl.length dc := by
     rcases hV3.2 with ⟨rfl, h0⟩ | ⟨g, cap, cur, rfl, _⟩
     ·exact ⟨_, _, by rw [h0]; rfl⟩
     ·exact ⟨_, _, rfl⟩
    have h5 : Sat w3 (sl 57 2 v Z.length (SL.flatW Z) * (pt bl (.cells #[v] 46 (0, 0)) * (devA S3 d D' * (pool S3 * (pt bj (.cells #[ptV j] 40 (0, 0)) * (pt bo (.cells #[.map (some m)] 100 (0, 0)) * (pt b6 (.cells #[.slice none 0 0] 46 (0, 0)) * (pt b7 (.cells #[.int .i64 0] 25 (0, 0)) * (mp m own * (F * (jrX j d r t J' * (pt l (.loop rr) * Fr)))))))))))) :=
     ((h4.to (by ac_rfl : _ = devA S' d D' * (sl 57 2 v Z.length (SL.flatW Z) * (pt bl (.cells #[v] 46 (0, 0)) * (pool S3 * (pt bj (.cells #[ptV j] 40 (0, 0)) * (pt bo (.cells #[.map (some m)] 100 (0, 0)) * (pt b6 (.cells #[.slice none 0 0] 46 (0, 0)) * (pt b7 (.cells #[.int .i64 0] 25 (0, 0)) * (mp m own * (F * (jrX j d r t J' * (pt l (.loop rr) * Fr))))))))))))).weak (devA_mono hE3)).to (by ac_rfl)
    have hcell : w3.cell? ⟨bl, 0, none⟩ = some v := h5.front2.cell 0
    have hfr := h5.front2.frozen 0
    have hA2 := h5.alloc (.cells #[.int .i64 id, .slice da rl.length dc] 57 (0, 0))
    have hRr : Rds (w3.alloc (.cells #[.int .i64 id, .slice da rl.length dc] 57 (0, 0))) 2 (.slice (some ⟨w3.heap.size, 0, none⟩) 1 1) 1 [.int .i64 id, .slice da rl.length dc] :=
     ⟨rfl, .inr ⟨_, _, rfl, fun j u hu => by
      rw [Addr.add_lit, Nat.zero_add]
      exact (hA2.cell j).trans (by simpa using hu)⟩⟩
    obtain ⟨v', w', hrun, hsat', hside'⟩ := Sat.append (P := Tryz.prog) (ty := 46) Tryz.underlying46 hi hz hs0 hb0 rfl hA2.right hRr (by simp [Value.oneCell']) (by unfold maxLen; omega) (by omega)
    obtain ⟨aa, ac, rfl⟩ := sl_shape hsat'
    obtain ⟨wa, wc, rfl⟩ := sl_shape h5
    have hcell' := hsat'.front2.cell 0
    have hfr' := hsat'.front2.frozen 0
    have hset := hsat'.front2.setCell 0 (.slice aa (Z.length + 1) ac)
    have D5 := (((hsd.trans d3).alloc (.cells #[.int .i64 id, .slice da rl.length dc] 57 (0, 0))).trans hside').setCell ⟨bl, 0, none⟩ (.slice aa (Z.length + 1) ac)
    have H6 := movesA_shut (S := S) (S' := S3) (d := d) (m := m) (bl := bl) (bj := bj) (bo := bo) (b6 := b6) (b7 := b7) (j := j) (own := own) (J := J') (D := D) (ys := pre ++ [(id, p)]) (F := F) (G := jrX j d r t J' * (pt l (.loop rr) * Fr)) (v := .slice aa (Z.length + 1) ac) (Z := Z ++ [(id, .slice da rl.length dc, rl)]) (HE1.out.trans hE3) (by rw [hst])
     (by rw [hst, List.map_append, HZ.out]; rfl) (fun z hz => by
      rcases List.mem_append.1 hz with hz | hz
      ·exact (HV.out z hz).mono hE3
      ·rw [List.mem_singleton.1 hz]; exact hV3) (by
      rw [hst]
      refine hset.to ?_
      simp only [List.setIfInBounds_toArray, List.set_cons_zero, flatW_snoc, List.length_append, List.length_cons, List.length_nil, Nat.zero_add])
    have Hrun := SL.hid hrun; have H6' := SL.hid H6; have D5' := SL.hid D5
    clear hrun hRr hA2 hi hz hs0 hb0 h4 h5 hsat' hset H6 D5 hst h480 hV3 hE3 h3 hside' Hst Hl0 Hlo d3
    gi_wp2_with (gi_at_builtin; refine wpListIn_append_run Hrun.out _ _ rfl rfl rfl rfl rfl ?_)
    exact ⟨D5'.out, H6'.out.to (by ac_rfl)⟩
   ·have hst := Hst.out
    rw [if_neg hrc] at hst
    have h4 := (h3.ansNo hrc).2
    obtain rfl := (h3.ansNo hrc).1
    have hrb : (rc == 0) = false := by simpa using hrc
    have k6 : w3.cell? ⟨b6, 0, none⟩ = some (.slice none 0 0) := h4.front8.cell 0
    have f6 : w3.frozen? ⟨b6, 0, none⟩ = false := h4.front8.frozen 0
    have H7 := (h4.front8.setCell 0 (.slice none 0 0)).front9
    have k7 : (w3.setCell ⟨b6, 0, none⟩ (.slice none 0 0)).cell? ⟨b7, 0, none⟩ = some (.int .i64 0) := H7.cell 0
    have f7 : (w3.setCell ⟨b6, 0, none⟩ (.slice none 0 0)).frozen? ⟨b7, 0, none⟩ = false := H7.frozen 0
    have H8 := H7.setCell 0 (.int .i64 rc)
    simp only [List.setIfInBounds_toArray, List.set_cons_zero] at H8
    have D5 := ((hsd.trans d3).setCell ⟨b6, 0, none⟩ (.slice none 0 0)).setCell ⟨b7, 0, none⟩ (.int .i64 rc)
    have H6 := movesX_shut (S := S) (S' := S') (j := j) (d := d) (r := r) (t := t) (m := m) (b6 := b6) (b7 := b7) (own := own) (J := J) (D := D) (ys := pre ++ [(id, p)]) (F := F) (G := pt l (.loop rr) * Fr) HE1.out (by rw [hst]; exact hrc) (by rw [hst]) (by
     rw [hst]
     exact (H8.to (by ac_rfl : _ = (pt bl (.cells #[v] 46 (0, 0)) * (sl 57 2 v Z.length (SL.flatW Z) * (pt bj (.cells #[ptV j] 40 (0, 0)) * pt bo (.cells #[.map (some m)] 100 (0, 0))))) * (jrX j d r t J' * (pt b6 (.cells #[.slice none 0 0] 46 (0, 0)) * (pt b7 (.cells #[.int .i64 rc] 25 (0, 0)) * (devA S' d D' * (pool S' * (mp m own * (F * (pt l (.loop rr) * Fr)))))))))).right)
    have H6' := SL.hid H6; have D5' := SL.hid D5
    clear hi hz hs0 hb0 h3 h4 H7 H8 H6 D5 hst Hst Hl0 Hlo hrc d3
    gi_wp2
    exact ⟨D5'.out, (Sat.fact_iff.2 ⟨rfl, H6'.out⟩ : Sat _ (fact (Code.ret = Code.ret) * _)).to (star_assoc _ _ _).symm⟩
end Go.Proofs.YtdafdidmbeecfaaGreatDoor
namespace Go.Proofs.YtdafdidmbeecfaaGreatDoor
set_option linter.unusedVariables false
set_option linter.unusedSimpArgs false
open Go.RowKit Go.SL
def GrowQ (w : World) (e : Ending) (w' : World) : Prop := ∃ v, e = .returned v ∧ Sat w' (sl 57 2 v 0 [] * whole w) ∧ Side w w'
set_option maxRecDepth 100000 in
theorem grow_any (w : World) (n : Nat) (hn : n ≤ 1000000) : Calls Tryz.prog 80 #[.slice none 0 0, .int .i64 (n : Int)] w (GrowQ w) := by
 obtain ⟨i0, hi, hz, hs0, hb0⟩ := info_parts info_write2
 by_cases h0 : n = 0
 ·subst h0
  go_enter Tryz.func80, Tryz.ntmps80
  go_wp2
  go_ret
  exact ⟨_, rfl, (Sat.whole w).slNil _ _, Side.refl w⟩
 ·have happ := fun w => Lib.run_append_nil_zeros (P := Tryz.prog) w 46 3 46 57 i0 _ .i64 .i64 Tryz.underlying46 Tryz.underlying3 hi hz n (by omega) (by rw [hs0]; decide) (by omega) (by rw [hb0]; omega)
  have hge := grownCap_ge w n 0 57
  have hle := grownCap_le_maxLen w n 0 57 (by unfold maxLen; omega)
  have happ := happ w
  generalize hcap : grownCap w n 0 57 = cap at happ hge hle
  generalize hZ : Builtin.zeroCells (Value.agg #[.int .i64 0, .slice none 0 0]).cells n ++ Builtin.zeroCells (Value.agg #[.int .i64 0, .slice none 0 0]).cells (cap - n) = Zc at happ
  have hZs : Zc.size = cap * 2 := by rw [← hZ]; simp [size_zeroCells, Value.cells]; omega
  have hfin : Sat (w.drew.alloc (.cells Zc 57)) (sl 57 2 (.slice (some ⟨w.heap.size, 0, none⟩) 0 cap) 0 [] * whole w) := by
   have h1 := ((Sat.whole w).drew.alloc (.cells Zc 57 (0, 0))).slOf (n := 0) (sz := 2) (by omega) hle hZs
   simpa using h1
  have dfin := (Side.refl w).drew.alloc (.cells Zc 57 (0, 0))
  have h0' : (0 : Int) < (n : Int) := by omega
  have hn' : (n : Int) ≤ 1000000 := by omega
  have HF := SL.hid hfin; have DF := SL.hid dfin
  clear hcap hZ hZs hfin dfin hi hz hs0 hb0 h0 hge
  go_enter Tryz.func80, Tryz.ntmps80
  go_wp2_with (at_builtin; refine Lib.wpList_append_run _ rfl _ _ _ _ rfl _ _ rfl rfl _ _ happ ?_)
  go_ret
  exact ⟨_, rfl, HF.out, DF.out⟩
def upto {α : Type} (k : Nat) (x y z : α) : α := if k = 0 then x else if k = 1 then y else z
def ConcatQ (n : Nat) (xs : List Value) (w : World) (e : Ending) (w' : World) : Prop := ∃ v, e = .returned v ∧ Sat w' (sl 57 2 v n xs * whole w) ∧ Side w w'
def ConcatRel (n m : Nat) (xs ys : List Value) (w : World) (u i : Value) (wr : World) : Prop :=
 ∃ k : Nat, k ≤ 2 ∧ i = .int .i64 (k : Int) ∧ Sat wr (sl 57 2 u (upto k 0 n (n + m)) (upto k [] xs (xs ++ ys)) * whole w) ∧ Side w wr
set_option maxRecDepth 100000 in
set_option maxHeartbeats 1000000 in
theorem concat_any (w : World) (g n m : Nat) (a1 a2 : Option Addr) (c1 c2 : Nat) (xs ys : List Value) (h0 : w.cell? ⟨g, 0, none⟩ = some (.slice a1 n c1)) (h1 : w.cell? ⟨g, 1, none⟩ = some (.slice a2 m c2))
  (hx : Rds w 2 (.slice a1 n c1) n xs) (hy : Rds w 2 (.slice a2 m c2) m ys) (ox : ∀ u ∈ xs, u.oneCell' = true) (oy : ∀ u ∈ ys, u.oneCell' = true) (hn : n ≤ 500000) (hm : m ≤ 500000) :
  Calls Tryz.prog 56 #[.slice (some ⟨g, 0, none⟩) 2 2] w (ConcatQ (n + m) (xs ++ ys) w) := by
 obtain ⟨i0, hi, hz, hs0, hb0⟩ := info_parts info_write2
 have hgr := grow_any w (n + m) (by omega)
 rw [show ((n + m : Nat) : Int) = (n : Int) + (m : Int) by omega] at hgr
 have hn' : (n : Int) ≤ 500000 := by omega
 have hm' : (m : Int) ≤ 500000 := by omega
 have HX := SL.hid hx; have HY := SL.hid hy; have OX := SL.hid ox; have OY := SL.hid oy; have HI := SL.hid hi; have HZ := SL.hid hz; have HS0 := SL.hid hs0; have HB0 := SL.hid hb0
 clear hx hy ox oy hi hz hs0 hb0
 go_enter Tryz.func56, Tryz.ntmps56
 go_wp2_with fail
 go_loop [3, 11] (fun u i => ∃ k : Nat, k ≤ 2 ∧ i = .int .i64 (k : Int) ∧ u = .int .i64 (upto k 0 (n : Int) ((n : Int) + (m : Int)))) (fun _ i => 2 - (intOf i).toNat)
 case atStart => exact ⟨0, by omega, rfl, rfl⟩
 case round =>
  obtain ⟨k, hk, rfl, rfl⟩ := hrel
  obtain rfl | rfl | rfl : k = 0 ∨ k = 1 ∨ k = 2 := by omega
  ·simp only [upto, if_true]
   go_wp2_with fail
   go_round
   case rel => exact ⟨1, by omega, by go_num, by simp [upto]⟩
   case measure => simp [intOf]
  ·simp only [upto, if_true, if_neg (show ¬ (1 : Nat) = 0 by decide)]
   go_wp2_with fail
   go_round
   case rel => exact ⟨2, by omega, by go_num, by simp [upto]⟩
   case measure => simp [intOf]
  ·simp only [upto, if_neg (show ¬ (2 : Nat) = 0 by decide), if_neg (show ¬ (2 : Nat) = 1 by decide)]
   go_wp2_with fail
   (with_reducible refine hgr.mono ?_)
   rintro e w1 ⟨v, rfl, h2, d2⟩
   clear hgr
   go_wp2_with fail
   go_loopw [6, 27] (fun u i wr => ConcatRel n m xs ys w u i wr) (fun _ i _ => 2 - (intOf i).toNat)
   case atStart => exact ⟨0, by omega, rfl, h2, d2⟩
   case round =>
    clear h2 d2
    obtain ⟨k, hk, rfl, hsat, hside⟩ := hrel
    have k0 : wr.cell? ⟨g, 0, none⟩ = some (.slice a1 n c1) := hsat.cellOld h0
    have k1 : wr.cell? ⟨g, 1, none⟩ = some (.slice a2 m c2) := hsat.cellOld h1
    obtain rfl | rfl | rfl : k = 0 ∨ k = 1 ∨ k = 2 := by omega
    ·simp only [upto, if_true] at hsat
     obtain ⟨va, vc, rfl⟩ := sl_shape hsat
     obtain ⟨v', w', hrun, hsat', hside'⟩ := Sat.append (P := Tryz.prog) (ty := 46) Tryz.underlying46 HI.out HZ.out HS0.out HB0.out rfl hsat (HX.out.carry fun a u h => hsat.cellOld h) OX.out (by unfold maxLen; omega) (by omega)
     have Hs := SL.hid hsat'; have Hd := SL.hid (hside.trans hside')
     obtain ⟨ba, bc, rfl⟩ := sl_shape hsat'
     clear hsat hsat' hside hside'
     go_wp2_with (at_builtin; refine wpList_append_run hrun _ _ rfl rfl rfl rfl rfl ?_)
     go_roundw
     case rel => exact ⟨1, by omega, by go_num, by simpa [upto] using Hs.out, Hd.out⟩
     case measure => simp [intOf]
    ·simp only [upto, if_true, if_neg (show ¬ (1 : Nat) = 0 by decide)] at hsat
     obtain ⟨va, vc, rfl⟩ := sl_shape hsat
     obtain ⟨v', w', hrun, hsat', hside'⟩ := Sat.append (P := Tryz.prog) (ty := 46) Tryz.underlying46 HI.out HZ.out HS0.out HB0.out rfl hsat (HY.out.carry fun a u h => hsat.cellOld h) OY.out (by unfold maxLen; omega) (by omega)
     have Hs := SL.hid hsat'; have Hd := SL.hid (hside.trans hside')
     obtain ⟨ba, bc, rfl⟩ := sl_shape hsat'
     clear hsat hsat' hside hside'
     go_wp2_with (at_builtin; refine wpList_append_run hrun _ _ rfl rfl rfl rfl rfl ?_)
     go_roundw
     case rel => exact ⟨2, by omega, by go_num, by simpa [upto] using Hs.out, Hd.out⟩
     case measure => simp [intOf]
    ·simp only [upto, if_neg (show ¬ (2 : Nat) = 0 by decide), if_neg (show ¬ (2 : Nat) = 1 by decide)] at hsat
     have Hs := SL.hid hsat; have Hd := SL.hid hside
     clear hsat hside
     go_wp2
     go_ret
     exact ⟨_, rfl, Hs.out, Hd.out⟩
end Go.Proofs.YtdafdidmbeecfaaGreatDoor
namespace Go.SL
set_option linter.unusedVariables false
set_option linter.unusedSimpArgs false
open Go.RowKit
abbrev Bl := List (Int × List UInt8)
def plainW (Z : List Wr) : Bl := Z.map fun z => (z.1, z.2.2)
def wrOf (L : Bl) : List Wr := L.map fun x => (x.1, .slice none 0 0, x.2)
theorem plain_wrOf (L : Bl) : plainW (wrOf L) = L := by
 unfold plainW wrOf
 rw [List.map_map]
 exact List.map_id L
theorem plain_len (Z : List Wr) : (plainW Z).length = Z.length := by simp [plainW]
theorem plain_get (Z : List Wr) (k : Nat) : (Z.getD k Wr.nil).1 = ((plainW Z).getD k (0, [])).1 ∧ (Z.getD k Wr.nil).2.2 = ((plainW Z).getD k (0, [])).2 := by
 simp only [plainW, List.getD, List.getElem?_map]
 cases Z[k]? <;> simp [Wr.nil]
theorem Jr.writeN_plain (J : Jr) (D : Dev) {Z Z' : List Wr} (h : plainW Z = plainW Z') (k : Nat) : J.writeN D Z k = J.writeN D Z' k := by
 have hl : Z.length = Z'.length := by rw [← plain_len, h, plain_len]
 induction k with
 | zero => rfl
 | succ k ih =>
  rw [Jr.writeN, Jr.writeN, ih, (plain_get Z k).1, (plain_get Z k).2, (plain_get Z' k).1, (plain_get Z' k).2, h, hl]
theorem ownN_plain {Z Z' : List Wr} (h : plainW Z = plainW Z') (k : Nat) : ownN Z k = ownN Z' k := by
 induction k with
 | zero => rfl
 | succ k ih => rw [ownN, ownN, ih, (plain_get Z k).1, (plain_get Z' k).1, h]
def Jr.putN (J : Jr) (L : Bl) : Nat → Tb
 | 0 => J.T
 | k + 1 => ((Jr.putN J L k).put (L.getD k (0, [])).1 ((J.hd + (k : Int)) % (J.P : Int))).2
def Jr.cleaned (J : Jr) (n : Nat) : Int := if J.us < 2 * (n : Int) then J.us else 2 * (n : Int)
def Jr.done (J : Jr) (L : Bl) (c : Int) : Jr :=
 { J with T := J.putN L L.length, sq := J.sq + 1, hd := (J.hd + (L.length : Int)) % (J.P : Int), us := J.us + ((L.length : Int) - c), fr := c }
structure Tb.Owns (T : Tb) : Prop where
 os : ∀ v ∈ T.os, v = -1 ∨ (0 ≤ v ∧ v < T.ps.length)
theorem mem_set {l : List Int} {i : Nat} {x v : Int} (h : v ∈ l.set i x) : v = x ∨ v ∈ l := by
 rcases List.mem_or_eq_of_mem_set h with h | h
 ·exact .inr h
 ·exact .inl h
theorem Tb.put_owns {T : Tb} (h : T.Owns) (id p : Int) : (T.put id p).2.Owns := by
 refine ⟨fun v hv => ?_⟩
 rw [(T.put_len id p).1]
 unfold Tb.put at hv
 split at hv
 ·rename_i hc
  rcases mem_set hv with hv | hv
  ·exact .inr ⟨by omega, by omega⟩
  ·unfold Tb.drop at hv
   split at hv
   ·rcases mem_set hv with hv | hv
    ·exact .inl hv
    ·exact h.os v hv
   ·exact h.os v hv
 ·exact h.os v hv
theorem Jr.putN_len (J : Jr) (L : Bl) (k : Nat) : (J.putN L k).ps.length = J.T.ps.length ∧ (J.putN L k).os.length = J.T.os.length := by
 induction k with
 | zero => exact ⟨rfl, rfl⟩
 | succ k ih => exact ⟨((Jr.putN J L k).put_len _ _).1.trans ih.1, ((Jr.putN J L k).put_len _ _).2.trans ih.2⟩
theorem Jr.putN_owns {J : Jr} (h : J.T.Owns) (L : Bl) (k : Nat) : (J.putN L k).Owns := by
 induction k with
 | zero => exact h
 | succ k ih => exact Tb.put_owns ih _ _
structure Jr.Nums (J : Jr) : Prop where
 ep0 : 1 ≤ J.ep
 ep1 : J.ep < 4294967296
 st0 : 1 ≤ J.st
 st1 : J.st ≤ J.sq + 1
 sq0 : 0 ≤ J.sq
 sq1 : J.sq ≤ 281474976710655
 n1 : J.n ≤ 3840
 own : J.T.Owns
theorem Jr.Nums.numbers {J : Jr} (h : J.Nums) (hs : J.sq < 281474976710655) : J.Numbers := ⟨h.ep0, h.ep1, h.st0, h.st1, h.sq0, hs⟩
theorem Jr.cleaned_range {J : Jr} (h0 : 0 ≤ J.us) (n : Nat) : 0 ≤ J.cleaned n ∧ J.cleaned n ≤ J.us ∧ J.cleaned n ≤ 2 * n := by
 unfold Jr.cleaned
 split <;> omega
end Go.SL
namespace Go.Proofs.YtdafdidmbeecfaaGreatDoor
set_option linter.unusedVariables false
set_option linter.unusedSimpArgs false
open Go.RowKit Go.SL
theorem putN_ok {J : Jr} (h : J.T.Ok) (L : Bl) (k : Nat) : (J.putN L k).Ok := by
 induction k with
 | zero => exact h
 | succ k ih => exact Tb.put_ok ih _ _
def jmoved (J : Jr) (D : Dev) (L : Bl) : Mv := J.moves D (ownN (wrOf L) L.length) (ownersN J.T J.P (Jr.tail J) (J.cleaned L.length).toNat)
def jcommit2 (J : Jr) (D : Dev) (L : Bl) : Int × Jr × Dev :=
 if (jmoved J D L).1.1 ≠ 0 then ((jmoved J D L).1.1, (jmoved J D L).2)
 else if (J.P : Int) - J.us - J.fr < ((L ++ (jmoved J D L).1.2).length : Int) then (9, J, (jmoved J D L).2.2)
 else if (J.writeN (jmoved J D L).2.2 (wrOf (L ++ (jmoved J D L).1.2)) (L ++ (jmoved J D L).1.2).length).1 ≠ 0 then
  ((J.writeN (jmoved J D L).2.2 (wrOf (L ++ (jmoved J D L).1.2)) (L ++ (jmoved J D L).1.2).length).1, { J with br := true }, (J.writeN (jmoved J D L).2.2 (wrOf (L ++ (jmoved J D L).1.2)) (L ++ (jmoved J D L).1.2).length).2)
 else (0, J.done (L ++ (jmoved J D L).1.2) (J.cleaned L.length), (J.writeN (jmoved J D L).2.2 (wrOf (L ++ (jmoved J D L).1.2)) (L ++ (jmoved J D L).1.2).length).2)
def jcommit (J : Jr) (D : Dev) (ok : Bool) (L : Bl) : Int × Jr × Dev :=
 if ok = false then (1, J, D)
 else if 281474976710655 ≤ J.sq then (12, J, D)
 else if (J.flush D).1 ≠ 0 then J.flush D
 else jcommit2 J (J.flush D).2.2 L
theorem jflush_ok {J : Jr} {D : Dev} (h : (J.flush D).1 = 0) : (J.flush D).2.1 = J ∧ (J.flush D).2.2 = D.flush.2 ∧ J.br = false ∧ D.flush.1 = 0 := by
 unfold Jr.flush at h ⊢
 split
 ·rename_i h1; rw [if_pos h1] at h; exact absurd h (show (2 : Int) ≠ 0 by decide)
 ·rename_i h1
  rw [if_neg h1] at h
  split
  ·rename_i h2; exact ⟨rfl, rfl, by simpa using h1, h2⟩
  ·rename_i h2; rw [if_neg h2] at h; exact absurd h (show (2 : Int) ≠ 0 by decide)
theorem moved_ids {J : Jr} (hJ : J.Ok) (hN : J.Nums) {D : Dev} {own : KV} {P first m : Nat} : ∀ x ∈ (J.moves D own (ownersN J.T P first m)).1.2, 0 ≤ x.1 ∧ x.1 < 3840 := by
 have hown : ∀ y ∈ ownersN J.T P first m, 0 ≤ y.1 ∧ y.1 < 3840 := by
  intro y hy
  unfold ownersN at hy
  obtain ⟨p, _, hp⟩ := List.mem_filterMap.1 hy
  cases ht : told J.T.os (p : Int) with
  | none => rw [ht] at hp; cases hp
  | some id =>
   rw [ht] at hp
   injection hp with hp
   obtain ⟨k, _, hk, hv, hne⟩ := told_some ht
   have hm : id ∈ J.T.os := by rw [← hv, List.getD, List.getElem?_eq_getElem hk]; exact List.getElem_mem hk
   have := hN.n1
   have := hJ.ps
   rcases hN.own.os id hm with e | ⟨e1, e2⟩
   ·exact absurd e hne
   ·rw [← hp]; exact ⟨e1, by show id < 3840; omega⟩
 have : ∀ (L : List (Int × Int)) (s : Mv), (∀ y ∈ L, 0 ≤ y.1 ∧ y.1 < 3840) → (∀ x ∈ s.1.2, 0 ≤ x.1 ∧ x.1 < 3840) → ∀ x ∈ (L.foldl (Jr.moveStep own) s).1.2, 0 ≤ x.1 ∧ x.1 < 3840 := by
  intro L
  induction L with
  | nil => intro s _ h; exact h
  | cons y L ih =>
   intro s hL h
   rw [List.foldl_cons]
   refine ih _ (fun z hz => hL z (List.mem_cons_of_mem _ hz)) ?_
   unfold Jr.moveStep
   split
   ·exact h
   ·split
    ·exact h
    ·split
     ·intro x hx
      rcases List.mem_append.1 hx with hx | hx
      ·exact h x hx
      ·rw [List.mem_singleton.1 hx]; exact hL y List.mem_cons_self
     ·intro x hx; cases hx
 exact this _ _ hown (by simp)
end Go.Proofs.YtdafdidmbeecfaaGreatDoor
end

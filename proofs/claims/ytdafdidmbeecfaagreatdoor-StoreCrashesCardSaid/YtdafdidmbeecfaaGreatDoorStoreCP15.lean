/- Steps towards the statement StoreC. -/
import Derived.Test.YtdafdidmbeecfaaGreatDoorStoreCP14
import Derived.Laws.Rows
import Derived.Laws.Tables
section
namespace Go.Proofs.YtdafdidmbeecfaaGreatDoor
set_option linter.unusedVariables false
set_option linter.unusedSimpArgs false
open Go.RowKit Go.SL
attribute [local go_sem] Oper.semAt_some
theorem info_state0 : (Tryz.prog.info? 86).map (·.size) = some 6 := by kernel_rfl
theorem info_state (cs : Array Value) (h : cs.size = 6) : (Tryz.prog.info? 86).map (·.size) = some cs.size := by rw [h]; exact info_state0
def setT (x : Int × Int) (t : Array Value) : Array Value := (((t.setIfInBounds 26 (.int .i64 x.1)).setIfInBounds 27 (.int .i64 x.2)).setIfInBounds 5 (.int .i64 x.1)).setIfInBounds 6 (.int .i64 x.2)
def Jr.js (J : Jr) : Js := ⟨J.ep, J.st, J.sq, J.hd, J.us, Jr.ats J⟩
def StateQ (j d : Nat) (J : Jr) (F : Assn) (w : World) (e : Ending) (w' : World) : Prop :=
 ∃ g, e = .returned ((Jr.js J).v (.slice (some ⟨g, 0, none⟩) J.T.ps.length J.T.ps.length)) ∧ Sat w' (pt g (.cells (ints (Jr.ats J)) 3 (0, 0)) * (jrA j d J * F)) ∧ Side w w'
def StZ : Obj := .cells #[.int .u32 0, .int .u64 0, .int .u64 0, .int .i64 0, .int .i64 0, .slice none 0 0] 86 (0, 0)
def StateRel (g cx rx n : Nat) (X : Assn) (w : World) (u : Value) (wr : World) : Prop :=
 ∃ k : Nat, k ≤ n ∧ u = .int .i64 (k : Int) ∧ Sat wr (pt g (.cells (ints (List.replicate k (-1) ++ List.replicate (n - k) 0)) 3 (0, 0)) * (pt cx (.cells #[.slice (some ⟨g, 0, none⟩) n n] 45 (0, 0)) * (pt rx StZ * X))) ∧ Side w wr
def StateA (g cx n : Nat) (T : Tb) (ys : List (Int × Int)) : Assn := pt cx (.cells #[.slice (some ⟨g, 0, none⟩) n n] 45 (0, 0)) * pt g (.cells (ints (atsN T n ys)) 3 (0, 0))
set_option maxRecDepth 100000 in
set_option maxHeartbeats 4000000 in
theorem state_any (w : World) (j d : Nat) (J : Jr) (F : Assn) (h : Sat w (jrA j d J * F)) (hJ : J.Ok) :
  Calls Tryz.prog 51 #[ptV j] w (StateQ j d J F w) := by
 obtain ⟨r, t, hx⟩ := h.jrOpen
 have hTn := hJ.T.n
 have hps := hJ.ps
 obtain ⟨n, hn⟩ : ∃ n, n = J.T.ps.length := ⟨_, rfl⟩
 have Hn := SL.hid hn
 rw [← hn] at hTn hps
 clear h hJ hn
 have c3 : w.cell? ⟨j, 3, none⟩ = some (.int .i64 (n : Int)) := by rw [hps]; exact hx.cell 3
 have Hps := SL.hid hps
 have hmk := fun w => make_ints n hTn w
 clear hps
 refine (callsIn_wide (n := 9)).1 ?_
 refine callsIn_of_wp_marks Tryz.func51 rfl trivial ?_ rfl
 simp only [Tryz.ntmps51, List.size_toArray, List.length_cons, List.length_nil, Nat.reduceAdd, Nat.reduceSub, Array.replicate_succ, Array.replicate_zero, List.push_toArray, List.append_toArray, List.nil_append, List.cons_append]
 have h1 := hx.alloc StZ
 have d1 := (Side.refl w).alloc StZ
 have c3' : (w.alloc StZ).cell? ⟨j, 3, none⟩ = some (.int .i64 (n : Int)) := cell_alloc _ _ _ _ c3
 have h3 := (h1.alloc (.cells (ints (List.replicate n 0)) 3 (0, 0))).alloc (.cells #[.slice (some ⟨w.heap.size + 1, 0, none⟩) n n] 45 (0, 0))
 have d3 := (d1.alloc (.cells (ints (List.replicate n 0)) 3 (0, 0))).alloc (.cells #[.slice (some ⟨w.heap.size + 1, 0, none⟩) n n] 45 (0, 0))
 simp only [World.size_alloc] at h3
 unfold StZ at h1 h3 d3 c3'
 gi_wp2_with fail
 generalize (((w.alloc (.cells #[.int .u32 0, .int .u64 0, .int .u64 0, .int .i64 0, .int .i64 0, .slice none 0 0] 86 (0, 0))).alloc (.cells (ints (List.replicate n 0)) 3 (0, 0))).alloc (.cells #[.slice (some ⟨w.heap.size + 1, 0, none⟩) n n] 45 (0, 0))) = w3 at h3 d3 ⊢
 clear hmk c3' h1 d1 c3 hx
 generalize w.heap.size + 1 + 1 = cx at h3 ⊢
 generalize w.heap.size + 1 = g at h3 ⊢
 generalize w.heap.size = rx at h3 ⊢
 obtain ⟨X, hX⟩ : ∃ X, X = pt j (.cells (J.cells d r t) 98 (0, 0)) * (ringA r (ringL J.P) * (tableA t J.T * F)) := ⟨_, rfl⟩
 rw [← hX] at h3
 have HX := SL.hid hX
 clear hX
 gi_loopw [14] (fun u wr => StateRel g cx rx n X w u wr) (fun u _ => n - (intOf u).toNat)
 case atStart => exact ⟨0, Nat.zero_le _, rfl, h3.to (by simp only [List.replicate_zero, List.nil_append, Nat.sub_zero]; unfold StZ; ac_rfl), d3⟩
 case round =>
  clear h3 d3
  obtain ⟨k, hk, rfl, hsat, hside⟩ := hrel
  have hl : (List.replicate k (-1) ++ List.replicate (n - k) (0 : Int)).length = n := by simp; omega
  have k0 : wr.cell? ⟨cx, 0, none⟩ = some (.slice (some ⟨g, 0, none⟩) n n) := hsat.front2.cell 0
  by_cases hlt : k < n
  ·have hlt' : (k : Int) < (n : Int) := by omega
   have hv : wr.cell? ⟨g, k, none⟩ = some (.int .i64 ((List.replicate k (-1) ++ List.replicate (n - k) (0 : Int)).getD k 0)) := (hsat.cell k).trans (get_ints_lt (by rw [hl]; exact hlt))
   have hf := hsat.frozen k
   generalize (List.replicate k (-1) ++ List.replicate (n - k) (0 : Int)).getD k 0 = q at hv
   have h4 := hsat.setCell k (.int .i64 (-1))
   rw [set_ints, fill_next n k (-1) hlt] at h4
   have H4 := SL.hid h4
   clear hsat h4 hl
   gi_wp2
   go_roundw
   case rel => exact ⟨k + 1, by omega, by go_num, H4.out, hside.setCell _ _⟩
   case measure => simp [intOf]; omega
  ·obtain rfl : k = n := by omega
   rw [Nat.sub_self, List.replicate_zero, List.append_nil, HX.out] at hsat
   have j2 : wr.cell? ⟨j, 2, none⟩ = some (ptV t) := hsat.front4.cell 2
   have H4 := SL.hid hsat
   clear hsat hl hlt k0
   gi_wp2_with fail
   refine callV (allT_any wr _) ?_
   rintro e w4 ⟨rfl, rfl⟩
   have h5 := H4.out.alloc (.cells #[.pointer (some ⟨t, 0, none⟩)] 96 (0, 0))
   have d5 := hside.alloc (.cells #[.pointer (some ⟨t, 0, none⟩)] 96 (0, 0))
   gi_wp2_with fail
   generalize wr.alloc (.cells #[.pointer (some ⟨t, 0, none⟩)] 96 (0, 0)) = w5 at h5 d5 ⊢
   generalize wr.heap.size = bx at h5 ⊢
   clear H4 hside j2
   have h6 : Sat w5 (StateA g cx k J.T [] * (AllTIt bx t J.T * (pt rx StZ * (pt j (.cells (J.cells d r t) 98 (0, 0)) * (ringA r (ringL J.P) * F))))) :=
    h5.to (by unfold StateA AllTIt atsN; simp only [List.foldl_nil]; ac_rfl)
   clear h5
   refine wpIn_range_t (w0 := w) rfl (by decide) (gf := 100) (lb := #[.pointer (some ⟨bx, 0, none⟩)]) rfl trivial (enters Tryz.func100 (by kernel_rfl) rfl)
    (allT_iter _ bx t J.T (by rw [← Hn.out]; exact hTn)) setT (StateA g cx k J.T) (fun pre x => StateA g cx k J.T pre) _ ?hps d5 h6 ?assign ?body ?done
   case hps =>
    intro x vs Fr W h
    unfold pairT at h
    obtain ⟨rfl, _⟩ := Sat.fact_iff.1 h
    rfl
   case assign =>
    intro l r pre x vs Fr W K _ hsd H hK
    have H1 : Sat W (pairT x vs * (StateA g cx k J.T pre * (pt l (.loop r) * Fr))) := H.front2
    unfold pairT at H1
    obtain ⟨rfl, H2⟩ := Sat.fact_iff.1 H1
    clear H H1
    gi_wp2
    exact hK _ hsd H2
   case body =>
    intro l r pre x Fr W hp hsd H
    have hm : x ∈ allN J.T J.T.ps.length := by
     obtain ⟨z, hz⟩ := hp
     have e : tbAll J.T = allN J.T J.T.ps.length := rfl
     rw [← e, ← hz]; simp
    obtain ⟨i, hi, hik, _⟩ := allN_fst _ _ _ hm
    rw [← Hn.out] at hik
    have hsn := atsN_snoc J.T k pre x
    have hlen := atsN_len J.T k pre
    obtain ⟨x1, x2⟩ := x
    simp only at hi hsn
    subst hi
    rw [Int.toNat_natCast] at hsn
    unfold StateA at H
    have H1 : Sat W (pt cx (.cells #[.slice (some ⟨g, 0, none⟩) k k] 45 (0, 0)) * (pt g (.cells (ints (atsN J.T k pre)) 3 (0, 0)) * (pt l (.loop r) * Fr))) := H.to (by ac_rfl)
    have k0 : W.cell? ⟨cx, 0, none⟩ = some (.slice (some ⟨g, 0, none⟩) k k) := H1.cell 0
    have kg : W.cell? ⟨g, i, none⟩ = some (.int .i64 ((atsN J.T k pre).getD i 0)) := (H1.front2.cell i).trans (get_ints_lt (by rw [hlen]; exact hik))
    have hf := H1.front2.frozen i
    have h7 := (H1.front2.setCell i (.int .i64 x2)).front2
    rw [set_ints, ← hsn] at h7
    have H7 := SL.hid h7
    have hik' : (i : Int) < (k : Int) := by omega
    generalize (atsN J.T k pre).getD i 0 = q at kg
    clear H H1 h7 hm hsn hlen hp
    simp only [setT, List.setIfInBounds_toArray, List.set_cons_succ, List.set_cons_zero]
    gi_wp2
    exact ⟨hsd.setCell _ _, (H7.out).to (by unfold StateA; ac_rfl)⟩
   case done =>
    intro D2 ys W hS hsd H
    subst hS
    have H1 : Sat W (pt rx (.cells #[.int .u32 0, .int .u64 0, .int .u64 0, .int .i64 0, .int .i64 0, .slice none 0 0] 86 (0, 0)) * (pt j (.cells (J.cells d r t) 98 (0, 0)) * (pt cx (.cells #[.slice (some ⟨g, 0, none⟩) k k] 45 (0, 0)) * (pt D2 (.deferred (some [])) * (pt g (.cells (ints (atsN J.T k (tbAll J.T))) 3 (0, 0)) * (tableA t J.T * (ringA r (ringL J.P) * F))))))) := by
     unfold StateA AllTIt StZ at H
     exact (H.to (by ac_rfl : _ = pt bx (.cells #[.pointer (some ⟨t, 0, none⟩)] 96 (0, 0)) * (pt rx (.cells #[.int .u32 0, .int .u64 0, .int .u64 0, .int .i64 0, .int .i64 0, .slice none 0 0] 86 (0, 0)) * (pt j (.cells (J.cells d r t) 98 (0, 0)) * (pt cx (.cells #[.slice (some ⟨g, 0, none⟩) k k] 45 (0, 0)) * (pt D2 (.deferred (some [])) * (pt g (.cells (ints (atsN J.T k (tbAll J.T))) 3 (0, 0)) * (tableA t J.T * (ringA r (ringL J.P) * F))))))))).right
    clear H h6 d5
    obtain ⟨B3, hB3⟩ : ∃ X, X = pt j (.cells (J.cells d r t) 98 (0, 0)) * (pt cx (.cells #[.slice (some ⟨g, 0, none⟩) k k] 45 (0, 0)) * (pt D2 (.deferred (some [])) * (pt g (.cells (ints (atsN J.T k (tbAll J.T))) 3 (0, 0)) * (tableA t J.T * (ringA r (ringL J.P) * F))))) := ⟨_, rfl⟩
    rw [← hB3] at H1
    have zz0 : W.cell? ⟨rx, 0, none⟩ = some (.int .u32 0) := H1.cell 0
    have zz1 : W.cell? ⟨rx, 1, none⟩ = some (.int .u64 0) := H1.cell 1
    have zz2 : W.cell? ⟨rx, 2, none⟩ = some (.int .u64 0) := H1.cell 2
    have zz3 : W.cell? ⟨rx, 3, none⟩ = some (.int .i64 0) := H1.cell 3
    have zz4 : W.cell? ⟨rx, 4, none⟩ = some (.int .i64 0) := H1.cell 4
    have zz5 : W.cell? ⟨rx, 5, none⟩ = some (.slice none 0 0) := H1.cell 5
    have fz0 : W.frozen? ⟨rx, 0, none⟩ = false := H1.frozen 0
    have fz1 : W.frozen? ⟨rx, 1, none⟩ = false := H1.frozen 1
    have fz2 : W.frozen? ⟨rx, 2, none⟩ = false := H1.frozen 2
    have fz3 : W.frozen? ⟨rx, 3, none⟩ = false := H1.frozen 3
    have fz4 : W.frozen? ⟨rx, 4, none⟩ = false := H1.frozen 4
    have fz5 : W.frozen? ⟨rx, 5, none⟩ = false := H1.frozen 5
    have K9 : Sat ((((((W.setCell ⟨rx, 0, none⟩ (.int .u32 J.ep)).setCell ⟨rx, 1, none⟩ (.int .u64 J.st)).setCell ⟨rx, 2, none⟩ (.int .u64 J.sq)).setCell ⟨rx, 3, none⟩ (.int .i64 J.hd)).setCell ⟨rx, 4, none⟩ (.int .i64 J.us)).setCell ⟨rx, 5, none⟩ (.slice (some ⟨g, 0, none⟩) k k)) (pt rx (.cells #[.int .u32 J.ep, .int .u64 J.st, .int .u64 J.sq, .int .i64 J.hd, .int .i64 J.us, .slice (some ⟨g, 0, none⟩) k k] 86 (0, 0)) * B3) := ((((((H1.setCell 0 (.int .u32 J.ep)).setCell 1 (.int .u64 J.st)).setCell 2 (.int .u64 J.sq)).setCell 3 (.int .i64 J.hd)).setCell 4 (.int .i64 J.us)).setCell 5 (.slice (some ⟨g, 0, none⟩) k k))
    have S9 := K9.right
    have S8 := H1.right
    have S8d := S8.drew
    have S9d := S9.drew
    have gb : ∀ o w', Sat w' B3 → w'.cell? ⟨j, o, none⟩ = (J.cells d r t)[o]? := fun o w' h => (hB3 ▸ h).cell o
    have gb4 : ∀ w', Sat w' B3 → w'.cell? ⟨j, 4, none⟩ = some (.int .u32 J.ep) := gb 4
    have gb5 : ∀ w', Sat w' B3 → w'.cell? ⟨j, 5, none⟩ = some (.int .u64 J.st) := gb 5
    have gb6 : ∀ w', Sat w' B3 → w'.cell? ⟨j, 6, none⟩ = some (.int .u64 J.sq) := gb 6
    have gb7 : ∀ w', Sat w' B3 → w'.cell? ⟨j, 7, none⟩ = some (.int .i64 J.hd) := gb 7
    have gb8 : ∀ w', Sat w' B3 → w'.cell? ⟨j, 8, none⟩ = some (.int .i64 J.us) := gb 8
    have gb9 : ∀ w', Sat w' B3 → w'.cell? ⟨cx, 0, none⟩ = some (.slice (some ⟨g, 0, none⟩) k k) := fun w' h => (hB3 ▸ h).front2.cell 0
    have HB3 := SL.hid hB3
    have HK9 := SL.hid K9
    clear H1 K9 gb hB3
    gi_wp2
    refine wpIn_wide.2 ?_
    go_region_held3 (fun w' => Sat w' B3) (first | (with_reducible exact S8) | (with_reducible exact S9) | (with_reducible exact S9d) | (with_reducible exact S8d)) (fail)
    have K10 : Sat (((((((W.setCell ⟨rx, 0, none⟩ (.int .u32 J.ep)).setCell ⟨rx, 1, none⟩ (.int .u64 J.st)).setCell ⟨rx, 2, none⟩ (.int .u64 J.sq)).setCell ⟨rx, 3, none⟩ (.int .i64 J.hd)).setCell ⟨rx, 4, none⟩ (.int .i64 J.us)).setCell ⟨rx, 5, none⟩ (.slice (some ⟨g, 0, none⟩) k k)).drew) _ := HK9.out.drew
    have D10 : Side w (((((((W.setCell ⟨rx, 0, none⟩ (.int .u32 J.ep)).setCell ⟨rx, 1, none⟩ (.int .u64 J.st)).setCell ⟨rx, 2, none⟩ (.int .u64 J.sq)).setCell ⟨rx, 3, none⟩ (.int .i64 J.hd)).setCell ⟨rx, 4, none⟩ (.int .i64 J.us)).setCell ⟨rx, 5, none⟩ (.slice (some ⟨g, 0, none⟩) k k)).drew) := ((((((hsd.setCell _ _).setCell _ _).setCell _ _).setCell _ _).setCell _ _).setCell _ _).drew
    rw [HB3.out] at K10
    generalize ((((((W.setCell ⟨rx, 0, none⟩ (.int .u32 J.ep)).setCell ⟨rx, 1, none⟩ (.int .u64 J.st)).setCell ⟨rx, 2, none⟩ (.int .u64 J.sq)).setCell ⟨rx, 3, none⟩ (.int .i64 J.hd)).setCell ⟨rx, 4, none⟩ (.int .i64 J.us)).setCell ⟨rx, 5, none⟩ (.slice (some ⟨g, 0, none⟩) k k)).drew = W9 at K10 D10 ⊢
    clear HK9 S9 S8 S8d S9d gb4 gb5 gb6 gb7 gb8 gb9 zz0 zz1 zz2 zz3 zz4 zz5 fz0 fz1 fz2 fz3 fz4 fz5
    have hK : W9.heap[D2]? = some (.deferred (some [])) := K10.front4.heap
    have K11 := (K10.front4.putObj (.deferred none)).right
    have D11 := D10.putObj D2 (.deferred none)
    gi_wp2
    refine ⟨by simp, .inl ⟨_, _, rfl, run_takeDeferred hK, ?_⟩⟩
    refine ⟨_, results_cell_row rfl _ _ rx 86 _ (0, 0) _ rfl K11.heap Tryz.underlying86 rfl (info_state _ rfl), g, ?_, ?_, D11⟩
    ·rw [← Hn.out]; rfl
    ·have e : atsN J.T k (tbAll J.T) = Jr.ats J := by rw [Hn.out]; exact ats_eq J.T
     rw [e] at K11
     have K12 : Sat _ (pt cx (.cells #[.slice (some ⟨g, 0, none⟩) k k] 45 (0, 0)) * (pt j (.cells (J.cells d r t) 98 (0, 0)) * (ringA r (ringL J.P) * (tableA t J.T * (pt g (.cells (ints (Jr.ats J)) 3 (0, 0)) * F))))) := K11.right.to (by ac_rfl)
     exact (Sat.jrShut K12.right).to (by ac_rfl)
end Go.Proofs.YtdafdidmbeecfaaGreatDoor
end

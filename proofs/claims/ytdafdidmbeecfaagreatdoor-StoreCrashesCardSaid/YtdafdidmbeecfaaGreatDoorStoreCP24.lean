/- Steps towards the statement StoreC. -/
import Derived.OwnWalkIn
import Derived.TacticsInMore
import Derived.LoopNIn
import Derived.LoopIn
import Derived.Deep.LoopGhost
import Derived.Test.YtdafdidmbeecfaaGreatDoorStoreCP9
import Derived.Test.YtdafdidmbeecfaaGreatDoorStoreCP17
import Derived.Test.YtdafdidmbeecfaaGreatDoorStoreCP23
import Derived.Test.YtdafdidmbeecfaaGreatDoorStoreCP15
section
namespace Go.Proofs.YtdafdidmbeecfaaGreatDoor
set_option linter.unusedVariables false
set_option linter.unusedSimpArgs false
open Go.RowKit Go.SL
attribute [local go_sem] Oper.semAt_some
def intTU (x : Int) (vs : Array Value) : Assn := fact (vs = #[.int .u32 x])
theorem Sat.intTU {w : World} {Fr : Assn} (x : Int) (h : Sat w Fr) : Sat w (intTU x #[.int .u32 x] * Fr) := Sat.fact_iff.2 ⟨rfl, h⟩
def KeysRelU (b r bx : Nat) (o : Obj) (M : SU.KV) (A : List Int → Assn) (G : Assn) (w0 : World) (k : Nat) (wr : World) : Prop :=
 ∃ D it, M.length ≤ D.length + k ∧ SU.Iter b o M D it ∧ Side w0 wr ∧ Sat wr (pt r it * (pt b o * (pt bx (.cells #[.map (some b)] 155 (0, 0)) * (A (D.map Prod.fst) * G))))
def keysOfU (M : SU.KV) : List Int := M.map Prod.fst
def partOfU (M : SU.KV) (ys : List Int) : Prop := ys.Nodup ∧ ∀ x ∈ ys, x ∈ keysOfU M
set_option maxRecDepth 100000 in
set_option maxHeartbeats 1000000 in
theorem keys_iterU (n : Nat) (bx b : Nat) (M : SU.KV) :
  Iterates Fence.wide n Tryz.prog 116 #[.pointer (some ⟨bx, 0, none⟩)] (pt bx (.cells #[.map (some b)] 155 (0, 0)) * SU.mp b M)
   intTU (fun ys => ys.Perm (keysOfU M)) (partOfU M) := by
 intro l A Ax G w0 w hY hs h0
 obtain ⟨o, hm, hb, hS⟩ := Sat.umpHeap (F := pt bx (.cells #[.map (some b)] 155 (0, 0)) * (A [] * G)) (h0.to (by ac_rfl))
 obtain ⟨it, hrg, hit⟩ := SU.run_range_int (P := Tryz.prog) Tryz.underlying155 hb hm
 have hcell := hS.front2.cell 0
 have hfr := hS.front2.frozen 0
 have hA := hS.alloc it
 have hs1 : Side w0 (w.alloc it) := hs.alloc _
 generalize w.alloc it = w1 at hA hrg hs1
 have H := hid h0; clear h0
 refine callsIn_of_wp Tryz.func116 rfl trivial ?_ rfl
 simp only [Tryz.ntmps116, List.size_toArray, List.length_cons, List.length_nil, Nat.reduceAdd, Nat.reduceSub, Array.replicate_succ, Array.replicate_zero, List.push_toArray, List.append_toArray, List.nil_append, List.cons_append]
 gi_wp2
 gi_loopw [] (fun wr => ∃ k, KeysRelU b w.heap.size bx o M A G w0 k wr) (fun wr => leastOf (fun k => KeysRelU b w.heap.size bx o M A G w0 k wr))
 case atStart => exact ⟨M.length, [], it, by simp, hit, hs1, hA⟩
 case round =>
  obtain ⟨hk, hmin⟩ := leastOf_spec hrel
  have hgk : leastOf (fun k => KeysRelU b w.heap.size bx o M A G w0 k wr) = leastOf (fun k => KeysRelU b w.heap.size bx o M A G w0 k wr) := rfl
  generalize leastOf (fun k => KeysRelU b w.heap.size bx o M A G w0 k wr) = gk at hk hmin ⊢
  obtain ⟨D, it', hlen, hit', hside, hsat⟩ := hk
  clear hgk hrg hcell hfr hrel hmin
  have hbr : wr.heap[b]? = some o := hsat.front2.heap
  rcases hsat.unext (P := Tryz.prog) hbr hit' with ⟨hperm, hnx⟩ | ⟨p, it2, w2, hp, hpD, hnx, hsat2, hit2, hside2, hb2, hen⟩
  ·have Hp := hid hperm; clear hperm
   gi_wp2
   go_end0
   refine ⟨⟨_, rfl⟩, hside, .inl ⟨D.map Prod.fst, Hp.out.map _, ?_⟩⟩
   have := hsat.right
   exact (Sat.umpOf this hm).to (by ac_rfl)
  ·have hnd := SU.iter_nodup hit2
   have hSp : partOfU M (D.map Prod.fst ++ [p.1]) := ⟨by simpa using hnd.1, fun x hx => by
    have : x ∈ (D ++ [p]).map Prod.fst := by simpa using hx
    obtain ⟨q, hq, rfl⟩ := List.mem_map.1 this
    exact List.mem_map.2 ⟨q, hnd.2 q hq, rfl⟩⟩
   have hle := SU.iter_le hit2
   rw [List.length_append, List.length_singleton] at hle
   obtain ⟨fn, tmps, assign, body, hy, hR⟩ := hY (D.map Prod.fst) p.1 #[.int .u32 p.1] (pt w.heap.size it2 * (pt b o * (pt bx (.cells #[.map (some b)] 155 (0, 0)) * G))) w2 hSp (hside.trans hside2)
    ((Sat.intTU p.1 hsat2).to (by ac_rfl))
   have K := hid hlen; have K2 := hid hle; have K3 := hid hm; clear hlen hle hm hb hb2 hbr hY
   gi_wp2
   refine ⟨fun h => (by cases h), hR.mono ?_⟩
   rintro e W' (⟨rfl, hs3, hsat3⟩ | ⟨rfl, hs3, hsat3⟩)
   ·have hrel' : KeysRelU b w.heap.size bx o M A G w0 (gk - 1) W' :=
     ⟨D ++ [p], it2, by have := K.out; simp; omega, hit2, hs3, by rw [List.map_append]; exact hsat3.to (by simp only [List.map_cons, List.map_nil]; ac_rfl)⟩
    gi_wp2
    go_roundw
    case rel => exact ⟨_, hrel'⟩
    case measure => exact Nat.lt_of_le_of_lt ((leastOf_spec ⟨_, hrel'⟩).2 _ hrel') (by have := K.out; have := K2.out; omega)
   ·gi_wp2
    refine bodyPost_ret (results_none rfl _ _ _) rfl ?_
    refine ⟨⟨_, rfl⟩, hs3, .inr ⟨_, hSp, ?_⟩⟩
    exact (Sat.umpOf (hsat3.to (by ac_rfl : _ = pt b o * (pt w.heap.size it2 * (Ax (D.map Prod.fst ++ [p.1]) * (pt bx (.cells #[.map (some b)] 155 (0, 0)) * G))))) K3.out).front2.right.to (by ac_rfl)
end Go.Proofs.YtdafdidmbeecfaaGreatDoor
namespace Go.Proofs.YtdafdidmbeecfaaGreatDoor
set_option linter.unusedVariables false
set_option linter.unusedSimpArgs false
open Go.RowKit Go.SL
attribute [local go_sem] Oper.semAt_some
theorem info_intU : (Tryz.prog.info? 84).map (fun i => (i.zero, i.size, i.bytes)) = some (some (.int .u32 0), 1, 4) := by kernel_rfl
def SeqQU (It G : Assn) (S : List Int → Prop) (w0 : World) (e : Ending) (w' : World) : Prop :=
 ∃ v ys, S ys ∧ e = .returned v ∧ Sat w' (sl 84 1 v ys.length (i64vU ys) * (It * G)) ∧ Side w0 w'
def GrowAU (bx : Nat) (ys : List Int) : Assn := ex fun v => pt bx (.cells #[v] 160 (0, 0)) * sl 84 1 v ys.length (i64vU ys)
set_option maxRecDepth 100000 in
set_option maxHeartbeats 1000000 in
theorem appendSeq_anyU {gf : Nat} {lb : Array Value} {It : Assn} {S Sp : List Int → Prop} (eg : ∀ args w, (callFunc gf args).run Tryz.prog w = .ok (.enter gf args) w)
  (hit : ∀ n, Iterates Fence.wide n Tryz.prog gf lb It intTU S Sp) (N : Nat) (hN : N ≤ 1000000000) (hSp : ∀ ys, Sp ys → ys.length ≤ N) (w w0 : World) (G : Assn) (hs : Side w0 w) (h0 : Sat w (It * G)) :
  Calls Tryz.prog 132 #[.slice none 0 0, .func (.func gf) #[] lb] w (SeqQU It G S w0) := by
 obtain ⟨i0, hi, hz, hs0, hb0⟩ := info_parts info_intU
 refine (callsIn_wide (n := 9)).1 ?_
 refine callsIn_of_wp_marks Tryz.func132 rfl trivial ?_ rfl
 simp only [Tryz.ntmps132, List.size_toArray, List.length_cons, List.length_nil, Nat.reduceAdd, Nat.reduceSub, Array.replicate_succ, Array.replicate_zero, List.push_toArray, List.append_toArray, List.nil_append, List.cons_append]
 gi_wp2
 have hA := h0.alloc (.cells #[.slice none 0 0] 160 (0, 0))
 have hs1 := hs.alloc (.cells #[.slice none 0 0] 160 (0, 0))
 have hstart : Sat (w.alloc (.cells #[.slice none 0 0] 160 (0, 0))) (GrowAU w.heap.size [] * (It * G)) :=
  Sat.ex_star_iff.2 ⟨.slice none 0 0, (hA.slNil 84 1).to (by simp only [i64vU, List.map_nil, List.length_nil]; ac_rfl)⟩
 generalize w.alloc (.cells #[.slice none 0 0] 160 (0, 0)) = w1 at hstart hs1 ⊢
 clear hA
 refine wpIn_range (w0 := w0) rfl (by decide) (gf := gf) (lb := lb) rfl trivial eg (hit _) (GrowAU w.heap.size) (fun _ _ => fact False)
  (fun pre x a' => fact (a' = { tmps := #[.slice none 0 0, .func (.func gf) #[] lb, .pointer (some ⟨w.heap.size, 0, none⟩), undef, .slice none 0 0, .int .u32 x, .func (.func gf) #[] lb, .int .u32 x, undef, undef, undef, undef, undef], defers := [] }) * GrowAU w.heap.size pre) G ?hps hs1 hstart ?assign ?body ?done ?stop
 case hps =>
  intro x vs Fr W h
  obtain ⟨rfl, _⟩ := Sat.fact_iff.1 h
  rfl
 case assign =>
  intro l r pre x vs Fr W K _ hsd H hK
  obtain ⟨rfl, H2⟩ := Sat.fact_iff.1 (H.to (star_left_comm _ _ _))
  clear H
  gi_wp2
  exact hK _ _ hsd ((Sat.fact_iff.2 ⟨rfl, H2⟩ : Sat W (fact _ * _)).to (star_assoc _ _ _).symm)
 case body =>
  intro l r pre x a' Fr W hp hsd H
  obtain ⟨rfl, H2⟩ := Sat.fact_iff.1 (H.to (star_assoc _ _ _))
  clear H
  obtain ⟨v, H⟩ := Sat.ex_star_iff.1 H2
  clear H2
  have hlen : pre.length + 1 ≤ 1000000000 := by have := hSp _ hp; simp at this; omega
  have H1 : Sat W (pt w.heap.size (.cells #[v] 160 (0, 0)) * (sl 84 1 v pre.length (i64vU pre) * (pt l (.loop r) * Fr))) := H.to (star_assoc _ _ _)
  have hcell := H1.cell 0
  have hfr := H1.frozen 0
  have hA := H1.alloc (.cells #[.int .u32 x] 84 (0, 0))
  have hR : Rds (W.alloc (.cells #[.int .u32 x] 84 (0, 0))) 1 (.slice (some ⟨W.heap.size, 0, none⟩) 1 1) 1 [.int .u32 x] :=
   ⟨rfl, .inr ⟨_, _, rfl, fun j u hu => by
    rw [Addr.add_lit, Nat.zero_add]
    exact (hA.cell j).trans (by simpa using hu)⟩⟩
  obtain ⟨v', w', hrun, hsat', hside'⟩ := Sat.append (P := Tryz.prog) (ty := 160) (F := pt w.heap.size (.cells #[v] 160 (0, 0)) * (pt l (.loop r) * Fr)) Tryz.underlying160 hi hz hs0 hb0 rfl (hA.right.to (by ac_rfl)) hR (by simp [Value.oneCell']) (by unfold maxLen; omega) (by omega)
  obtain ⟨aa, ac, rfl⟩ := sl_shape hsat'
  have hcell' := hsat'.front2.cell 0
  have hfr' := hsat'.front2.frozen 0
  have hset := hsat'.front2.setCell 0 (.slice aa (pre.length + 1) ac)
  clear hA hR hi hz hs0 hb0 H H1 hlen
  have Hrun := hid hrun; clear hrun
  gi_wp2_with (gi_at_builtin; refine wpListIn_append_run Hrun.out _ _ rfl rfl rfl rfl rfl ?_)
  refine ⟨(hsd.alloc _).trans hside' |>.setCell _ _, Sat.ex_star_iff.2 ⟨.slice aa (pre.length + 1) ac, hset.to ?_⟩⟩
  simp only [i64vU, List.map_append, List.length_append, List.map_cons, List.map_nil, List.length_cons, List.length_nil]
  simp only [List.setIfInBounds_toArray, List.set_cons_zero]
  ac_rfl
 case done =>
  intro D ys W hS hsd H
  obtain ⟨v, H⟩ := Sat.ex_star_iff.1 H
  have hK : W.heap[D]? = some (.deferred (some [])) := (H.to (by ac_rfl : _ = pt D (.deferred (some [])) * (pt w.heap.size (.cells #[v] 160 (0, 0)) * sl 84 1 v ys.length (i64vU ys) * (It * G)))).heap
  have H1 : Sat W (pt w.heap.size (.cells #[v] 160 (0, 0)) * (sl 84 1 v ys.length (i64vU ys) * (It * (pt D (.deferred (some [])) * G)))) := H.to (star_assoc _ _ _)
  have hcell := H1.cell 0
  have hfr := H1.frozen 0
  have HD : Sat W (pt D (.deferred (some [])) * (sl 84 1 v ys.length (i64vU ys) * (It * G))) := H1.right.to (by ac_rfl)
  gi_wp2
  refine ⟨by simp, .inl ⟨_, _, rfl, run_takeDeferred hK, ?_⟩⟩
  exact ⟨_, results_tmp rfl _ _ _, v, ys, hS, rfl, (HD.putObj _).right, hsd.putObj _ _⟩
 case stop =>
  intro D c ys W _ _ H
  exact (Sat.fact_iff.1 H).1.elim
set_option maxRecDepth 100000 in
set_option maxHeartbeats 1000000 in
theorem collect_anyU {gf : Nat} {lb : Array Value} {It : Assn} {S Sp : List Int → Prop} (eg : ∀ args w, (callFunc gf args).run Tryz.prog w = .ok (.enter gf args) w)
  (hit : ∀ n, Iterates Fence.wide n Tryz.prog gf lb It intTU S Sp) (N : Nat) (hN : N ≤ 1000000000) (hSp : ∀ ys, Sp ys → ys.length ≤ N) (w w0 : World) (G : Assn) (hs : Side w0 w) (h0 : Sat w (It * G)) :
  Calls Tryz.prog 114 #[.func (.func gf) #[] lb] w (SeqQU It G S w0) := by
 have hc := appendSeq_anyU eg hit N hN hSp w w0 G hs h0
 clear hit hSp h0 hN eg
 go_enter Tryz.func114, Tryz.ntmps114
 go_wp2_with fail
 refine hc.mono ?_
 rintro e w' ⟨v, ys, hS, rfl, H, hsd⟩
 go_wp2
 go_ret
 exact ⟨v, ys, hS, rfl, H, hsd⟩
def SortedQU (It G : Assn) (S : List Int → Prop) (w0 : World) (e : Ending) (w' : World) : Prop :=
 ∃ v ys, S ys ∧ e = .returned v ∧ Sat w' (sl 84 1 v ys.length (i64vU (sortedU ys)) * (It * G)) ∧ Side w0 w'
set_option maxRecDepth 100000 in
set_option maxHeartbeats 1000000 in
theorem sorted_anyU {gf : Nat} {lb : Array Value} {It : Assn} {S Sp : List Int → Prop} (eg : ∀ args w, (callFunc gf args).run Tryz.prog w = .ok (.enter gf args) w)
  (hit : ∀ n, Iterates Fence.wide n Tryz.prog gf lb It intTU S Sp) (N : Nat) (hN : N ≤ 1000000000) (hSp : ∀ ys, Sp ys → ys.length ≤ N) (hS : ∀ ys, S ys → ys.length ≤ N) (w w0 : World) (G : Assn) (hs : Side w0 w) (h0 : Sat w (It * G)) :
  Calls Tryz.prog 92 #[.func (.func gf) #[] lb] w (SortedQU It G S w0) := by
 have hc := collect_anyU eg hit N hN hSp w w0 G hs h0
 clear hit hSp h0 eg
 go_enter Tryz.func92, Tryz.ntmps92
 go_wp2_with fail
 refine hc.mono ?_
 rintro e w' ⟨v, ys, hSy, rfl, H, hsd⟩
 have hl : ys.length ≤ 1000000000 := by have := hS _ hSy; omega
 clear hc
 go_wp2_with fail
 refine (sort_anyU v ys w' _ H hl).mono ?_
 rintro e w2 ⟨rfl, H2, hsd2⟩
 clear H
 go_wp2
 go_ret
 exact ⟨v, ys, hSy, rfl, H2, hsd.trans hsd2⟩
end Go.Proofs.YtdafdidmbeecfaaGreatDoor
namespace Go.SL
set_option linter.unusedVariables false
set_option linter.unusedSimpArgs false
open Go.RowKit
theorem rev_snocG {α : Type} (Z : List α) (k : Nat) (h : k < Z.length) : Z.reverse.take (Z.length - (k + 1)) ++ [Z[k]] = Z.reverse.take (Z.length - k) := by
 have e : Z.length - k = (Z.length - (k + 1)) + 1 := by omega
 rw [e, List.take_succ_eq_append_getElem (by simp; omega)]
 congr 2
 rw [List.getElem_reverse]
 congr 1
 omega
def idx (l : List Int) : List (Int × Int) := (List.range l.length).map fun i : Nat => ((i : Int), l.getD i 0)
theorem idx_length (l : List Int) : (idx l).length = l.length := by simp [idx]
theorem idx_get (l : List Int) (k : Nat) (h : k < (idx l).length) : (idx l)[k] = ((k : Int), l.getD k 0) := by simp [idx]
abbrev Ms := List (Int × Int)
def kvU (M : Ms) : SU.KV := M.map fun p => (p.1, .int .u64 p.2)
def tstart (M : Ms) (x : Fnd) : Ms :=
 match SU.kget M x.1.ep with
 | none => SU.upd M x.1.ep x.1.st
 | some s => if x.1.st < s then SU.upd M x.1.ep x.1.st else M
def startsL (L : List Fnd) : Ms := L.foldl tstart []
def backS (s : Ms × Int) (y : Int × Int) : Ms × Int := (SU.upd s.1 y.2 s.2, min s.2 ((SU.kget s.1 y.2).getD 0))
def u64max : Int := 18446744073709551615
def ebk (K : List Int) (M : Ms) : Ms × Int := (idx K).reverse.foldl backS (M, u64max)
def tkeep (M : Ms) (x : Fnd) : Bool := decide (x.1.sq < (SU.kget M x.1.ep).getD 0)
theorem kvU_get (M : Ms) (x : Int) : (SU.kget (kvU M) x) = (SU.kget M x).map (Value.int .u64) := SU.look_map (Value.int .u64) M x
theorem kvU_upd (M : Ms) (x v : Int) : SU.upd (kvU M) x (.int .u64 v) = kvU (SU.upd M x v) := SU.upd_map (Value.int .u64) M x v
end Go.SL
namespace Go.Proofs.YtdafdidmbeecfaaGreatDoor
set_option linter.unusedVariables false
set_option linter.unusedSimpArgs false
open Go.RowKit Go.SL
attribute [local go_sem] Oper.semAt_some
def KeysFQU (c : Nat) (w : World) (e : Ending) (w' : World) : Prop := e = .returned (.func (.func 116) #[] #[.pointer (some ⟨w.heap.size, 0, none⟩)]) ∧ w' = w.alloc (.cells #[.map (some c)] 155 (0, 0))
theorem keysFU_any (w : World) (c : Nat) : Calls Tryz.prog 93 #[.map (some c)] w (KeysFQU c w) := by
 go_enter Tryz.func93, Tryz.ntmps93
 go_wp2
 go_ret
 exact ⟨rfl, rfl⟩
def BackFQ (v : Value) (w : World) (e : Ending) (w' : World) : Prop := e = .returned (.func (.func 113) #[] #[.pointer (some ⟨w.heap.size, 0, none⟩)]) ∧ w' = w.alloc (.cells #[v] 160 (0, 0))
theorem backF_any (w : World) (a : Option Addr) (n c : Nat) : Calls Tryz.prog 91 #[.slice a n c] w (BackFQ (.slice a n c) w) := by
 go_enter Tryz.func91, Tryz.ntmps91
 go_wp2
 go_ret
 exact ⟨rfl, rfl⟩
def BackIt (bx : Nat) (v : Value) (K : List Int) : Assn := pt bx (.cells #[v] 160 (0, 0)) * sl 84 1 v K.length (i64vU K)
def backT (z : Int × Int) (vs : Array Value) : Assn := fact (vs = #[.int .i64 z.1, .int .u32 z.2])
def BackRel (A : List (Int × Int) → Assn) (Z : List (Int × Int)) (X : Assn) (w0 : World) (i : Value) (wr : World) : Prop :=
 ∃ k : Nat, k ≤ Z.length ∧ i = .int .i64 ((k : Int) - 1) ∧ Side w0 wr ∧ Sat wr (A (Z.reverse.take (Z.length - k)) * X)
theorem sl_cellU {w : World} {v : Value} {K : List Int} {F : Assn} (h : Sat w (sl 84 1 v K.length (i64vU K) * F)) {k : Nat} (hk : k < K.length) :
  ∃ g c, v = .slice (some ⟨g, 0, none⟩) K.length c ∧ w.cell? ⟨g, k, none⟩ = some (.int .u32 (K.getD k 0)) := by
 rcases h.slCases with ⟨_, h0, _⟩ | ⟨g, cap, cur, rfl, h3, h4, h5, h6, hF⟩
 ·omega
 ·refine ⟨g, cap, rfl, ?_⟩
  rw [hF.cell]
  have e := congrArg (·[k]?) h6
  simp only [List.getElem?_take, Nat.mul_one, hk, if_true, i64vU, List.getElem?_map, Array.getElem?_toList] at e
  rw [e, List.getElem?_eq_getElem hk, List.getD, List.getElem?_eq_getElem hk]; rfl
set_option maxRecDepth 100000 in
set_option maxHeartbeats 2000000 in
theorem back_iter (n : Nat) (bx : Nat) (v : Value) (K : List Int) (hK : K.length ≤ 1000000) :
  Iterates Fence.wide n Tryz.prog 113 #[.pointer (some ⟨bx, 0, none⟩)] (BackIt bx v K) backT (fun ys => ys = (idx K).reverse) (fun ys => ys <+: (idx K).reverse) := by
 intro l A Ax G w0 w hY hs h0
 have hB : Sat w (pt bx (.cells #[v] 160 (0, 0)) * (sl 84 1 v K.length (i64vU K) * (A [] * G))) := h0.to (by unfold BackIt; ac_rfl)
 have hbx := hB.cell 0
 obtain ⟨wa, wc, rfl⟩ := sl_shape hB.right
 have hn : (K.length : Int) ≤ 1000000 := by omega
 have hZ := idx_length K
 have hstart : Sat w (A ((idx K).reverse.take ((idx K).length - (idx K).length)) * (BackIt bx (.slice wa K.length wc) K * G)) := by rw [Nat.sub_self, List.take_zero]; exact h0
 have HZ := hid hZ
 have hstart2 : BackRel A (idx K) (BackIt bx (.slice wa K.length wc) K * G) w0 (.int .i64 ((K.length : Int) - 1)) w := ⟨(idx K).length, Nat.le_refl _, by rw [hZ], hs, hstart⟩
 have Hstart := hid hstart2
 clear hB hZ hstart hstart2
 refine callsIn_of_wp Tryz.func113 rfl trivial ?_ rfl
 simp only [Tryz.ntmps113, List.size_toArray, List.length_cons, List.length_nil, Nat.reduceAdd, Nat.reduceSub, Array.replicate_succ, Array.replicate_zero, List.push_toArray, List.append_toArray, List.nil_append, List.cons_append]
 gi_wp2
 gi_loopw [3] (fun i wr => BackRel A (idx K) (BackIt bx (.slice wa K.length wc) K * G) w0 i wr) (fun i _ => (intOf i + 1).toNat)
 case atStart => exact Hstart.out
 case round =>
  clear Hstart h0 hbx
  obtain ⟨k, hk, rfl, hside, hsat⟩ := hrel
  have hB : Sat wr (pt bx (.cells #[.slice wa K.length wc] 160 (0, 0)) * (sl 84 1 (.slice wa K.length wc) K.length (i64vU K) * (A ((idx K).reverse.take ((idx K).length - k)) * G))) := hsat.to (by unfold BackIt; ac_rfl)
  have hbx : wr.cell? ⟨bx, 0, none⟩ = some (.slice wa K.length wc) := hB.cell 0
  match k, hk, hsat, hB with
  | 0, _, hsat, hB =>
   have hfin : (idx K).reverse.take ((idx K).length - 0) = (idx K).reverse := by rw [Nat.sub_zero, ← List.length_reverse, List.take_length]
   rw [hfin] at hsat
   clear hB hfin
   gi_wp2
   go_end0
   exact ⟨⟨_, rfl⟩, hside, .inl ⟨_, rfl, hsat⟩⟩
  | k + 1, hk, hsat, hB =>
   have hkl : k < K.length := by rw [← HZ.out]; omega
   have hk0 : (0 : Int) ≤ (k : Int) := by omega
   have hk' : (k : Int) < (K.length : Int) := by omega
   have hkm : (((k + 1 : Nat) : Int) - 1) = (k : Int) := by omega
   obtain ⟨g, c, hg, hcell⟩ := sl_cellU hB.right hkl
   cases hg
   have hen := rev_snocG (idx K) k hk
   rw [idx_get] at hen
   have Hen := hid hen
   generalize K.getD k 0 = z at hcell hen Hen
   have hpre : (idx K).reverse.take ((idx K).length - (k + 1)) ++ [((k : Int), z)] <+: (idx K).reverse := by rw [hen]; exact List.take_prefix _ _
   have Hpre := hid hpre
   have hT : Sat wr (A ((idx K).reverse.take ((idx K).length - (k + 1))) * (backT ((k : Int), z) #[.int .i64 (k : Int), .int .u32 z] * (BackIt bx (.slice (some ⟨g, 0, none⟩) K.length wc) K * G))) :=
    (Sat.fact_iff.2 ⟨rfl, hsat⟩ : Sat wr (fact _ * _)).to (by unfold backT; ac_rfl)
   obtain ⟨fn, tmps, assign, body, hy, hR⟩ := hY _ ((k : Int), z) #[.int .i64 (k : Int), .int .u32 z] _ wr Hpre.out hside hT
   clear hT hsat hB hen hpre
   rw [hkm]
   clear hkm
   gi_wp2
   refine ⟨fun h => (by cases h), hR.mono ?_⟩
   rintro e W' (⟨rfl, hs5, hsat5⟩ | ⟨rfl, hs5, hsat5⟩)
   ·gi_wp2
    go_roundw
    case rel => exact ⟨k, by omega, rfl, hs5, by rw [← Hen.out]; exact hsat5⟩
    case measure => simp [intOf]
   ·gi_wp2
    refine bodyPost_ret (results_none rfl _ _ _) rfl ?_
    exact ⟨⟨_, rfl⟩, hs5, .inr ⟨_, Hpre.out, hsat5⟩⟩
end Go.Proofs.YtdafdidmbeecfaaGreatDoor
namespace Go.Proofs.YtdafdidmbeecfaaGreatDoor
set_option linter.unusedVariables false
set_option linter.unusedSimpArgs false
open Go.RowKit Go.SL
attribute [local go_sem] Oper.semAt_some
theorem sortedU_length (l : List Int) : (sortedU l).length = l.length := List.length_mergeSort ..
theorem sortedU_perm (l : List Int) : (sortedU l).Perm l := List.mergeSort_perm ..
theorem sortedU_congr {a b : List Int} (h : a.Perm b) : sortedU a = sortedU b := by
 have hs : ∀ l : List Int, (sortedU l).Pairwise fun x y => decide (x ≤ y) = true := fun l => List.pairwise_mergeSort (le := fun x y => decide (x ≤ y)) (fun a b c h1 h2 => by simp at *; omega) (fun a b => by simp; omega) l
 exact List.Perm.eq_of_pairwise (le := fun x y => decide (x ≤ y) = true) (fun a b _ _ h1 h2 => by simp at *; omega) (hs a) (hs b) ((sortedU_perm a).trans (h.trans (sortedU_perm b).symm))
theorem startsL_len (L : List Fnd) : (startsL L).length ≤ L.length := by
 have h : ∀ (L : List Fnd) (M : Ms), (L.foldl tstart M).length ≤ M.length + L.length := by
  intro L
  induction L with
  | nil => intro M; simp
  | cons x L ih =>
   intro M
   have h1 := ih (tstart M x)
   have h2 : (tstart M x).length ≤ M.length + 1 := by
    have h3 := fun v => SU.length_upd M x.1.ep v
    unfold tstart
    split
    ·rw [h3]; split <;> omega
    ·split
     ·rw [h3]; split <;> omega
     ·omega
   simp only [List.foldl_cons, List.length_cons]; omega
 have := h L []
 simpa [startsL] using this
def keysL (L : List Fnd) : List Int := sortedU ((startsL L).map Prod.fst)
def freshL (L : List Fnd) : List Fnd := L.filter (tkeep (ebk (keysL L) (startsL L)).1)
def TruthQ (L : List Fnd) (w : World) (e : Ending) (w' : World) : Prop :=
 ∃ v, e = .returned v ∧ Sat w' (sl 123 8 v L.length (flatF L) * whole w) ∧ Side w w'
def TruRel1 (b3 bm : Nat) (L : List Fnd) (w : World) (u : Value) (wr : World) : Prop :=
 ∃ k : Nat, k ≤ L.length ∧ u = .int .i64 (k : Int) ∧ Sat wr (pt b3 (.cells #[.map (some bm)] 155 (0, 0)) * (SU.mp bm (kvU ((L.take k).foldl tstart [])) * whole w)) ∧ Side w wr
def TruA (b3 bm b8 : Nat) (M : Ms) (pre : List (Int × Int)) : Assn :=
 pt b3 (.cells #[.map (some bm)] 155 (0, 0)) * (SU.mp bm (kvU (pre.foldl backS (M, u64max)).1) * pt b8 (.cells #[.int .u64 (pre.foldl backS (M, u64max)).2] 37 (0, 0)))
def truT (x : Int × Int) (t : Array Value) : Array Value := ((t.setIfInBounds 51 (.int .i64 x.1)).setIfInBounds 52 (.int .u32 x.2)).setIfInBounds 10 (.int .u32 x.2)
def TruRel3 (b3 bm : Nat) (M : Ms) (L : List Fnd) (D : Nat) (w : World) (u12 u64 : Value) (wr : World) : Prop :=
 ∃ k : Nat, k ≤ L.length ∧ u64 = .int .i64 (k : Int) ∧ Sat wr (sl 123 8 u12 ((L.take k).filter (tkeep M)).length (flatF ((L.take k).filter (tkeep M))) * (pt b3 (.cells #[.map (some bm)] 155 (0, 0)) * (SU.mp bm (kvU M) * (pt D (.deferred (some [])) * whole w)))) ∧ Side w wr
theorem make_mapU (w : World) : (Instr.makeMap 155 none).run Tryz.prog w = .ok (.map (some w.heap.size)) (w.alloc (.map #[] 0)) := by
 simp [Instr.makeMap, run_underlying Tryz.underlying155]
set_option maxRecDepth 100000 in
set_option maxHeartbeats 4000000 in
theorem truth_any (w : World) (v : Value) (L : List Fnd) (h : RdF w v L) (hok : ∀ x ∈ L, x.1.ok = true ∧ x.1.Fit) (hl : L.length ≤ 1000000) :
    Calls Tryz.prog 66 #[v] w (TruthQ (freshL L) w) := by
  have hln : (L.length : Int) ≤ 1000000 := by omega
  have H0 := SL.hid h
  have Hok := SL.hid hok
  obtain ⟨a, c, rfl⟩ := h.shape
  have hmk := make_mapU w
  have h1 := (((Sat.whole w).alloc (.map #[] 0)).umpOf (SU.isMap_empty)).alloc (.cells #[.map (some w.heap.size)] 155 (0, 0))
  have d1 := ((Side.refl w).alloc (.map #[] 0)).alloc (.cells #[.map (some w.heap.size)] 155 (0, 0))
  rw [World.size_alloc] at h1
  clear h hok
  refine (callsIn_wide (n := 9)).1 ?_
  refine callsIn_of_wp_marks Tryz.func66 rfl trivial ?_ rfl
  simp only [Tryz.ntmps66, List.size_toArray, List.length_cons, List.length_nil, Nat.reduceAdd, Nat.reduceSub, Array.replicate_succ, Array.replicate_zero, List.push_toArray, List.append_toArray, List.nil_append, List.cons_append]
  gi_wp2_with fail
  generalize (w.alloc (.map #[] 0)).alloc (.cells #[.map (some w.heap.size)] 155 (0, 0)) = w1 at h1 d1 ⊢
  generalize w.heap.size + 1 = b3 at h1 ⊢
  generalize w.heap.size = bm at h1 ⊢
  clear hmk
  gi_loopw [18] (fun u wr => TruRel1 b3 bm L w u wr) (fun u _ => L.length - (intOf u).toNat)
  case atStart => exact ⟨0, Nat.zero_le _, rfl, h1, d1⟩
  case round =>
    clear h1 d1
    obtain ⟨k, hk, rfl, hsat, hside⟩ := hrel
    have hR : RdF wr (.slice a L.length c) L := H0.out.keep (hsat.to (by ac_rfl : _ = (pt b3 _ * SU.mp bm _) * whole w))
    by_cases hlt : k < L.length
    · have hlt' : (k : Int) < (L.length : Int) := by omega
      obtain ⟨g, off, c', hv, t, p, ht, c0, c1, c2, c3, c4, c5, c6, c7⟩ := fnd_cells hR hlt
      cases hv
      have hst := foldl_take tstart [] L hlt
      rw [ht] at hst
      generalize (L.take k).foldl tstart [] = M at hsat hst
      have hA := hsat.alloc (.cells #[.int .u32 t.ep, .int .u64 t.st, .int .u64 t.sq, .int .u64 t.fl, .int .i64 t.ix, .int .i64 t.ct, .int .i64 t.id, .int .i64 (p : Int)] 123 (0, 0))
      have hsA := hside.alloc (.cells #[.int .u32 t.ep, .int .u64 t.st, .int .u64 t.sq, .int .u64 t.fl, .int .i64 t.ix, .int .i64 t.ct, .int .i64 t.id, .int .i64 (p : Int)] 123 (0, 0))
      obtain ⟨w5, hw5⟩ : ∃ w5, wr.alloc (.cells #[.int .u32 t.ep, .int .u64 t.st, .int .u64 t.sq, .int .u64 t.fl, .int .i64 t.ix, .int .i64 t.ct, .int .i64 t.id, .int .i64 (p : Int)] 123 (0, 0)) = w5 := ⟨_, rfl⟩
      rw [hw5] at hA hsA
      have hlk := Sat.ulookup (P := Tryz.prog) Tryz.underlying155 Tryz.underlying84 (z := .int .u64 0) (by kernel_rfl) hA.front3 t.ep true
      obtain ⟨w6, hup, h6, d6, ce⟩ := Sat.umapUpdate (P := Tryz.prog) Tryz.underlying155 Tryz.underlying84 hA.front3 t.ep (.int .u64 t.st)
      rw [kvU_get] at hlk
      rw [kvU_upd] at h6
      have k3 : w5.cell? ⟨b3, 0, none⟩ = some (.map (some bm)) := hA.front2.cell 0
      have e0 : w5.cell? ⟨wr.heap.size, 0, none⟩ = some (.int .u32 t.ep) := hA.cell 0
      have e1 : w5.cell? ⟨wr.heap.size, 1, none⟩ = some (.int .u64 t.st) := hA.cell 1
      have hsd6 := hsA.trans d6
      have H6 := SL.hid h6; have HA := SL.hid hA; have Hst := SL.hid hst; have Hup := SL.hid hup
      have HD6 := SL.hid hsd6; have HsA := SL.hid hsA
      clear hR ht h6 hA hst ce hup hsat e0 e1 hsA hsd6 d6
      subst hw5
      cases hg : SU.kget M t.ep with
      | none =>
        rw [hg] at hlk
        have hst2 : (L.take (k + 1)).foldl tstart [] = SU.upd M t.ep t.st := by rw [Hst.out]; simp only [tstart, hg]
        have Hst2 := SL.hid hst2
        simp only [if_true, Option.map_none, Option.getD_none, Option.isSome_none] at hlk
        have hup := Hup.out
        clear hst2 Hst hg
        gi_wp2_with fail
        go_roundw
        case rel => exact ⟨k + 1, by omega, by go_num, by rw [Hst2.out]; exact (H6.out.to (by ac_rfl : _ = pt wr.heap.size _ * (pt b3 _ * (SU.mp bm _ * whole w)))).right, HD6.out⟩
        case measure => simp [intOf]; omega
      | some s =>
        rw [hg] at hlk
        simp only [if_true, Option.map_some, Option.getD_some, Option.isSome_some] at hlk
        by_cases hs : t.st < s
        · have hst2 : (L.take (k + 1)).foldl tstart [] = SU.upd M t.ep t.st := by rw [Hst.out]; simp only [tstart, hg, if_pos hs]
          have Hst2 := SL.hid hst2
          have hup := Hup.out
          clear hst2 Hst hg
          gi_wp2_with fail
          go_roundw
          case rel => exact ⟨k + 1, by omega, by go_num, by rw [Hst2.out]; exact (H6.out.to (by ac_rfl : _ = pt wr.heap.size _ * (pt b3 _ * (SU.mp bm _ * whole w)))).right, HD6.out⟩
          case measure => simp [intOf]; omega
        · have hst2 : (L.take (k + 1)).foldl tstart [] = M := by rw [Hst.out]; simp only [tstart, hg, if_neg hs]
          have Hst2 := SL.hid hst2
          clear hst2 Hst hg
          gi_wp2_with fail
          go_roundw
          case rel => exact ⟨k + 1, by omega, by go_num, by rw [Hst2.out]; exact HA.out.right, HsA.out⟩
          case measure => simp [intOf]; omega
    · obtain rfl : k = L.length := by omega
      rw [List.take_length] at hsat
      have hM : L.foldl tstart [] = startsL L := rfl
      rw [hM] at hsat
      have hkl : (startsL L).length ≤ 1000000 := Nat.le_trans (startsL_len L) hl
      generalize hMM : startsL L = M at hsat hkl
      have k3 : wr.cell? ⟨b3, 0, none⟩ = some (.map (some bm)) := hsat.cell 0
      have h2 := hsat.alloc (.cells #[.int .u64 18446744073709551615] 37 (0, 0))
      have d2 := hside.alloc (.cells #[.int .u64 18446744073709551615] 37 (0, 0))
      have k3' : (wr.alloc (.cells #[.int .u64 18446744073709551615] 37 (0, 0))).cell? ⟨b3, 0, none⟩ = some (.map (some bm)) := h2.front2.cell 0
      clear hsat hside hM
      gi_wp2_with fail
      generalize wr.alloc (.cells #[.int .u64 18446744073709551615] 37 (0, 0)) = w2 at *
      generalize wr.heap.size = b8 at *
      refine callV (keysFU_any _ bm) ?_
      rintro e w3 ⟨rfl, rfl⟩
      have h3 := h2.alloc (.cells #[.map (some bm)] 155 (0, 0))
      have d3 := d2.alloc (.cells #[.map (some bm)] 155 (0, 0))
      have hkk : (kvU M).map Prod.fst = M.map Prod.fst := by simp [kvU]
      have Hkl : Hid (∀ ys : List Int, ys.Perm (keysOfU (kvU M)) → ys.length ≤ 1000000) := fun ys h => by rw [h.length_eq]; simpa [keysOfU, kvU] using hkl
      have Hpl : Hid (∀ ys : List Int, partOfU (kvU M) ys → ys.length ≤ 1000000) := fun ys h => Nat.le_trans (SU.nodup_le h.1 h.2) (by simpa [keysOfU, kvU] using hkl)
      clear h2 d2 k3 k3' hlt hk
      gi_wp2_with fail
      generalize w2.alloc (.cells #[.map (some bm)] 155 (0, 0)) = w3 at *
      refine callV (sorted_anyU (enters Tryz.func116 (by kernel_rfl) rfl) (fun n => keys_iterU n w2.heap.size bm (kvU M)) 1000000 (by decide) Hpl.out Hkl.out _ _ (pt b8 (.cells #[.int .u64 18446744073709551615] 37 (0, 0)) * (pt b3 (.cells #[.map (some bm)] 155 (0, 0)) * whole w)) (Side.refl _) (h3.to (by ac_rfl))) ?_
      rintro e w4 ⟨v, ys, hys, rfl, h4, d4⟩
      have hks : sortedU ys = keysL L := by
        unfold keysL; rw [hMM, ← hkk]; exact sortedU_congr hys
      have hyl : ys.length = (keysL L).length := by rw [← hks, sortedU_length]
      have hKl : (keysL L).length ≤ 1000000 := by rw [← hyl]; exact Hkl.out _ hys
      rw [hks, hyl] at h4
      generalize hK : keysL L = K at *
      obtain ⟨va, vc, rfl⟩ := sl_shape h4
      have d5 := d3.trans d4
      have HK := SL.hid hK; have HKl := SL.hid hKl; have HM := SL.hid hMM
      clear h3 d3 d4 hys hks hyl hkk hK hKl hMM Hkl Hpl
      gi_wp2_with fail
      refine callV (backF_any _ _ _ _) ?_
      rintro e w5 ⟨rfl, rfl⟩
      have h5 := h4.alloc (.cells #[.slice va K.length vc] 160 (0, 0))
      have d6 := d5.alloc (.cells #[.slice va K.length vc] 160 (0, 0))
      gi_wp2_with fail
      generalize w4.alloc (.cells #[.slice va K.length vc] 160 (0, 0)) = w5 at *
      have h6 : Sat w5 (TruA b3 bm b8 M [] * (BackIt w4.heap.size (.slice va K.length vc) K * whole w)) := by
        have := (h5.to (by ac_rfl : _ = pt w2.heap.size (.cells #[.map (some bm)] 155 (0, 0)) * ((pt b3 (.cells #[.map (some bm)] 155 (0, 0)) * (SU.mp bm (kvU M) * pt b8 (.cells #[.int .u64 18446744073709551615] 37 (0, 0)))) * ((pt w4.heap.size (.cells #[.slice va K.length vc] 160 (0, 0)) * sl 84 1 (.slice va K.length vc) K.length (i64vU K)) * whole w)))).right
        unfold TruA BackIt
        exact this
      clear h5 h4 d5
      refine wpIn_range_t (w0 := w) rfl (by decide) (gf := 113) (lb := #[.pointer (some ⟨w4.heap.size, 0, none⟩)]) rfl trivial (enters Tryz.func113 (by kernel_rfl) rfl)
        (back_iter _ w4.heap.size (.slice va K.length vc) K HKl.out) truT (TruA b3 bm b8 M) (fun pre x => TruA b3 bm b8 M pre) _ ?hps d6 h6 ?assign ?body ?done
      case hps =>
        intro x vs Fr W h
        unfold backT at h
        obtain ⟨rfl, _⟩ := Sat.fact_iff.1 h
        rfl
      case assign =>
        intro l r pre x vs Fr W K _ hsd H hK
        have H1 : Sat W (backT x vs * (TruA b3 bm b8 M pre * (pt l (.loop r) * Fr))) := H.front2
        unfold backT at H1
        obtain ⟨rfl, H2⟩ := Sat.fact_iff.1 H1
        clear H H1
        gi_wp2
        exact hK _ hsd H2
      case body =>
        intro l r pre x Fr W hp hsd H
        obtain ⟨i, ep⟩ := x
        have hfold : (pre ++ [(i, ep)]).foldl backS (M, u64max) = backS (pre.foldl backS (M, u64max)) (i, ep) := by rw [List.foldl_append]; rfl
        unfold TruA at H
        generalize pre.foldl backS (M, u64max) = s at H hfold
        obtain ⟨M', ls⟩ := s
        dsimp only at H
        have Hfold := SL.hid hfold
        clear hfold
        have H1 : Sat W (SU.mp bm (kvU M') * (pt b3 (.cells #[.map (some bm)] 155 (0, 0)) * (pt b8 (.cells #[.int .u64 ls] 37 (0, 0)) * (pt l (.loop r) * Fr)))) := H.to (by ac_rfl)
        have hlk := Sat.ulookup (P := Tryz.prog) Tryz.underlying155 Tryz.underlying84 (z := .int .u64 0) (by kernel_rfl) H1 ep false
        rw [kvU_get] at hlk
        have hlv : ((SU.kget M' ep).map (Value.int .u64)).getD (.int .u64 0) = .int .u64 ((SU.kget M' ep).getD 0) := by cases SU.kget M' ep <;> rfl
        simp only [Bool.false_eq_true, if_false, hlv] at hlk
        obtain ⟨w6, hup, h6', d6', ce⟩ := Sat.umapUpdate (P := Tryz.prog) Tryz.underlying155 Tryz.underlying84 H1 ep (.int .u64 ls)
        rw [kvU_upd] at h6'
        have k3 : W.cell? ⟨b3, 0, none⟩ = some (.map (some bm)) := H1.front2.cell 0
        have k8 : W.cell? ⟨b8, 0, none⟩ = some (.int .u64 ls) := H1.front3.cell 0
        have k8' : w6.cell? ⟨b8, 0, none⟩ = some (.int .u64 ls) := h6'.front3.cell 0
        have f8' : w6.frozen? ⟨b8, 0, none⟩ = false := h6'.front3.frozen 0
        have hbs : backS (M', ls) (i, ep) = (SU.upd M' ep ls, min ls ((SU.kget M' ep).getD 0)) := rfl
        have hset := h6'.front3.setCell 0 (.int .u64 (min ls ((SU.kget M' ep).getD 0)))
        simp only [List.setIfInBounds_toArray, List.set_cons_zero] at hset
        have Hset := SL.hid hset; have Hbs := SL.hid hbs; have Hd := SL.hid ((hsd.trans d6').setCell ⟨b8, 0, none⟩ (.int .u64 (min ls ((SU.kget M' ep).getD 0))))
        clear H H1 hset hbs h6' ce d6' hsd hlv
        generalize (SU.kget M' ep).getD 0 = st at *
        simp only [truT, List.setIfInBounds_toArray, List.set_cons_succ, List.set_cons_zero]
        gi_wp2
        all_goals
          first
            | (have e : min ls st = st := by omega
               rw [e] at Hset Hbs Hd)
            | (have e : min ls st = ls := by omega
               rw [e] at Hset Hbs Hd)
            | skip
          refine ⟨Hd.out, ?_⟩
          unfold TruA
          rw [Hfold.out, Hbs.out]
          exact Hset.out.to (by ac_rfl)
      case done =>
        intro D2 ys W hS hsd H
        subst hS
        have hMF : ((idx K).reverse.foldl backS (M, u64max)).1 = (ebk K M).1 := rfl
        unfold TruA at H
        rw [hMF] at H
        have hfin : freshL L = L.filter (tkeep (ebk K M).1) := by unfold freshL; rw [HK.out, HM.out]
        have Hfin := SL.hid hfin
        clear hMF hfin
        generalize (ebk K M).1 = MF at H Hfin
        have H1 : Sat W (pt b3 (.cells #[.map (some bm)] 155 (0, 0)) * (SU.mp bm (kvU MF) * (pt D2 (.deferred (some [])) * whole w))) :=
          (H.to (by ac_rfl : _ = (pt b8 (.cells #[.int .u64 ((idx K).reverse.foldl backS (M, u64max)).2] 37 (0, 0)) * BackIt w4.heap.size (.slice va K.length vc) K) * (pt b3 (.cells #[.map (some bm)] 155 (0, 0)) * (SU.mp bm (kvU MF) * (pt D2 (.deferred (some [])) * whole w))))).right
        clear H h6 d6 hR
        gi_wp2
        gi_loopw [12, 64] (fun u12 u64 wr => TruRel3 b3 bm MF L D2 w u12 u64 wr) (fun _ u _ => L.length - (intOf u).toNat)
        case atStart => exact ⟨0, Nat.zero_le _, rfl, H1.slNil _ _, hsd⟩
        case round =>
          clear H1 hsd
          obtain ⟨k, hk, rfl, hsat, hside⟩ := hrel
          have hR : RdF wr (.slice a L.length c) L := H0.out.keep (hsat.to (by ac_rfl : _ = (sl 123 8 u12 _ _ * (pt b3 _ * (SU.mp bm _ * pt D2 _))) * whole w))
          by_cases hlt : k < L.length
          · have hlt' : (k : Int) < (L.length : Int) := by omega
            obtain ⟨g, off, c', hv, t, p, ht, c0, c1, c2, c3, c4, c5, c6, c7⟩ := fnd_cells hR hlt
            cases hv
            have hst : (L.take (k + 1)).filter (tkeep MF) = (L.take k).filter (tkeep MF) ++ (if tkeep MF (t, p) = true then [(t, p)] else []) := by
              rw [List.take_succ_eq_append_getElem hlt, List.filter_append, ht]
              congr 1
              cases h : tkeep MF (t, p) <;> simp [h]
            have hfl : ((L.take k).filter (tkeep MF)).length ≤ 1000000 := Nat.le_trans (List.length_filter_le _ _) (by simp; omega)
            generalize (L.take k).filter (tkeep MF) = L1 at hsat hst hfl
            obtain ⟨ua, uc, rfl⟩ := sl_shape hsat
            have hA := hsat.alloc (.cells #[.int .u32 t.ep, .int .u64 t.st, .int .u64 t.sq, .int .u64 t.fl, .int .i64 t.ix, .int .i64 t.ct, .int .i64 t.id, .int .i64 (p : Int)] 123 (0, 0))
            have hsA := hside.alloc (.cells #[.int .u32 t.ep, .int .u64 t.st, .int .u64 t.sq, .int .u64 t.fl, .int .i64 t.ix, .int .i64 t.ct, .int .i64 t.id, .int .i64 (p : Int)] 123 (0, 0))
            have hlk := Sat.ulookup (P := Tryz.prog) Tryz.underlying155 Tryz.underlying84 (z := .int .u64 0) (by kernel_rfl) hA.front4 t.ep false
            rw [kvU_get] at hlk
            have hlv : ((SU.kget MF t.ep).map (Value.int .u64)).getD (.int .u64 0) = .int .u64 ((SU.kget MF t.ep).getD 0) := by cases SU.kget MF t.ep <;> rfl
            simp only [Bool.false_eq_true, if_false, hlv] at hlk
            have k3 := hA.front3.cell 0
            simp only [List.getElem?_toArray, List.getElem?_cons_zero] at k3
            have htk : tkeep MF (t, p) = decide (t.sq < (SU.kget MF t.ep).getD 0) := rfl
            rw [htk] at hst
            have Hst := SL.hid hst
            generalize (SU.kget MF t.ep).getD 0 = s0 at hlk Hst
            by_cases hs0 : t.sq < s0
            · obtain ⟨xa, xc, w6, hrun, h6, d6⟩ := append_found hA.front2 (t, p) hfl
              unfold fdC at hrun
              dsimp only at hrun
              rw [World.size_alloc] at hrun
              have hst2 : (L.take (k + 1)).filter (tkeep MF) = L1 ++ [(t, p)] := by rw [Hst.out, if_pos (by simpa using hs0)]
              have Hst2 := SL.hid hst2; have Hrun := SL.hid hrun; have H6 := SL.hid h6; have D6 := SL.hid (hsA.trans d6)
              clear hst hst2 hrun h6 d6 hA hsA hR ht Hst htk hlv hsat
              gi_wp2_with (gi_at_builtin; refine wpListIn_append_run Hrun.out _ _ rfl rfl rfl rfl rfl ?_)
              go_roundw
              case rel => exact ⟨k + 1, by omega, by go_num, by rw [Hst2.out]; exact H6.out.drop2, D6.out⟩
              case measure => simp [intOf]; omega
            · have hst2 : (L.take (k + 1)).filter (tkeep MF) = L1 := by rw [Hst.out, if_neg (by simpa using hs0), List.append_nil]
              have Hst2 := SL.hid hst2
              have HA := SL.hid hA.right
              clear hst hst2 hA hR ht Hst htk hlv hsat
              gi_wp2
              go_roundw
              case rel => exact ⟨k + 1, by omega, by go_num, by rw [Hst2.out]; exact HA.out, hsA⟩
              case measure => simp [intOf]; omega
          · obtain rfl : k = L.length := by omega
            rw [List.take_length, ← Hfin.out] at hsat
            obtain ⟨xa, xc, rfl⟩ := sl_shape hsat
            have hK : wr.heap[D2]? = some (.deferred (some [])) := hsat.front4.heap
            have K11 := (hsat.front4.putObj (.deferred none)).right
            have D11 := hside.putObj D2 (.deferred none)
            clear hsat hside hR
            gi_wp2
            refine ⟨by simp, .inl ⟨_, _, rfl, run_takeDeferred hK, ?_⟩⟩
            exact ⟨_, results_tmp rfl _ _ _, .slice xa (freshL L).length xc, rfl, K11.drop2.drop2, D11⟩
end Go.Proofs.YtdafdidmbeecfaaGreatDoor
end

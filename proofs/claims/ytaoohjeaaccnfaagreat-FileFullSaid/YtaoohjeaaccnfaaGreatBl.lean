/- batch: List of a batch over any reader (slices.Sort, maps.Keys, AppendSeq, Collect, Sorted, All, List), for the files' batch. -/
import Derived.Test.YtaoohjeaaccnfaaGreatSh
import Derived.OwnWalkIn
import Derived.TacticsInMore
import Derived.LoopNIn
import Derived.LoopIn
import Derived.Deep.LoopGhost
import Derived.Test.YtaoohjeaaccnfaaGreatRf
import Derived.Test.YtaoohjeaaccnfaaGreatMp
import Derived.Test.YtaoohjeaaccnfaaGreatBb
namespace Go.Proofs.YtaoohjeaaccnfaaGreat.Ba
set_option linter.unusedVariables false
set_option linter.unusedSimpArgs false
open Go.RowKit Go.SL Go.Sort
def i64v (l : List Int) : List Value := l.map (Value.int .i64)
/-- Sorted. -/
def sorted (l : List Int) : List Int := l.mergeSort fun x y => decide (x ≤ y)
theorem sorted_length (l : List Int) : (sorted l).length = l.length := List.length_mergeSort ..
theorem sorted_perm (l : List Int) : (sorted l).Perm l := List.mergeSort_perm ..
theorem putCells_front (d : List Int) (c : Array Value) (h : d.length ≤ c.size) :
    putCells (Value.int .i64) 0 d.toArray c = (i64v d ++ c.toList.drop d.length).toArray := by
  apply Array.ext_getElem?
  intro k
  simp only [putCells, Array.getElem?_mapIdx, i64v, List.getElem?_toArray, List.getElem?_append, List.length_map, List.getElem?_map, List.getElem?_drop, List.size_toArray]
  by_cases hk : k < d.length
  · rw [if_pos hk, Array.getElem?_eq_getElem (by omega), List.getElem?_eq_getElem hk]
    simp [hk]
  · rw [if_neg hk, show d.length + (k - d.length) = k by omega]
    cases hc : c[k]? with
    | none => simp [← Array.getElem?_toList] at hc ⊢; omega
    | some x =>
      simp only [Option.map_some]
      rw [if_neg (by omega), ← hc]; simp
theorem Sat.putRow {w : World} {b : Nat} {c : Array Value} {T : TypeId} {fr : Nat × Nat} {Fr : Assn} (h : Sat w (pt b (.cells c T fr) * Fr)) (d : List Int) (n : Nat) (os : Array Obj) (hd : d.length ≤ c.size) :
    Sat (grow (putRow (Value.int .i64) (Go.Sort.ahead w n) b 0 d.toArray) os) (pt b (.cells (i64v d ++ c.toList.drop d.length).toArray T fr) * Fr) ∧ Side w (grow (putRow (Value.int .i64) (Go.Sort.ahead w n) b 0 d.toArray) os) := by
  have hb := h.lt
  have hh : ∀ k, k < w.heap.size → (grow (Go.Sort.putRow (Value.int .i64) (Go.Sort.ahead w n) b 0 d.toArray) os).heap[k]? = (Go.Sort.putRow (Value.int .i64) (Go.Sort.ahead w n) b 0 d.toArray).heap[k]? := fun k hk => by
    rw [show (grow (Go.Sort.putRow (Value.int .i64) (Go.Sort.ahead w n) b 0 d.toArray) os).heap = (Go.Sort.putRow (Value.int .i64) (Go.Sort.ahead w n) b 0 d.toArray).heap ++ os from rfl]
    exact Array.getElem?_append_left (by rw [size_putRow]; exact hk)
  have h1 : Sat (Go.Sort.putRow (Value.int .i64) (Go.Sort.ahead w n) b 0 d.toArray) (pt b (.cells (i64v d ++ c.toList.drop d.length).toArray T fr) * Fr) := by
    refine h.upd ?_ fun k hk => ?_
    · show (w.heap.modify b _)[b]? = _
      rw [Array.getElem?_modify, if_pos rfl, h.heap, ← putCells_front d c hd]
      rfl
    · show (w.heap.modify b _)[k]? = _
      rw [Array.getElem?_modify, if_neg (fun e => hk e.symm)]
  refine ⟨h1.carry fun k o hk => ?_, ⟨rfl, rfl, rfl, by rw [size_grow, size_putRow]; exact Nat.le_add_right _ _⟩⟩
  have := (Array.getElem?_eq_some_iff.1 hk).1
  rw [size_putRow] at this
  rw [hh k this]; exact hk
/-- slices.Sort. -/
theorem sort_any (v : Value) (zs : List Int) (w : World) (Fr : Assn) (h : Sat w (sl 3 1 v zs.length (i64v zs) * Fr)) (hsz : zs.length < 4611686018427387904) :
    Calls Tryz.prog 121 #[v] w fun e w' => e = .returned (.tuple #[]) ∧ Sat w' (sl 3 1 v zs.length (i64v (sorted zs)) * Fr) ∧ Side w w' := by
  rcases h.slCases with ⟨rfl, hn, hz, hF⟩ | ⟨g, cap, cur, rfl, h3, h4, h5, h6, hF⟩
  · obtain rfl : zs = [] := List.eq_nil_of_length_eq_zero hn
    refine (Tryz.slices_Sort_int_none _ _ _).mono ?_
    rintro e w' ⟨rfl, rfl⟩
    exact ⟨rfl, by simpa [sorted] using h, Side.refl _⟩
  · have hc : ∀ j, j < zs.length → cur[j]? = some (.int .i64 zs[j]!) := fun j hj => by
      have e := congrArg (·[j]?) h6
      simp only [i64v, List.getElem?_take, Nat.mul_one, hj, if_true, List.getElem?_map, Array.getElem?_toList] at e
      rw [e, List.getElem?_eq_getElem hj]; simp [hj]
    refine (Tryz.slices_Sort_int g 0 cap zs w (fun j hj => ?_) hF.lt hsz).mono ?_
    · have hj' : j < zs.length := by simpa using hj
      refine ⟨?_, hF.frozen _⟩
      rw [hF.cell, Nat.zero_add, hc j hj']; simp
    · rintro e w' ⟨rfl, n, os, rfl⟩
      obtain ⟨H, hs⟩ := Sat.putRow hF (sorted zs) n os (by rw [sorted_length, h5]; omega)
      refine ⟨rfl, ?_, hs⟩
      have := Sat.slOf (sz := 1) (n := zs.length) (cap := cap) H h3 h4 (by
        simp only [List.size_toArray, List.length_append, i64v, List.length_map, sorted_length, List.length_drop, Array.length_toList, h5]; omega)
      refine this.to ?_
      congr 2
      rw [Nat.mul_one]
      exact List.take_left' (by rw [i64v, List.length_map, sorted_length])
end Go.Proofs.YtaoohjeaaccnfaaGreat.Ba
namespace Go.Proofs.YtaoohjeaaccnfaaGreat.Ba
set_option linter.unusedVariables false
set_option linter.unusedSimpArgs false
open Go.RowKit Go.SL
attribute [local go_sem] Oper.semAt_some
/-- An int comes alone. -/
def intT (x : Int) (vs : Array Value) : Assn := fact (vs = #[.int .i64 x])
theorem Sat.intT {w : World} {Fr : Assn} (x : Int) (h : Sat w Fr) : Sat w (intT x #[.int .i64 x] * Fr) := Sat.fact_iff.2 ⟨rfl, h⟩
def KeysRel (b r bx : Nat) (o : Obj) (M : KV) (A : List Int → Assn) (G : Assn) (w0 : World) (k : Nat) (wr : World) : Prop :=
  ∃ D it, M.length ≤ D.length + k ∧ Iter b o M D it ∧ Side w0 wr ∧ Sat wr (pt r it * (pt b o * (pt bx (.cells #[.map (some b)] 108 (0, 0)) * (A (D.map Prod.fst) * G))))
def keysOf (M : KV) : List Int := M.map Prod.fst
def partOf (M : KV) (ys : List Int) : Prop := ys.Nodup ∧ ∀ x ∈ ys, x ∈ keysOf M
set_option maxRecDepth 100000 in
set_option maxHeartbeats 1000000 in
theorem keys_iter (n : Nat) (bx b : Nat) (M : KV) :
    Iterates Fence.wide n Tryz.prog 122 #[.pointer (some ⟨bx, 0, none⟩)] (pt bx (.cells #[.map (some b)] 108 (0, 0)) * mp b M)
      intT (fun ys => ys.Perm (keysOf M)) (partOf M) := by
  intro l A Ax G w0 w hY hs h0
  obtain ⟨o, hm, hb, hS⟩ := Sat.mpHeap (F := pt bx (.cells #[.map (some b)] 108 (0, 0)) * (A [] * G)) (h0.to (by ac_rfl))
  obtain ⟨it, hrg, hit⟩ := run_range_int (P := Tryz.prog) Tryz.underlying108 hb hm
  have hcell := hS.front2.cell 0
  have hfr := hS.front2.frozen 0
  have hA := hS.alloc it
  have hs1 : Side w0 (w.alloc it) := hs.alloc _
  generalize w.alloc it = w1 at hA hrg hs1
  have H := hid h0; clear h0
  refine callsIn_of_wp Tryz.func122 rfl trivial ?_ rfl
  simp only [Tryz.ntmps122, List.size_toArray, List.length_cons, List.length_nil, Nat.reduceAdd, Nat.reduceSub, Array.replicate_succ, Array.replicate_zero, List.push_toArray, List.append_toArray, List.nil_append, List.cons_append]
  gi_wp2
  gi_loopw [] (fun wr => ∃ k, KeysRel b w.heap.size bx o M A G w0 k wr) (fun wr => leastOf (fun k => KeysRel b w.heap.size bx o M A G w0 k wr))
  case atStart => exact ⟨M.length, [], it, by simp, hit, hs1, hA⟩
  case round =>
    obtain ⟨hk, hmin⟩ := leastOf_spec hrel
    have hgk : leastOf (fun k => KeysRel b w.heap.size bx o M A G w0 k wr) = leastOf (fun k => KeysRel b w.heap.size bx o M A G w0 k wr) := rfl
    generalize leastOf (fun k => KeysRel b w.heap.size bx o M A G w0 k wr) = gk at hk hmin ⊢
    obtain ⟨D, it', hlen, hit', hside, hsat⟩ := hk
    clear hgk hrg hcell hfr hrel hmin
    have hbr : wr.heap[b]? = some o := hsat.front2.heap
    rcases hsat.next (P := Tryz.prog) hbr hit' with ⟨hperm, hnx⟩ | ⟨p, it2, w2, hp, hpD, hnx, hsat2, hit2, hside2, hb2, hen⟩
    · have Hp := hid hperm; clear hperm
      gi_wp2
      go_end0
      refine ⟨⟨_, rfl⟩, hside, .inl ⟨D.map Prod.fst, Hp.out.map _, ?_⟩⟩
      have := hsat.right
      exact (Sat.mpOf this hm).to (by ac_rfl)
    · have hnd := iter_nodup hit2
      have hSp : partOf M (D.map Prod.fst ++ [p.1]) := ⟨by simpa using hnd.1, fun x hx => by
        have : x ∈ (D ++ [p]).map Prod.fst := by simpa using hx
        obtain ⟨q, hq, rfl⟩ := List.mem_map.1 this
        exact List.mem_map.2 ⟨q, hnd.2 q hq, rfl⟩⟩
      have hle := iter_le hit2
      rw [List.length_append, List.length_singleton] at hle
      obtain ⟨fn, tmps, assign, body, hy, hR⟩ := hY (D.map Prod.fst) p.1 #[.int .i64 p.1] (pt w.heap.size it2 * (pt b o * (pt bx (.cells #[.map (some b)] 108 (0, 0)) * G))) w2 hSp (hside.trans hside2)
        ((Sat.intT p.1 hsat2).to (by ac_rfl))
      have K := hid hlen; have K2 := hid hle; have K3 := hid hm; clear hlen hle hm hb hb2 hbr hY
      gi_wp2
      refine ⟨fun h => (by cases h), hR.mono ?_⟩
      rintro e W' (⟨rfl, hs3, hsat3⟩ | ⟨rfl, hs3, hsat3⟩)
      · have hrel' : KeysRel b w.heap.size bx o M A G w0 (gk - 1) W' :=
          ⟨D ++ [p], it2, by have := K.out; simp; omega, hit2, hs3, by rw [List.map_append]; exact hsat3.to (by simp only [List.map_cons, List.map_nil]; ac_rfl)⟩
        gi_wp2
        go_roundw
        case rel => exact ⟨_, hrel'⟩
        case measure => exact Nat.lt_of_le_of_lt ((leastOf_spec ⟨_, hrel'⟩).2 _ hrel') (by have := K.out; have := K2.out; omega)
      · gi_wp2
        refine bodyPost_ret (results_none rfl _ _ _) rfl ?_
        refine ⟨⟨_, rfl⟩, hs3, .inr ⟨_, hSp, ?_⟩⟩
        exact (Sat.mpOf (hsat3.to (by ac_rfl : _ = pt b o * (pt w.heap.size it2 * (Ax (D.map Prod.fst ++ [p.1]) * (pt bx (.cells #[.map (some b)] 108 (0, 0)) * G))))) K3.out).front2.right.to (by ac_rfl)
end Go.Proofs.YtaoohjeaaccnfaaGreat.Ba
namespace Go.Proofs.YtaoohjeaaccnfaaGreat.Ba
set_option linter.unusedVariables false
set_option linter.unusedSimpArgs false
open Go.RowKit Go.SL
attribute [local go_sem] Oper.semAt_some
theorem info_int : (Tryz.prog.info? 3).map (fun i => (i.zero, i.size, i.bytes)) = some (some (.int .i64 0), 1, 8) := by kernel_rfl
def SeqQ (It G : Assn) (S : List Int → Prop) (w0 : World) (e : Ending) (w' : World) : Prop :=
  ∃ v ys, S ys ∧ e = .returned v ∧ Sat w' (sl 3 1 v ys.length (i64v ys) * (It * G)) ∧ Side w0 w'
/-- The variable that grows. -/
def GrowA (bx : Nat) (ys : List Int) : Assn := ex fun v => pt bx (.cells #[v] 22 (0, 0)) * sl 3 1 v ys.length (i64v ys)
set_option maxRecDepth 100000 in
set_option maxHeartbeats 1000000 in
theorem appendSeq_any {gf : Nat} {lb : Array Value} {It : Assn} {S Sp : List Int → Prop} (eg : ∀ args w, (callFunc gf args).run Tryz.prog w = .ok (.enter gf args) w)
    (hit : ∀ n, Iterates Fence.wide n Tryz.prog gf lb It intT S Sp) (N : Nat) (hN : N ≤ 1000000000) (hSp : ∀ ys, Sp ys → ys.length ≤ N) (w w0 : World) (G : Assn) (hs : Side w0 w) (h0 : Sat w (It * G)) :
    Calls Tryz.prog 134 #[.slice none 0 0, .func (.func gf) #[] lb] w (SeqQ It G S w0) := by
  obtain ⟨i0, hi, hz, hs0, hb0⟩ := info_parts info_int
  refine (callsIn_wide (n := 9)).1 ?_
  refine callsIn_of_wp_marks Tryz.func134 rfl trivial ?_ rfl
  simp only [Tryz.ntmps134, List.size_toArray, List.length_cons, List.length_nil, Nat.reduceAdd, Nat.reduceSub, Array.replicate_succ, Array.replicate_zero, List.push_toArray, List.append_toArray, List.nil_append, List.cons_append]
  gi_wp2
  have hA := h0.alloc (.cells #[.slice none 0 0] 22 (0, 0))
  have hs1 := hs.alloc (.cells #[.slice none 0 0] 22 (0, 0))
  have hstart : Sat (w.alloc (.cells #[.slice none 0 0] 22 (0, 0))) (GrowA w.heap.size [] * (It * G)) :=
    Sat.ex_star_iff.2 ⟨.slice none 0 0, (hA.slNil 3 1).to (by simp only [i64v, List.map_nil, List.length_nil]; ac_rfl)⟩
  generalize w.alloc (.cells #[.slice none 0 0] 22 (0, 0)) = w1 at hstart hs1 ⊢
  clear hA
  refine wpIn_range (w0 := w0) rfl (by decide) (gf := gf) (lb := lb) rfl trivial eg (hit _) (GrowA w.heap.size) (fun _ _ => fact False)
    (fun pre x a' => fact (a' = { tmps := #[.slice none 0 0, .func (.func gf) #[] lb, .pointer (some ⟨w.heap.size, 0, none⟩), undef, .slice none 0 0, .int .i64 x, .func (.func gf) #[] lb, .int .i64 x, undef, undef, undef, undef, undef], defers := [] }) * GrowA w.heap.size pre) G ?hps hs1 hstart ?assign ?body ?done ?stop
  case hps =>
    intro x vs Fr W h
    obtain ⟨rfl, _⟩ := Sat.fact_iff.1 h
    rfl
  case assign =>
    intro l r pre x vs Fr W K _ hsd H hK
    obtain ⟨rfl, H2⟩ := Sat.fact_iff.1 (H.to (star_left_comm _ _ _))
    clear H
    gi_wp2
    exact hK _ _ hsd ((Sat.fact_iff.2 ⟨rfl, H2⟩ : Sat W (fact _ * _)).to (star_assoc _ _ _).symm)
  case body =>
    intro l r pre x a' Fr W hp hsd H
    obtain ⟨rfl, H2⟩ := Sat.fact_iff.1 (H.to (star_assoc _ _ _))
    clear H
    obtain ⟨v, H⟩ := Sat.ex_star_iff.1 H2
    clear H2
    have hlen : pre.length + 1 ≤ 1000000000 := by have := hSp _ hp; simp at this; omega
    have H1 : Sat W (pt w.heap.size (.cells #[v] 22 (0, 0)) * (sl 3 1 v pre.length (i64v pre) * (pt l (.loop r) * Fr))) := H.to (star_assoc _ _ _)
    have hcell := H1.cell 0
    have hfr := H1.frozen 0
    have hA := H1.alloc (.cells #[.int .i64 x] 3 (0, 0))
    have hR : Rds (W.alloc (.cells #[.int .i64 x] 3 (0, 0))) 1 (.slice (some ⟨W.heap.size, 0, none⟩) 1 1) 1 [.int .i64 x] :=
      ⟨rfl, .inr ⟨_, _, rfl, fun j u hu => by
        rw [Addr.add_lit, Nat.zero_add]
        exact (hA.cell j).trans (by simpa using hu)⟩⟩
    obtain ⟨v', w', hrun, hsat', hside'⟩ := Sat.append (P := Tryz.prog) (ty := 22) (F := pt w.heap.size (.cells #[v] 22 (0, 0)) * (pt l (.loop r) * Fr)) Tryz.underlying22 hi hz hs0 hb0 rfl (hA.right.to (by ac_rfl)) hR (by simp [Value.oneCell']) (by unfold maxLen; omega) (by omega)
    obtain ⟨aa, ac, rfl⟩ := sl_shape hsat'
    have hcell' := hsat'.front2.cell 0
    have hfr' := hsat'.front2.frozen 0
    have hset := hsat'.front2.setCell 0 (.slice aa (pre.length + 1) ac)
    clear hA hR hi hz hs0 hb0 H H1 hlen
    have Hrun := hid hrun; clear hrun
    gi_wp2_with (gi_at_builtin; refine wpListIn_append_run Hrun.out _ _ rfl rfl rfl rfl rfl ?_)
    refine ⟨(hsd.alloc _).trans hside' |>.setCell _ _, Sat.ex_star_iff.2 ⟨.slice aa (pre.length + 1) ac, hset.to ?_⟩⟩
    simp only [i64v, List.map_append, List.length_append, List.map_cons, List.map_nil, List.length_cons, List.length_nil]
    simp only [List.setIfInBounds_toArray, List.set_cons_zero]
    ac_rfl
  case done =>
    intro D ys W hS hsd H
    obtain ⟨v, H⟩ := Sat.ex_star_iff.1 H
    have hK : W.heap[D]? = some (.deferred (some [])) := (H.to (by ac_rfl : _ = pt D (.deferred (some [])) * (pt w.heap.size (.cells #[v] 22 (0, 0)) * sl 3 1 v ys.length (i64v ys) * (It * G)))).heap
    have H1 : Sat W (pt w.heap.size (.cells #[v] 22 (0, 0)) * (sl 3 1 v ys.length (i64v ys) * (It * (pt D (.deferred (some [])) * G)))) := H.to (star_assoc _ _ _)
    have hcell := H1.cell 0
    have hfr := H1.frozen 0
    have HD : Sat W (pt D (.deferred (some [])) * (sl 3 1 v ys.length (i64v ys) * (It * G))) := H1.right.to (by ac_rfl)
    gi_wp2
    refine ⟨by simp, .inl ⟨_, _, rfl, run_takeDeferred hK, ?_⟩⟩
    exact ⟨_, results_tmp rfl _ _ _, v, ys, hS, rfl, (HD.putObj _).right, hsd.putObj _ _⟩
  case stop =>
    intro D c ys W _ _ H
    exact (Sat.fact_iff.1 H).1.elim
set_option maxRecDepth 100000 in
set_option maxHeartbeats 1000000 in
theorem collect_any {gf : Nat} {lb : Array Value} {It : Assn} {S Sp : List Int → Prop} (eg : ∀ args w, (callFunc gf args).run Tryz.prog w = .ok (.enter gf args) w)
    (hit : ∀ n, Iterates Fence.wide n Tryz.prog gf lb It intT S Sp) (N : Nat) (hN : N ≤ 1000000000) (hSp : ∀ ys, Sp ys → ys.length ≤ N) (w w0 : World) (G : Assn) (hs : Side w0 w) (h0 : Sat w (It * G)) :
    Calls Tryz.prog 120 #[.func (.func gf) #[] lb] w (SeqQ It G S w0) := by
  have hc := appendSeq_any eg hit N hN hSp w w0 G hs h0
  clear hit hSp h0 hN eg
  go_enter Tryz.func120, Tryz.ntmps120
  go_wp2_with fail
  refine hc.mono ?_
  rintro e w' ⟨v, ys, hS, rfl, H, hsd⟩
  go_wp2
  go_ret
  exact ⟨v, ys, hS, rfl, H, hsd⟩
def SortedQ (It G : Assn) (S : List Int → Prop) (w0 : World) (e : Ending) (w' : World) : Prop :=
  ∃ v ys, S ys ∧ e = .returned v ∧ Sat w' (sl 3 1 v ys.length (i64v (sorted ys)) * (It * G)) ∧ Side w0 w'
set_option maxRecDepth 100000 in
set_option maxHeartbeats 1000000 in
theorem sorted_any {gf : Nat} {lb : Array Value} {It : Assn} {S Sp : List Int → Prop} (eg : ∀ args w, (callFunc gf args).run Tryz.prog w = .ok (.enter gf args) w)
    (hit : ∀ n, Iterates Fence.wide n Tryz.prog gf lb It intT S Sp) (N : Nat) (hN : N ≤ 1000000000) (hSp : ∀ ys, Sp ys → ys.length ≤ N) (hS : ∀ ys, S ys → ys.length ≤ N) (w w0 : World) (G : Assn) (hs : Side w0 w) (h0 : Sat w (It * G)) :
    Calls Tryz.prog 90 #[.func (.func gf) #[] lb] w (SortedQ It G S w0) := by
  have hc := collect_any eg hit N hN hSp w w0 G hs h0
  clear hit hSp h0 eg
  go_enter Tryz.func90, Tryz.ntmps90
  go_wp2_with fail
  refine hc.mono ?_
  rintro e w' ⟨v, ys, hSy, rfl, H, hsd⟩
  have hl : ys.length < 4611686018427387904 := by have := hS _ hSy; omega
  clear hc
  go_wp2_with fail
  refine (sort_any v ys w' _ H hl).mono ?_
  rintro e w2 ⟨rfl, H2, hsd2⟩
  clear H
  go_wp2
  go_ret
  exact ⟨v, ys, hSy, rfl, H2, hsd.trans hsd2⟩
end Go.Proofs.YtaoohjeaaccnfaaGreat.Ba
namespace Go.Proofs.YtaoohjeaaccnfaaGreat.Ba
set_option linter.unusedVariables false
set_option linter.unusedSimpArgs false
open Go.RowKit Go.SL
attribute [local go_sem] Oper.semAt_some
theorem callW {P : Program} {f : FuncId} {args : Array Value} {w : World} {R R' : Ending → World → Prop} {n m : Nat} (h : Calls P f args w R) (hr : ∀ e w, R e w → R' e w) :
    Fence.wide.fn f ∧ (Fence.wide.depth.isSome = true → 1 ≤ m) ∧ CallsIn Fence.wide n P f args w R' := ⟨trivial, fun h => (by cases h), (callsIn_wide.2 h).mono hr⟩
theorem callR {P : Program} {f : FuncId} {args : Array Value} {w : World} {R R' : Ending → World → Prop} {n m l : Nat} (h : Calls P f args w R) (hr : ∀ e w, R e w → R' e w) :
    (Fence.wide.inRound l).fn f ∧ ((Fence.wide.inRound l).depth.isSome = true → 1 ≤ m) ∧ CallsIn (Fence.wide.inRound l) n P f args w R' := ⟨trivial, fun h => (by cases h), CallsIn.inRound l ((callsIn_wide.2 h).mono hr)⟩
theorem sorted_pairwise (l : List Int) : (sorted l).Pairwise (· ≤ ·) := by
  have := List.pairwise_mergeSort (le := fun x y : Int => decide (x ≤ y)) (by intro a b c h1 h2; simp at *; omega) (by intro a b; simp; omega) l
  exact this.imp (by simp)
theorem sorted_congr {l m : List Int} (h : l.Perm m) : sorted l = sorted m :=
  List.Perm.eq_of_pairwise (le := (· ≤ ·)) (fun a b _ _ h1 h2 => by omega) (sorted_pairwise l) (sorted_pairwise m) ((sorted_perm l).trans (h.trans (sorted_perm m).symm))
/-- A book, rising. -/
def asc (C : CB) : CB := (sorted (C.map Prod.fst)).map fun k => (k, (kget C k).getD [])
def allT (x : Int × List UInt8) (vs : Array Value) : Assn := ex fun dv => fact (vs = #[.int .i64 x.1, dv]) * bs 5 dv x.2
theorem Sat.allT {w : World} {Fr : Assn} {dv : Value} (x : Int × List UInt8) (h : Sat w (bs 5 dv x.2 * Fr)) : Sat w (allT x #[.int .i64 x.1, dv] * Fr) :=
  Sat.ex_star_iff.2 ⟨dv, (Sat.fact_iff.2 ⟨rfl, h⟩ : Sat w (fact _ * _)).to (star_assoc _ _ _).symm⟩
def KeysFQ (c : Nat) (w : World) (e : Ending) (w' : World) : Prop := e = .returned (.func (.func 122) #[] #[.pointer (some ⟨w.heap.size, 0, none⟩)]) ∧ w' = w.alloc (.cells #[.map (some c)] 108 (0, 0))
theorem keysF_any (w : World) (c : Nat) : Calls Tryz.prog 91 #[.map (some c)] w (KeysFQ c w) := by
  go_enter Tryz.func91, Tryz.ntmps91
  go_wp2
  go_ret
  exact ⟨rfl, rfl⟩
def AllFQ (p : Option Addr) (w : World) (e : Ending) (w' : World) : Prop := e = .returned (.func (.func 88) #[] #[.pointer (some ⟨w.heap.size, 0, none⟩)]) ∧ w' = w.alloc (.cells #[.pointer p] 24 (0, 0))
theorem allF_any (w : World) (p : Option Addr) : Calls Tryz.prog 52 #[.pointer p] w (AllFQ p w) := by
  go_enter Tryz.func52, Tryz.ntmps52
  go_wp2
  go_ret
  exact ⟨rfl, rfl⟩
/-- What the iterator reads. -/
def AllIt (S : Hp) (bx b : Nat) (rd : Value) (err : Int) (W D : CB) : Assn :=
  pt bx (.cells #[.pointer (some ⟨b, 0, none⟩)] 24 (0, 0)) * (batchA 113 5 S b rd err W D * pool S)
def AllRel (A : List (Int × List UInt8) → Assn) (W : CB) (v : Value) (ks : List Int) (X : Assn) (w0 : World) (i : Value) (wr : World) : Prop :=
  ∃ k : Nat, k ≤ ks.length ∧ i = .int .i64 k ∧ Side w0 wr ∧ Sat wr (A ((asc W).take k) * (sl 3 1 v ks.length (i64v ks) * X))
theorem asc_snoc (W : CB) (k : Nat) (h : k < (sorted (W.map Prod.fst)).length) :
    (asc W).take k ++ [((sorted (W.map Prod.fst))[k], (kget W (sorted (W.map Prod.fst))[k]).getD [])] = (asc W).take (k + 1) := by
  have hk : k < (asc W).length := by simpa [asc] using h
  rw [List.take_succ_eq_append_getElem hk]
  simp [asc]
set_option maxRecDepth 100000 in
set_option maxHeartbeats 2000000 in
theorem all_iter (n : Nat) (S : Hp) (bx b : Nat) (rd : Value) (err : Int) (W D : CB) (hW : W.length ≤ 1000000) :
    Iterates Fence.wide n Tryz.prog 88 #[.pointer (some ⟨bx, 0, none⟩)] (AllIt S bx b rd err W D) allT (fun ys => ys = asc W) (fun ys => ys <+: asc W) := by
  intro l A Ax G w0 w hY hs h0
  have hB : Sat w (batchA 113 5 S b rd err W D * (pool S * (pt bx (.cells #[.pointer (some ⟨b, 0, none⟩)] 24 (0, 0)) * (A [] * G)))) := h0.to (by unfold AllIt; ac_rfl)
  have hbx := hB.front3.cell 0
  obtain ⟨x, hx⟩ := hB.batchOpen
  have hc2 : w.cell? ⟨b, 2, none⟩ = some x.wv := hx.cell 2
  obtain ⟨Z, z1, z2, z3, hrd, _⟩ := (hx.to (by ac_rfl : _ = bookA 5 S x.wv x.ws W * (pool S * (pt b (.cells (x.cells rd err) 113 (0, 0)) * (bookA 5 S x.tv x.ts D * (askA x.av * (pt bx (.cells #[.pointer (some ⟨b, 0, none⟩)] 24 (0, 0)) * (A [] * G)))))))).bookCases
  clear hB hx
  have Hrd := hid hrd; clear hrd
  refine callsIn_of_wp Tryz.func88 rfl trivial ?_ rfl
  simp only [Tryz.ntmps88, List.size_toArray, List.length_cons, List.length_nil, Nat.reduceAdd, Nat.reduceSub, Array.replicate_succ, Array.replicate_zero, List.push_toArray, List.append_toArray, List.nil_append, List.cons_append]
  gi_wp2_with fail
  refine callW (copied_any w x.wv _ Hrd.out) ?_
  rintro e w1 ⟨c, Dm, rfl, hperm, hs1, hd1⟩
  have H1 := hs1.under h0
  clear hbx hc2 h0 hs1
  gi_wp2_with fail
  refine callW (keysF_any w1 c) ?_
  rintro e w2 ⟨rfl, rfl⟩
  have H2 := H1.alloc (.cells #[.map (some c)] 108 (0, 0))
  have hlen : Dm.length ≤ 1000000 := by
    have e1 := hperm.length_eq; have e2 := z1.length_eq
    simp only [List.length_map] at e1 e2; omega
  have Hkl : Hid (∀ ys : List Int, ys.Perm (keysOf Dm) → ys.length ≤ 1000000) := fun ys h => by rw [h.length_eq]; simpa [keysOf] using hlen
  have Hpl : Hid (∀ ys : List Int, partOf Dm ys → ys.length ≤ 1000000) := fun ys h => Nat.le_trans (nodup_le h.1 h.2) (by simpa [keysOf] using hlen)
  have hz : (W.map Prod.fst).Perm (Z.map Prod.fst) := by have := (z1.map Prod.fst).symm; rwa [List.map_map] at this
  have hkz : (keysOf Dm).Perm (Z.map Prod.fst) := by have := hperm.map Prod.fst; rwa [List.map_map] at this
  clear H1 hlen
  gi_wp2_with fail
  refine callW (sorted_any (enters_of Tryz.func122 (by kernel_rfl) rfl) (fun n => keys_iter n w1.heap.size c Dm) 1000000 (by decide) Hpl.out Hkl.out _ _ (A [] * (AllIt S bx b rd err W D * G)) (Side.refl _) (H2.to (by ac_rfl))) ?_
  rintro e w3 ⟨v, ys, hys, rfl, H3, d3⟩
  have d4 : Side w0 w3 := ((hs.trans hd1).alloc _).trans d3
  have hks : sorted ys = sorted (W.map Prod.fst) := sorted_congr (hys.trans (hkz.trans hz.symm))
  rw [hks, show ys.length = (sorted (W.map Prod.fst)).length by rw [← hks, sorted_length]] at H3
  have hsl := sl_shape H3
  obtain ⟨va, vc, rfl⟩ := hsl
  have hasc := asc_snoc W
  have hmem : ∀ k ∈ sorted (W.map Prod.fst), k ∈ Z.map Prod.fst := fun k hk => hz.mem_iff.1 ((sorted_perm _).mem_iff.1 hk)
  have hal : (asc W).length = (sorted (W.map Prod.fst)).length := by simp [asc]
  generalize sorted (W.map Prod.fst) = ks at H3 hasc hmem hal ⊢
  have Hkl : Hid (ks.length ≤ 1000000) := by show ks.length ≤ _; rw [← hal]; simp only [asc, List.length_map, sorted_length]; exact hW
  have Hasc := hid hasc; have Hmem := hid hmem; have Hal := hid hal; have Hz3 := hid z3; have Hz2 := hid z2; have Hz1 := hid z1; have Hpm := hid hperm
  clear hasc hmem hal z3 z2 z1 hz hkz hks hys hperm H2 hs hd1 d3
  generalize hX : pt w1.heap.size (.cells #[.map (some c)] 108 (0, 0)) * mp c Dm = X1 at H3
  have H4 : Sat w3 (A ((asc W).take 0) * (sl 3 1 (.slice va ks.length vc) ks.length (i64v ks) * (X1 * (AllIt S bx b rd err W D * G)))) := H3.to (by simp only [List.take_zero]; ac_rfl)
  gi_wp2
  gi_loopw [16] (fun i wr => AllRel A W (.slice va ks.length vc) ks (X1 * (AllIt S bx b rd err W D * G)) w0 i wr) (fun i _ => ks.length - (intOf i).toNat)
  case atStart => exact ⟨0, Nat.zero_le _, rfl, d4, H4⟩
  case round =>
    obtain ⟨k, hk, rfl, hside, hsat⟩ := hrel
    have hsl := hsat.front2.rds
    by_cases hlt : k < ks.length
    · obtain ⟨_, hh⟩ := hsl
      obtain ⟨g, hva, hcell⟩ : ∃ g, va = some ⟨g, 0, none⟩ ∧ wr.cell? ⟨g, k, none⟩ = some (.int .i64 ks[k]) := by
        rcases hsat.front2.slCases with ⟨_, h0, _, _⟩ | ⟨g, cap, cur, he, h3, h4, h5, h6, hF⟩
        · omega
        · cases he
          refine ⟨g, rfl, ?_⟩
          rw [hF.cell]
          have e := congrArg (·[k]?) h6
          simp only [i64v, List.getElem?_take, Nat.mul_one, hlt, if_true, List.getElem?_map, Array.getElem?_toList] at e
          rw [e, List.getElem?_eq_getElem hlt]; rfl
      subst hva
      obtain ⟨z, hz⟩ : ∃ z, kget Z ks[k] = some z := by
        match hq : kget Z ks[k] with
        | some z => exact ⟨z, rfl⟩
        | none => exact absurd (Hmem.out _ (List.getElem_mem hlt)) (look_none.1 hq)
      have hV := Hz3.out _ (look_mem hz)
      have hW2 : kget W ks[k] = some z.2 := by
        rw [← look_perm Hz1.out (by rw [List.map_map]; exact Hz2.out), look_map (fun z : Value × List UInt8 => z.2), hz]; rfl
      have hM : kget Dm ks[k] = some z.1 := by
        rw [look_perm Hpm.out ((Hpm.out.map _).nodup_iff.2 (by rw [List.map_map]; exact Hz2.out)), look_map (fun z : Value × List UInt8 => z.1), hz]; rfl
      have hS : Sat wr (mp c Dm * (pool S * (A ((asc W).take k) * (sl 3 1 (.slice (some ⟨g, 0, none⟩) ks.length vc) ks.length (i64v ks) * (pt w1.heap.size (.cells #[.map (some c)] 108 (0, 0)) * (pt bx (.cells #[.pointer (some ⟨b, 0, none⟩)] 24 (0, 0)) * (batchA 113 5 S b rd err W D * G))))))) :=
        hsat.to (by rw [← hX]; unfold AllIt; ac_rfl)
      have hlook := (hS.lookup (P := Tryz.prog) Tryz.underlying108 Tryz.underlying3 (zero_bytes wr) ks[k] false)
      rw [hM] at hlook
      have hrd := hV.rd hS.front2
      have Hr := hid hrd
      have hbg : Hid (z.2.length ≤ 1000000000) := Nat.le_trans hV.1 (by decide)
      have hen : (asc W).take k ++ [(ks[k], z.2)] = (asc W).take (k + 1) := by rw [← Hasc.out k hlt, hW2]; rfl
      have Hen := hid hen
      have hpre : (asc W).take k ++ [(ks[k], z.2)] <+: asc W := by rw [hen]; exact List.take_prefix _ _
      have Hpre := hid hpre
      have hkl := Hkl.out
      clear hrd hen hpre hS hz hh hW2 hM hV
      generalize ks[k] = id at hcell hlook Hen Hpre
      gi_wp2_with fail
      refine callW (clone_any wr z.1 z.2 Hr.out hbg) ?_
      rintro e w4 ⟨v1, rfl, hs4, hd4⟩
      have H5 : Sat w4 (bs 5 v1 z.2 * (A ((asc W).take k) * (sl 3 1 (.slice (some ⟨g, 0, none⟩) ks.length vc) ks.length (i64v ks) * (X1 * (AllIt S bx b rd err W D * G))))) := hs4.under hsat
      obtain ⟨fn, tmps, assign, body, hy, hR⟩ := hY _ (id, z.2) #[.int .i64 id, v1] _ w4 Hpre.out (hside.trans hd4) (Sat.allT (id, z.2) H5).front2
      clear hlook hcell hs4 H5 Hr hbg hsat
      gi_wp2
      refine ⟨fun h => (by cases h), hR.mono ?_⟩
      rintro e W' (⟨rfl, hs5, hsat5⟩ | ⟨rfl, hs5, hsat5⟩)
      · gi_wp2
        go_roundw
        case rel => exact ⟨k + 1, by omega, by go_num, hs5, by rw [← Hen.out]; exact hsat5⟩
        case measure => simp [intOf]; omega
      · gi_wp2
        refine bodyPost_ret (results_none rfl _ _ _) rfl ?_
        exact ⟨⟨_, rfl⟩, hs5, .inr ⟨_, Hpre.out, hsat5.drop2.drop2⟩⟩
    · have hkn : k = ks.length := by omega
      subst hkn
      have hfin : (asc W).take ks.length = asc W := by rw [← Hal.out]; exact List.take_length
      rw [hfin] at hsat
      have hsat' : Sat wr (A (asc W) * (AllIt S bx b rd err W D * G)) := hsat.drop2.drop2
      clear hsl hsat hfin
      gi_wp2
      go_end0
      exact ⟨⟨_, rfl⟩, hside, .inl ⟨_, rfl, hsat'⟩⟩
end Go.Proofs.YtaoohjeaaccnfaaGreat.Ba
namespace Go.SL
set_option linter.unusedVariables false
set_option linter.unusedSimpArgs false
open Go.RowKit
/-- Two pools are one. -/
theorem Sat.poolJoin {w : World} {S S2 : Hp} {F : Assn} (h : Sat w (pool S * (pool S2 * F))) : Sat w (pool (join S S2) * F) ∧ Ext S (join S S2) ∧ Ext S2 (join S S2) := by
  obtain ⟨m, a, h1, h2, rfl, ⟨h3, h4, rfl, f, d', rfl⟩, d, rfl⟩ := h
  obtain ⟨d1, d2⟩ := apart_join_right.1 d
  refine ⟨⟨join (join h1 h3) h4, by rw [join_assoc]; exact a, join h1 h3, h4, rfl, f, apart_join_left.2 ⟨d2, d'⟩, rfl⟩, fun k x hk => by simp [join, hk], fun k x hk => ?_⟩
  rcases d1 k with e | e
  · simp [join, e, hk]
  · rw [hk] at e; cases e
theorem Sat.bookSmall {T : TypeId} {w : World} {S : Hp} {v : Value} {sh : Bool} {C : CB} {F : Assn} (h : Sat w (bookA T S v sh C * F)) : ∀ p ∈ C, small p.2 := by
  obtain ⟨k, a, h1, h2, ⟨Z, z1, z2, z3, z4⟩, f, d, rfl⟩ := h
  intro p hp
  obtain ⟨z, hz, rfl⟩ := List.mem_map.1 (z1.mem_iff.2 hp)
  exact (z3 z hz).1
/-- A slice of writes, each with a number and bytes that lie in the pool. -/
def flatW (Z : List (Int × Value × List UInt8)) : List Value := Z.flatMap fun z => [.int .i64 z.1, z.2.1]
def writesA (TW T : TypeId) (S : Hp) (v : Value) (L : CB) : Assn := ex fun Z : List (Int × Value × List UInt8) =>
  fact (Z.map (fun z => (z.1, z.2.2)) = L ∧ ∀ z ∈ Z, Val T S z.2.1 z.2.2) * sl TW 2 v L.length (flatW Z)
theorem Sat.writesOpen {w : World} {TW T : TypeId} {S : Hp} {v : Value} {L : CB} {F : Assn} (h : Sat w (writesA TW T S v L * F)) :
    ∃ Z : List (Int × Value × List UInt8), Z.map (fun z => (z.1, z.2.2)) = L ∧ (∀ z ∈ Z, Val T S z.2.1 z.2.2) ∧ Sat w (sl TW 2 v L.length (flatW Z) * F) := by
  obtain ⟨Z, h⟩ := Sat.ex_star_iff.1 h
  obtain ⟨⟨h1, h2⟩, h3⟩ := Sat.fact_iff.1 (h.to (star_assoc _ _ _))
  exact ⟨Z, h1, h2, h3⟩
theorem Sat.writesShut {w : World} {TW T : TypeId} {S : Hp} {v : Value} {L : CB} {F : Assn} (Z : List (Int × Value × List UInt8)) (h1 : Z.map (fun z => (z.1, z.2.2)) = L) (h2 : ∀ z ∈ Z, Val T S z.2.1 z.2.2)
    (h : Sat w (sl TW 2 v L.length (flatW Z) * F)) : Sat w (writesA TW T S v L * F) :=
  Sat.ex_star_iff.2 ⟨Z, (Sat.fact_iff.2 ⟨⟨h1, h2⟩, h⟩ : Sat w (fact _ * _)).to (star_assoc _ _ _).symm⟩
theorem Sat.writesMono {w : World} {TW T : TypeId} {S S' : Hp} {v : Value} {L : CB} {F : Assn} (h : Sat w (writesA TW T S v L * F)) (e : Ext S S') : Sat w (writesA TW T S' v L * F) := by
  obtain ⟨Z, h1, h2, h3⟩ := h.writesOpen
  exact Sat.writesShut Z h1 (fun z hz => (h2 z hz).mono e) h3
end Go.SL
namespace Go.Proofs.YtaoohjeaaccnfaaGreat.Ba
set_option linter.unusedVariables false
set_option linter.unusedSimpArgs false
open Go.RowKit Go.SL
attribute [local go_sem] Oper.semAt_some
theorem callV {P : Program} {f : FuncId} {args : Array Value} {w : World} {R R' : Ending → World → Prop} {n : Nat} (h : Calls P f args w R) (hr : ∀ e w, R e w → R' e w) :
    Fence.wide.fn f ∧ CallsIn Fence.wide n P f args w R' := ⟨trivial, (callsIn_wide.2 h).mono hr⟩
theorem info_write : (Tryz.prog.info? 57).map (fun i => (i.zero, i.size, i.bytes)) = some (some (.agg #[.int .i64 0, .slice none 0 0]), 2, 32) := by kernel_rfl
def ListQ (S : Hp) (b : Nat) (rd : Value) (err : Int) (W D : CB) (F : Assn) (w : World) (e : Ending) (w' : World) : Prop :=
  ∃ S' v, Ext S S' ∧ e = .returned v ∧ Sat w' (writesA 57 5 S' v (asc W) * (batchA 113 5 S' b rd err W D * (pool S' * F))) ∧ Side w w'
/-- The list that grows. -/
def GrowL (bx : Nat) (ys : CB) : Assn := ex fun p : Hp × Value => pt bx (.cells #[p.2] 53 (0, 0)) * (writesA 57 5 p.1 p.2 ys * pool p.1)
theorem small_asc {W : CB} (h : ∀ p ∈ W, small p.2) : ∀ p ∈ asc W, small p.2 := by
  intro p hp
  obtain ⟨k, _, rfl⟩ := List.mem_map.1 hp
  match hk : kget W k with
  | none => simp [small]
  | some l => exact h _ (look_mem hk)
def ListB (bx b cx : Nat) (pre : CB) (x : Int × List UInt8) (a' : Act) : Assn := ex fun dv =>
  fact (a' = { tmps := #[.pointer (some ⟨b, 0, none⟩), undef, .slice none 0 0, .pointer (some ⟨bx, 0, none⟩), .int .i64 x.1, dv, .pointer (some ⟨b, 0, none⟩), .func (.func 88) #[] #[.pointer (some ⟨cx, 0, none⟩)], .int .i64 x.1, dv, undef, undef, undef, undef, undef, undef, undef], defers := [] }) * (bs 5 dv x.2 * GrowL bx pre)
set_option maxRecDepth 100000 in
set_option maxHeartbeats 2000000 in
theorem list_any (w : World) (S : Hp) (b : Nat) (rd : Value) (err : Int) (W D : CB) (F : Assn) (hW : W.length ≤ 1000000)
    (h : Sat w (batchA 113 5 S b rd err W D * (pool S * F))) :
    Calls Tryz.prog 20 #[.pointer (some ⟨b, 0, none⟩)] w (ListQ S b rd err W D F w) := by
  obtain ⟨i0, hi, hz, hs0, hb0⟩ := info_parts info_write
  have hsm : ∀ p ∈ W, small p.2 := by obtain ⟨x, hx⟩ := h.batchOpen; exact hx.front2.bookSmall
  have hasm := small_asc hsm
  refine (callsIn_wide (n := 9)).1 ?_
  refine callsIn_of_wp_marks Tryz.func20 rfl trivial ?_ rfl
  simp only [Tryz.ntmps20, List.size_toArray, List.length_cons, List.length_nil, Nat.reduceAdd, Nat.reduceSub, Array.replicate_succ, Array.replicate_zero, List.push_toArray, List.append_toArray, List.nil_append, List.cons_append]
  have hA := h.alloc (.cells #[.slice none 0 0] 53 (0, 0))
  have hs1 := (Side.refl w).alloc (.cells #[.slice none 0 0] 53 (0, 0))
  gi_wp2_with fail
  generalize w.alloc (.cells #[.slice none 0 0] 53 (0, 0)) = w1 at hA hs1 ⊢
  refine callV (allF_any w1 _) ?_
  rintro e w2 ⟨rfl, rfl⟩
  have hB := hA.alloc (.cells #[.pointer (some ⟨b, 0, none⟩)] 24 (0, 0))
  have hs2 := hs1.alloc (.cells #[.pointer (some ⟨b, 0, none⟩)] 24 (0, 0))
  gi_wp2_with fail
  generalize w1.alloc (.cells #[.pointer (some ⟨b, 0, none⟩)] 24 (0, 0)) = w2 at hB hs2 ⊢
  have hstart : Sat w2 (GrowL w.heap.size [] * (AllIt S w1.heap.size b rd err W D * F)) :=
    Sat.ex_star_iff.2 ⟨(fun _ => none, .slice none 0 0), by
      have h1 := (hB.poolEmp.slNil 57 2)
      have h2 := Sat.writesShut (T := 5) (S := fun _ => none) (L := []) [] rfl (by simp) h1
      exact h2.to (by unfold AllIt; ac_rfl)⟩
  refine wpIn_range (w0 := w) rfl (by decide) (gf := 88) (lb := #[.pointer (some ⟨w1.heap.size, 0, none⟩)]) rfl trivial (enters_of Tryz.func88 (by kernel_rfl) rfl)
    (all_iter _ S w1.heap.size b rd err W D hW) (GrowL w.heap.size) (fun _ _ => fact False) (ListB w.heap.size b w1.heap.size) F ?hps hs2 hstart ?assign ?body ?done ?stop
  case hps =>
    intro x vs Fr W h
    obtain ⟨dv, h⟩ := Sat.ex_star_iff.1 h
    obtain ⟨rfl, _⟩ := Sat.fact_iff.1 (h.to (star_assoc _ _ _))
    rfl
  case assign =>
    intro l r pre x vs Fr W K _ hsd H hK
    obtain ⟨dv, H1⟩ := Sat.ex_star_iff.1 (H.to (star_left_comm _ _ _))
    obtain ⟨rfl, H2⟩ := Sat.fact_iff.1 (H1.to (star_assoc _ _ _))
    clear H H1
    gi_wp2
    exact hK _ _ hsd (Sat.ex_star_iff.2 ⟨dv, (Sat.fact_iff.2 ⟨rfl, H2⟩ : Sat W (fact _ * _)).to (by ac_rfl)⟩)
  case body =>
    intro l r pre x a' Fr W0 hp hsd H
    obtain ⟨dv, H1⟩ := Sat.ex_star_iff.1 H
    obtain ⟨rfl, H2⟩ := Sat.fact_iff.1 (H1.to (star_assoc _ _ _))
    clear H H1
    have hx : x ∈ asc W := by obtain ⟨t, ht⟩ := hp; rw [← ht]; simp
    have hlen : pre.length + 1 ≤ 1000000 := by
      have := hp.length_le; simp [asc, sorted_length] at this; omega
    obtain ⟨⟨S2, v⟩, H3⟩ := Sat.ex_star_iff.1 (H2.to (by ac_rfl : _ = GrowL w.heap.size pre * (bs 5 dv x.2 * (pt l (.loop r) * Fr))))
    obtain ⟨S3, hE, hV, H4⟩ := Sat.poolBs (S := S2) (T := 5) (v := dv) (l := x.2) (F := pt w.heap.size (.cells #[v] 53 (0, 0)) * (writesA 57 5 S2 v pre * (pt l (.loop r) * Fr))) (H3.to (by ac_rfl)) (hasm x hx)
    obtain ⟨Z, hZ1, hZ2, H5⟩ := (Sat.writesMono (H4.to (by ac_rfl : _ = writesA 57 5 S2 v pre * (pool S3 * (pt w.heap.size (.cells #[v] 53 (0, 0)) * (pt l (.loop r) * Fr))))) hE).writesOpen
    obtain ⟨da, dc, rfl⟩ : ∃ da dc, dv = .slice da x.2.length dc := by
      rcases hV.2 with ⟨rfl, h0⟩ | ⟨g, cap, cur, rfl, _⟩
      · exact ⟨_, _, by rw [h0]; rfl⟩
      · exact ⟨_, _, rfl⟩
    have hcell := H5.front3.cell 0
    have hfr := H5.front3.frozen 0
    have hA2 := H5.alloc (.cells #[.int .i64 x.1, .slice da x.2.length dc] 57 (0, 0))
    have hR : Rds (W0.alloc (.cells #[.int .i64 x.1, .slice da x.2.length dc] 57 (0, 0))) 2 (.slice (some ⟨W0.heap.size, 0, none⟩) 1 1) 1 [.int .i64 x.1, .slice da x.2.length dc] :=
      ⟨rfl, .inr ⟨_, _, rfl, fun j u hu => by
        rw [Addr.add_lit, Nat.zero_add]
        exact (hA2.cell j).trans (by simpa using hu)⟩⟩
    obtain ⟨v', w', hrun, hsat', hside'⟩ := Sat.append (P := Tryz.prog) (ty := 53) Tryz.underlying53 hi hz hs0 hb0 rfl hA2.right hR (by simp [Value.oneCell']) (by unfold maxLen; omega) (by omega)
    obtain ⟨aa, ac, rfl⟩ := sl_shape hsat'
    have hcell' := hsat'.front3.cell 0
    have hfr' := hsat'.front3.frozen 0
    have hset := hsat'.front3.setCell 0 (.slice aa (pre.length + 1) ac)
    have Hrun := hid hrun; have HV := hid hV; have HZ1 := hid hZ1; have HZ2 := hid hZ2; have HE := hid hE
    clear hrun hA2 hR hi hz hs0 hb0 H2 H3 H4 H5 hlen hV hZ1 hZ2 hE hx hp hsm hasm hB hA hs1 hs2 hstart
    gi_wp2_with (gi_at_builtin; refine wpListIn_append_run Hrun.out _ _ rfl rfl rfl rfl rfl ?_)
    refine ⟨(hsd.alloc _).trans hside' |>.setCell _ _, Sat.ex_star_iff.2 ⟨(S3, .slice aa (pre.length + 1) ac), ?_⟩⟩
    have h6 := Sat.writesShut (TW := 57) (T := 5) (S := S3) (v := .slice aa (pre.length + 1) ac) (L := pre ++ [x]) (Z ++ [(x.1, .slice da x.2.length dc, x.2)]) (by rw [List.map_append, HZ1.out]; rfl)
      (fun z hz => by
        rcases List.mem_append.1 hz with hz | hz
        · exact (HZ2.out z hz)
        · rw [List.mem_singleton.1 hz]; exact HV.out)
      (hset.front2.to (by rw [List.length_append, flatW, flatW, List.flatMap_append]; rfl))
    exact h6.to (by simp only [List.setIfInBounds_toArray, List.set_cons_zero]; ac_rfl)
  case done =>
    intro D2 ys W0 hS hsd H
    subst hS
    obtain ⟨⟨S2, v⟩, H1⟩ := Sat.ex_star_iff.1 H
    have H2 : Sat W0 (pt w.heap.size (.cells #[v] 53 (0, 0)) * (pt D2 (.deferred (some [])) * (writesA 57 5 S2 v (asc W) * (pool S2 * (AllIt S w1.heap.size b rd err W D * F))))) := H1.to (by ac_rfl)
    have hcell := H2.cell 0
    have hfr := H2.frozen 0
    have hK := H2.front2.heap
    have HD := (H2.right.putObj (.deferred none)).right
    obtain ⟨va, vc, rfl⟩ : ∃ a c, v = .slice a (asc W).length c := by
      obtain ⟨Z, _, _, h⟩ := H2.right.right.writesOpen
      exact sl_shape h
    clear H H1 H2 hA hB hstart hsm hasm hi hz hs0 hb0
    gi_wp2
    refine ⟨by simp, .inl ⟨_, _, rfl, run_takeDeferred hK, ?_⟩⟩
    obtain ⟨h3, e1, e2⟩ := (HD.to (by unfold AllIt; ac_rfl : _ = pool S * (pool S2 * (writesA 57 5 S2 (.slice va (asc W).length vc) (asc W) * (pt w1.heap.size (.cells #[.pointer (some ⟨b, 0, none⟩)] 24 (0, 0)) * (batchA 113 5 S b rd err W D * F)))))).poolJoin
    have h4 := (h3.front2.writesMono e2).front4.weak (batchA_mono e1)
    exact ⟨_, results_tmp rfl _ _ _, _, _, e1, rfl, (h4.drop4).to (by ac_rfl), hsd.putObj _ _⟩
  case stop =>
    intro D2 c ys W0 _ _ H
    exact (Sat.fact_iff.1 H).1.elim
end Go.Proofs.YtaoohjeaaccnfaaGreat.Ba

/- maps.Keys over a map with int keys, slices.AppendSeq, Collect, Sorted of ints. -/
import Derived.OwnWalkIn
import Derived.TacticsInMore
import Derived.LoopNIn
import Derived.LoopIn
import Derived.Deep.LoopGhost
import Derived.Test.YtcgpegdnicnciaaRf
import Derived.Test.YtcgpegdnicnciaaMp
import Derived.Test.YtcgpegdnicnciaaSo
namespace Go.Proofs.Ytcgpegdnicnciaa
set_option linter.unusedVariables false
set_option linter.unusedSimpArgs false
open Go.RowKit Go.SL
attribute [local go_sem] Oper.semAt_some
/-- An int comes alone. -/
def intT (x : Int) (vs : Array Value) : Assn := fact (vs = #[.int .i64 x])
theorem Sat.intT {w : World} {Fr : Assn} (x : Int) (h : Sat w Fr) : Sat w (intT x #[.int .i64 x] * Fr) := Sat.fact_iff.2 ⟨rfl, h⟩
def KeysRel (b r bx : Nat) (o : Obj) (M : KV) (A : List Int → Assn) (G : Assn) (w0 : World) (k : Nat) (wr : World) : Prop :=
  ∃ D it, M.length ≤ D.length + k ∧ Iter b o M D it ∧ Side w0 wr ∧ Sat wr (pt r it * (pt b o * (pt bx (.cells #[.map (some b)] 49 (0, 0)) * (A (D.map Prod.fst) * G))))
def keysOf (M : KV) : List Int := M.map Prod.fst
def partOf (M : KV) (ys : List Int) : Prop := ys.Nodup ∧ ∀ x ∈ ys, x ∈ keysOf M
set_option maxRecDepth 100000 in
set_option maxHeartbeats 1000000 in
theorem keys_iter (n : Nat) (bx b : Nat) (M : KV) :
    Iterates Fence.wide n Try.prog 33 #[.pointer (some ⟨bx, 0, none⟩)] (pt bx (.cells #[.map (some b)] 49 (0, 0)) * mp b M)
      intT (fun ys => ys.Perm (keysOf M)) (partOf M) := by
  intro l A Ax G w0 w hY hs h0
  obtain ⟨o, hm, hb, hS⟩ := Sat.mpHeap (F := pt bx (.cells #[.map (some b)] 49 (0, 0)) * (A [] * G)) (h0.to (by ac_rfl))
  obtain ⟨it, hrg, hit⟩ := run_range_int (P := Try.prog) Try.underlying49 hb hm
  have hcell := hS.front2.cell 0
  have hfr := hS.front2.frozen 0
  have hA := hS.alloc it
  have hs1 : Side w0 (w.alloc it) := hs.alloc _
  generalize w.alloc it = w1 at hA hrg hs1
  have H := hid h0; clear h0
  refine callsIn_of_wp Try.func33 rfl trivial ?_ rfl
  simp only [Try.ntmps33, List.size_toArray, List.length_cons, List.length_nil, Nat.reduceAdd, Nat.reduceSub, Array.replicate_succ, Array.replicate_zero, List.push_toArray, List.append_toArray, List.nil_append, List.cons_append]
  gi_wp2
  gi_loopw [] (fun wr => ∃ k, KeysRel b w.heap.size bx o M A G w0 k wr) (fun wr => leastOf (fun k => KeysRel b w.heap.size bx o M A G w0 k wr))
  case atStart => exact ⟨M.length, [], it, by simp, hit, hs1, hA⟩
  case round =>
    obtain ⟨hk, hmin⟩ := leastOf_spec hrel
    have hgk : leastOf (fun k => KeysRel b w.heap.size bx o M A G w0 k wr) = leastOf (fun k => KeysRel b w.heap.size bx o M A G w0 k wr) := rfl
    generalize leastOf (fun k => KeysRel b w.heap.size bx o M A G w0 k wr) = gk at hk hmin ⊢
    obtain ⟨D, it', hlen, hit', hside, hsat⟩ := hk
    clear hgk hrg hcell hfr hrel hmin
    have hbr : wr.heap[b]? = some o := hsat.front2.heap
    rcases hsat.next (P := Try.prog) hbr hit' with ⟨hperm, hnx⟩ | ⟨p, it2, w2, hp, hpD, hnx, hsat2, hit2, hside2, hb2, hen⟩
    · have Hp := hid hperm; clear hperm
      gi_wp2
      go_end0
      refine ⟨⟨_, rfl⟩, hside, .inl ⟨D.map Prod.fst, Hp.out.map _, ?_⟩⟩
      have := hsat.right
      exact (Sat.mpOf this hm).to (by ac_rfl)
    · have hnd := iter_nodup hit2
      have hSp : partOf M (D.map Prod.fst ++ [p.1]) := ⟨by simpa using hnd.1, fun x hx => by
        have : x ∈ (D ++ [p]).map Prod.fst := by simpa using hx
        obtain ⟨q, hq, rfl⟩ := List.mem_map.1 this
        exact List.mem_map.2 ⟨q, hnd.2 q hq, rfl⟩⟩
      have hle := iter_le hit2
      rw [List.length_append, List.length_singleton] at hle
      obtain ⟨fn, tmps, assign, body, hy, hR⟩ := hY (D.map Prod.fst) p.1 #[.int .i64 p.1] (pt w.heap.size it2 * (pt b o * (pt bx (.cells #[.map (some b)] 49 (0, 0)) * G))) w2 hSp (hside.trans hside2)
        ((Sat.intT p.1 hsat2).to (by ac_rfl))
      have K := hid hlen; have K2 := hid hle; have K3 := hid hm; clear hlen hle hm hb hb2 hbr hY
      gi_wp2
      refine ⟨fun h => (by cases h), hR.mono ?_⟩
      rintro e W' (⟨rfl, hs3, hsat3⟩ | ⟨rfl, hs3, hsat3⟩)
      · have hrel' : KeysRel b w.heap.size bx o M A G w0 (gk - 1) W' :=
          ⟨D ++ [p], it2, by have := K.out; simp; omega, hit2, hs3, by rw [List.map_append]; exact hsat3.to (by simp only [List.map_cons, List.map_nil]; ac_rfl)⟩
        gi_wp2
        go_roundw
        case rel => exact ⟨_, hrel'⟩
        case measure => exact Nat.lt_of_le_of_lt ((leastOf_spec ⟨_, hrel'⟩).2 _ hrel') (by have := K.out; have := K2.out; omega)
      · gi_wp2
        refine bodyPost_ret (results_none rfl _ _ _) rfl ?_
        refine ⟨⟨_, rfl⟩, hs3, .inr ⟨_, hSp, ?_⟩⟩
        exact (Sat.mpOf (hsat3.to (by ac_rfl : _ = pt b o * (pt w.heap.size it2 * (Ax (D.map Prod.fst ++ [p.1]) * (pt bx (.cells #[.map (some b)] 49 (0, 0)) * G))))) K3.out).front2.right.to (by ac_rfl)
end Go.Proofs.Ytcgpegdnicnciaa

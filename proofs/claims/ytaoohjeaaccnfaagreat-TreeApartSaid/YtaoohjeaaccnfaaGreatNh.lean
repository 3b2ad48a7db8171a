/- tree: a file that is a directory; within: the entries of one block. tree: entries, as an iterator. tree: load. tree: place; dir.EncodeBlock of one entry. -/
import Derived.Test.YtaoohjeaaccnfaaGreatNd
import Derived.Laws.Tables
import Derived.Deep.DeepCutAuto
namespace Go.SL
set_option linter.unusedVariables false
set_option linter.unusedSimpArgs false
open Go.RowKit
/-- A file that is a directory of these entries. -/
structure DirF (f : AF) (L : List Ent) : Prop where
  kd : f.kd = 2
  sz : f.sz = 32 * L.length
  ok : ∀ e ∈ L, e.ok = true
  dat : ∀ p, p < 32 * L.length → f.dat p = (encs L).getD p 0
  len : L.length ≤ 3840
/-- The entries of a block. -/
def partD (L : List Ent) (i : Nat) : List Ent := (L.drop (15 * i)).take 15
theorem encs_len {L : List Ent} (h : ∀ e ∈ L, e.ok = true) : (encs L).length = 32 * L.length := encs_length fun e he => .inl (h e he)
theorem encs_dropK {L : List Ent} (h : ∀ e ∈ L, e.ok = true) (k : Nat) : (encs L).drop (32 * k) = encs (L.drop k) := by
  by_cases hk : k ≤ L.length
  · conv => lhs; rw [← List.take_append_drop k L]
    rw [encs_append, List.drop_left']
    rw [encs_len fun e he => h e (List.mem_of_mem_take he), List.length_take]; omega
  · rw [List.drop_eq_nil_of_le (by omega : L.length ≤ k), List.drop_eq_nil_of_le (by rw [encs_len h]; omega)]; rfl
theorem encs_takeK {L : List Ent} (h : ∀ e ∈ L, e.ok = true) (k : Nat) : (encs L).take (32 * k) = encs (L.take k) := by
  by_cases hk : k ≤ L.length
  · conv => lhs; rw [← List.take_append_drop k L]
    rw [encs_append, List.take_left']
    rw [encs_len fun e he => h e (List.mem_of_mem_take he), List.length_take]; omega
  · rw [List.take_of_length_le (by omega : L.length ≤ k), List.take_of_length_le (by rw [encs_len h]; omega)]
theorem partD_ok {L : List Ent} (h : ∀ e ∈ L, e.ok = true) (i : Nat) : ∀ e ∈ partD L i, e.ok = true := fun e he => h e (List.mem_of_mem_drop (List.mem_of_mem_take he))
theorem partD_length (L : List Ent) (i : Nat) : (partD L i).length = min 15 (L.length - 15 * i) := by unfold partD; rw [List.length_take, List.length_drop]
theorem partD_encs {L : List Ent} (h : ∀ e ∈ L, e.ok = true) (i : Nat) : encs (partD L i) = ((encs L).drop (480 * i)).take 480 := by
  unfold partD
  rw [show 480 * i = 32 * (15 * i) by omega, encs_dropK h, show 480 = 32 * 15 from rfl, encs_takeK fun e he => h e (List.mem_of_mem_drop he)]
theorem DirF.sub {f : AF} {L : List Ent} (D : DirF f L) (i : Nat) : f.sub (480 * i) (min 480 (32 * L.length - 480 * i)) = encs (partD L i) := by
  rw [partD_encs D.ok]
  unfold AF.sub
  rw [D.sz]
  have hl := encs_len D.ok
  apply List.ext_getElem?
  intro j
  by_cases hj : j < min 480 (32 * L.length - 480 * i)
  · rw [List.getElem?_map, List.getElem?_range (by omega), List.getElem?_take, if_pos (by omega), List.getElem?_drop]
    show some (f.dat (480 * i + j)) = _
    rw [D.dat _ (by omega), List.getD, List.getElem?_eq_getElem (by omega)]; rfl
  · rw [List.getElem?_eq_none (by rw [List.length_map, List.length_range]; omega), List.getElem?_eq_none (by rw [List.length_take, List.length_drop]; omega)]
theorem encs_no (k : Nat) : encs (List.replicate k Ent.no) = zs (32 * k) := by
  induction k with
  | zero => rfl
  | succ k ih =>
    rw [List.replicate_succ]
    show Ent.no.enc ++ encs _ = _
    rw [ih, Ent.no_enc]
    unfold zs
    rw [List.replicate_append_replicate]; congr 1; omega
theorem pad_places {P : List Ent} (h : ∀ e ∈ P, e.ok = true) (hl : P.length ≤ 15) : padTo 480 (encs P) = encs (placesOf P) := by
  unfold placesOf padTo
  rw [encs_append, encs_no, List.take_append]
  have e := encs_len h
  rw [List.take_of_length_le (by omega)]
  congr 1
  unfold zs
  rw [List.take_replicate]; congr 1; omega
theorem bs_ptE {w : World} {T : TypeId} {g n : Nat} {l : List UInt8} {F : Assn} (hl : l.length = n) (h : Sat w (pt g (.cells (u8s l) T (0, 0)) * F)) (hn : n ≤ 1000000) : Sat w (bs T (.slice (some ⟨g, 0, none⟩) n n) l * F) := by
  have := Sat.slOf (sz := 1) (n := n) (cap := n) h (Nat.le_refl _) (by unfold maxLen; omega) (by rw [size_u8s]; omega)
  rw [bs, hl]
  refine this.to ?_
  congr 2
  simp only [u8s, Nat.mul_one, List.toList_toArray]
  rw [List.take_of_length_le (by simp; omega)]
end Go.SL
namespace Go.Proofs.YtaoohjeaaccnfaaGreat.Fs
set_option linter.unusedVariables false
set_option linter.unusedSimpArgs false
open Go.RowKit Go.SL Go.Proofs.YtaoohjeaaccnfaaGreat.Ba
section
variable {n : Nat} {x : Fx n} {b k id : Nat} {A : Nat → Option AF} {f : AF} {L : List Ent} {w : World} {F : Assn}
/-- A call answers entries. -/
def EntsQ (x : Fx n) (b : Nat) (A : Nat → Option AF) (k : Nat) (P : List Ent) (F : Assn) (w : World) (e : Ending) (w' : World) : Prop :=
  ∃ u, e = .returned (.tuple #[u, .int .i64 0]) ∧ Side w w' ∧ Sat w' (sl 47 2 u P.length (flatE P) * (fsA x b A k * F))
set_option maxRecDepth 100000 in
set_option maxHeartbeats 2000000 in
theorem withinT_any (h : Sat w (fsA x b A k * F)) (hf : A id = some f) (D : DirF f L) (i : Nat) (m : Nat) (hm : m = min 480 (32 * L.length - 480 * i)) (hi : 15 * i < L.length) :
    Calls Tryz.prog 98 #[spV b n, .int .i64 (id : Int), .int .i64 ((480 * i : Nat) : Int), .int .i64 (m : Int)] w (EntsQ x b A k (partD L i) F w) := by
  refine callsQ fun Q HQ => ?_
  have hsub := D.sub i
  have hok := partD_ok D.ok i
  have hpl := partD_length L i
  have hpe := encs_len hok
  have hll := D.len
  have hm2 : m = 32 * (partD L i).length := by rw [hpl]; omega
  have hp15 : (partD L i).length ≤ 15 := by omega
  have hpad := pad_places hok hp15
  rw [← hm] at hsub
  have hA := h.alloc (spO b n)
  have dA := SL.hid ((Side.refl w).alloc (spO b n))
  have hB := hA.front2
  have hr := y_read hB hf (480 * i) m
  rw [hsub] at hr
  have Hr := SL.hid hr
  have cA : (w.alloc (spO b n)).cell? ⟨w.heap.size, 0, none⟩ = some (.pointer (some ⟨b, 0, none⟩)) := hA.cell 0
  obtain ⟨P, hP⟩ : ∃ P, partD L i = P := ⟨_, rfl⟩
  rw [hP] at hok hpl hpe hm2 hp15 hpad Hr
  rw [hP] at HQ
  have hmi : (m : Int) ≤ 480 := by omega
  have hii : ((480 * i : Nat) : Int) ≤ 1000000 := by omega
  obtain ⟨at', hat⟩ : ∃ a, 480 * i = a := ⟨_, rfl⟩
  rw [hat] at Hr ⊢ hii
  have HM := SL.hid hm2; have HPE := SL.hid hpe; have HPad := SL.hid hpad; have HOk := SL.hid hok
  clear hm hm2 hpl hi hsub hpe hpad hok hr hB hA hP hat D hf hll
  unfold spV
  go_enter Tryz.func98, Tryz.ntmps98
  go_wp2_with fail
  refine Hr.out.mono ?_
  generalize w.alloc (spO b n) = w1 at *
  generalize w.heap.size = sc at *
  rintro e w2 ⟨v, rfl, d2, h2⟩
  have hC := h2.alloc (.cells (u8s (zs 480)) 5 (0, 0))
  have D3 := SL.hid ((dA.out.trans d2).alloc (.cells (u8s (zs 480)) 5 (0, 0)))
  obtain ⟨w3, v3, hrun, h3, d3⟩ := copy_padN (P := Tryz.prog) (dT := 48) Tryz.underlying48 (by kernel_rfl) hC (hC.front2.rds) 3
  rw [HPad.out] at h3
  have hmay := placesOf_may HOk.out
  have hpl2 : (placesOf P).length = 15 := by unfold placesOf; rw [List.length_append, List.length_replicate]; omega
  have hl480 : (encs (placesOf P)).length = 480 := by rw [encs_length hmay, hpl2]
  have hsl := bs_ptE hl480 h3 (by decide)
  have hdec := decodeB_any w3 _ P HOk.out hp15 _ hsl
  have Hdec := SL.hid hdec; have Hrun := SL.hid hrun
  have Hmk : (Instr.makeSlice 48 (.int .i64 480) (.int .i64 480)).run Tryz.prog w2 = .ok (.slice (some ⟨w2.heap.size, 0, none⟩) 480 480) (w2.alloc (.cells (u8s (zs 480)) 5 (0, 0))) := make_bytes 480 (by omega) w2
  generalize u8s (zs 480) = Z0 at Hmk Hrun D3 d3
  have D4 := SL.hid (D3.out.trans d3)
  obtain ⟨va, vc, rfl⟩ := sl_shape h2
  clear Hr hdec hrun hsl h3 hC h2 hl480 hpl2 hmay cA d2 d3 D3
  go_wp2_with (refine wpList_copy_run Hrun.out _ _ rfl rfl rfl rfl rfl ?_)
  refine Hdec.out.mono ?_
  rintro e w4 ⟨u, rfl, h4, d4⟩
  obtain ⟨ua, uc, rfl⟩ := sl_shape h4
  have H4 := SL.hid h4
  have D5 := SL.hid (D4.out.trans d4)
  obtain ⟨q, hq⟩ : ∃ q, P.length = q := ⟨_, rfl⟩
  have HQ2 := SL.hid hq
  have hmq : (q : Int) * 32 = (m : Int) := by have := HM.out; omega
  have hq15 : (q : Int) ≤ 15 := by omega
  rw [hq]
  clear Hdec h4 hq d4 D4 HM
  go_wp2_with fail
  refine HQ.out _ _ ⟨.slice ua q uc, rfl, D5.out, ?_⟩
  have h5 := H4.out
  rw [HQ2.out] at h5 ⊢
  exact (h5.to (by ac_rfl : _ = (sl 47 2 (.slice ua q uc) q (flatE P) * (fsA x b A k * F)) * (bs 5 (.slice (some ⟨w2.heap.size, 0, none⟩) 480 480) (encs (placesOf P)) * (bs 5 (.slice va (encs P).length vc) (encs P) * pt sc (spO b n))))).left
end
end Go.Proofs.YtaoohjeaaccnfaaGreat.Fs
namespace Go.SL
set_option linter.unusedVariables false
set_option linter.unusedSimpArgs false
open Go.RowKit
def nbD (L : List Ent) : Nat := (L.length + 14) / 15
def partsD (L : List Ent) : List (List Ent) := (List.range (nbD L)).map (partD L)
theorem partsD_length (L : List Ent) : (partsD L).length = nbD L := by unfold partsD; rw [List.length_map, List.length_range]
theorem partsD_get {L : List Ent} {i : Nat} (h : i < nbD L) : (partsD L)[i]'(by rw [partsD_length]; exact h) = partD L i := by
  unfold partsD; rw [List.getElem_map, List.getElem_range]
theorem parts_flat (L : List Ent) : ∀ m, ((List.range m).map (partD L)).flatten = L.take (15 * m)
  | 0 => by simp
  | m + 1 => by
    rw [List.range_succ, List.map_append, List.flatten_append, parts_flat L m]
    show _ ++ (partD L m ++ []) = _
    rw [List.append_nil, show 15 * (m + 1) = 15 * m + 15 by omega, List.take_add]
    rfl
theorem partsD_flat (L : List Ent) : (partsD L).flatten = L := by
  unfold partsD
  rw [parts_flat, List.take_of_length_le]
  unfold nbD; omega
end Go.SL
namespace Go.Proofs.YtaoohjeaaccnfaaGreat.Fs
set_option linter.unusedVariables false
set_option linter.unusedSimpArgs false
open Go.RowKit Go.SL Go.Proofs.YtaoohjeaaccnfaaGreat.Ba
attribute [local go_sem] Oper.semAt_some
section
variable {n : Nat} {x : Fx n} {b k id : Nat} {A : Nat → Option AF} {f : AF} {L : List Ent} {w : World} {F : Assn}
/-- Entries come, and no error. -/
def enT (p : List Ent × Value) (vs : Array Value) : Assn := fact (vs = #[p.2, .int .i64 0]) * sl 47 2 p.2 p.1.length (flatE p.1)
def EnIt (x : Fx n) (b : Nat) (A : Nat → Option AF) (k id bc sc nc : Nat) (z : Int) : Assn :=
  pt bc (.cells #[.int .i64 z] 3 (0, 0)) * (pt sc (spO b n) * (pt nc (.cells #[.int .i64 (id : Int)] 3 (0, 0)) * fsA x b A k))
def EnRel (AA : List (List Ent × Value) → Assn) (L : List Ent) (X : Assn) (w0 : World) (u : Value) (wr : World) : Prop :=
  ∃ (i : Nat) (ys : List (List Ent × Value)), i ≤ nbD L ∧ u = .int .i64 ((480 * i : Nat) : Int) ∧ ys.map Prod.fst = (partsD L).take i ∧ Side w0 wr ∧ Sat wr (AA ys * X)
set_option maxRecDepth 100000 in
set_option maxHeartbeats 2000000 in
theorem entries_iter (q : Nat) (hf : A id = some f) (D : DirF f L) (bc sc nc : Nat) :
    Iterates Fence.wide q Tryz.prog 97 #[ptV bc, ptV sc, ptV nc] (EnIt x b A k id bc sc nc ((32 * L.length : Nat) : Int)) enT (fun ys => ys.map Prod.fst = partsD L) (fun ys => ys.map Prod.fst <+: partsD L) := by
  intro lp AA Ax G w0 w hY hs h
  have hll := D.len
  obtain ⟨z, hz⟩ : ∃ z, 32 * L.length = z := ⟨_, rfl⟩
  have hw := fun w F h i m hm hi => withinT_any (w := w) (F := F) (x := x) (b := b) (k := k) h hf D i m hm hi
  rw [hz] at hw
  have HW := SL.hid hw; have HZ := SL.hid hz
  rw [hz] at h ⊢
  have hz1 : (z : Int) ≤ 122880 := by omega
  have H := SL.hid h
  clear hw h hz hll
  refine callsIn_of_wp Tryz.func97 rfl trivial ?_ rfl
  simp only [Tryz.ntmps97, List.size_toArray, List.length_cons, List.length_nil, Nat.reduceAdd, Nat.reduceSub, Array.replicate_succ, Array.replicate_zero, List.push_toArray, List.append_toArray, List.nil_append, List.cons_append]
  gi_wp2_with fail
  gi_loopw [5] (fun u wr => EnRel AA L (EnIt x b A k id bc sc nc (z : Int) * G) w0 u wr) (fun u _ => 480 * nbD L - (intOf u).toNat)
  case atStart => exact ⟨0, [], Nat.zero_le _, rfl, rfl, hs, H.out⟩
  case round =>
    clear H hs
    obtain ⟨i, ys, hi, rfl, hys, hside, hsat⟩ := hrel
    have H2 : Sat wr (pt bc (.cells #[.int .i64 (z : Int)] 3 (0, 0)) * (pt sc (spO b n) * (pt nc (.cells #[.int .i64 (id : Int)] 3 (0, 0)) * (fsA x b A k * (AA ys * G))))) := hsat.to (by unfold EnIt; ac_rfl)
    have c0 : wr.cell? ⟨bc, 0, none⟩ = some (.int .i64 (z : Int)) := H2.cell 0
    have c1 : wr.cell? ⟨sc, 0, none⟩ = some (.pointer (some ⟨b, 0, none⟩)) := H2.front2.cell 0
    have c2 : wr.cell? ⟨sc, 1, none⟩ = some (.int .i64 (n : Int)) := H2.front2.cell 1
    have c3 : wr.cell? ⟨nc, 0, none⟩ = some (.int .i64 (id : Int)) := H2.front3.cell 0
    have hnb : nbD L = (L.length + 14) / 15 := rfl
    by_cases hlt : i < nbD L
    · obtain ⟨a, ha⟩ : ∃ a, 480 * i = a := ⟨_, rfl⟩
      have hz9 := HZ.out
      have ha1 : (a : Int) < (z : Int) := by omega
      have ha2 : ((480 * i : Nat) : Int) = (a : Int) := by rw [ha]
      obtain ⟨m, hm⟩ : ∃ m, min 480 (z - 480 * i) = m := ⟨_, rfl⟩
      have hwi := HW.out wr _ (H2.to (by ac_rfl : _ = fsA x b A k * (pt bc (.cells #[.int .i64 (z : Int)] 3 (0, 0)) * (pt sc (spO b n) * (pt nc (.cells #[.int .i64 (id : Int)] 3 (0, 0)) * (AA ys * G)))))) i m hm.symm (by omega)
      rw [ha2] at hwi ⊢
      have Hwi := SL.hid hwi
      have hpre : ∀ u : Value, (ys ++ [(partD L i, u)]).map Prod.fst = (partsD L).take (i + 1) := fun u => by
        rw [List.map_append, hys, List.take_succ_eq_append_getElem (by rw [partsD_length]; exact hlt), partsD_get hlt]; rfl
      have Hpre := SL.hid hpre; have HA := SL.hid ha; have HYs := SL.hid hys
      have hcm : min (480 : Int) ((z : Int) - (a : Int)) = (m : Int) := by omega
      have hm480 : (m : Int) ≤ 480 := by omega
      clear hwi hpre hm hz9 hnb hsat H2 ha hys ha2
      unfold spV at Hwi
      gi_wp2_with fail
      refine callW Hwi.out ?_
      rintro e w2 ⟨u, rfl, d2, h2⟩
      have hB : Sat w2 (AA ys * (enT (partD L i, u) #[u, .int .i64 0] * (EnIt x b A k id bc sc nc (z : Int) * G))) := by
        have h3 := h2.to (by unfold EnIt; ac_rfl : _ = (sl 47 2 u (partD L i).length (flatE (partD L i))) * (AA ys * (EnIt x b A k id bc sc nc (z : Int) * G)))
        have h4 : Sat w2 (enT (partD L i, u) #[u, .int .i64 0] * (AA ys * (EnIt x b A k id bc sc nc (z : Int) * G))) := (Sat.fact_iff.2 ⟨rfl, h3⟩ : Sat w2 (fact _ * (_ * _))).to (star_assoc _ _ _).symm
        exact h4.front2
      obtain ⟨fn, tmps, assign, body, hy, hR⟩ := hY ys (partD L i, u) #[u, .int .i64 0] _ w2 (by show List.map _ _ <+: _; rw [Hpre.out]; exact List.take_prefix _ _) (hside.trans d2) hB
      clear hB h2 hY Hwi c0 c1 c2 c3
      gi_wp2
      refine ⟨fun h => (by cases h), hR.mono ?_⟩
      rintro e W' (⟨rfl, hs5, hsat5⟩ | ⟨rfl, hs5, hsat5⟩)
      · gi_wp2
        go_roundw
        case rel => exact ⟨i + 1, ys ++ [(partD L i, u)], hlt, by have := HA.out; go_num, Hpre.out u, hs5, hsat5⟩
        case measure => have := HA.out; simp [intOf]; omega
      · gi_wp2
        refine bodyPost_ret (results_none rfl _ _ _) rfl ?_
        exact ⟨⟨_, rfl⟩, hs5, .inr ⟨_, by show List.map _ _ <+: _; rw [Hpre.out]; exact List.take_prefix _ _, hsat5⟩⟩
    · obtain rfl : i = nbD L := by omega
      have hz9 := HZ.out
      have hge : ¬ ((480 * nbD L : Nat) : Int) < (z : Int) := by omega
      obtain ⟨a, ha⟩ : ∃ a, 480 * nbD L = a := ⟨_, rfl⟩
      rw [ha] at hge ⊢
      rw [List.take_of_length_le (by rw [partsD_length]; exact Nat.le_refl _)] at hys
      have HS := SL.hid hsat; have HYs := SL.hid hys
      clear hsat H2 hys hz9 hnb ha
      gi_wp2
      go_end0
      exact ⟨⟨_, rfl⟩, hside, .inl ⟨_, HYs.out, HS.out⟩⟩
end
end Go.Proofs.YtaoohjeaaccnfaaGreat.Fs
namespace Go.Proofs.YtaoohjeaaccnfaaGreat.Fs
set_option linter.unusedVariables false
set_option linter.unusedSimpArgs false
open Go.RowKit Go.SL Go.Proofs.YtaoohjeaaccnfaaGreat.Ba
attribute [local go_sem] Oper.semAt_some
section
variable {n : Nat} {x : Fx n} {b k id : Nat} {A : Nat → Option AF} {f : AF} {L : List Ent} {w : World} {F : Assn}
abbrev zNd : Array Value := #[.int .i64 0, .int .i64 0, .int .i64 0, .int .i64 0, .int .i64 0, .int .i64 0, .int .i64 0, .int .i64 0, .int .i64 0, .int .i64 0, .int .i64 0, .int .i64 0, .int .i64 0, .int .i64 0, .int .i64 0, .int .i64 0, .int .i64 0, .int .i64 0, .int .i64 0, .int .i64 0]
def EntrFQ (sv : Value) (id z : Int) (bx n : Nat) (w : World) (e : Ending) (w' : World) : Prop :=
  e = .returned (.func (.func 97) #[] #[ptV (w.heap.size + 2), ptV w.heap.size, ptV (w.heap.size + 1)]) ∧
    w' = ((w.alloc (spO bx n)).alloc (.cells #[.int .i64 id] 3 (0, 0))).alloc (.cells #[.int .i64 z] 3 (0, 0))
theorem entriesF_any (w : World) (b n : Nat) (id z : Int) : Calls Tryz.prog 62 #[spV b n, .int .i64 id, .int .i64 z] w (EntrFQ (spV b n) id z b n w) := by
  unfold spV
  go_enter Tryz.func62, Tryz.ntmps62
  go_wp2
  go_ret
  exact ⟨rfl, rfl⟩
theorem flat_prefix {L : List Ent} {ys : List (List Ent × Value)} (h : ys.map Prod.fst <+: partsD L) : (ys.map Prod.fst).flatten.length ≤ L.length := by
  obtain ⟨t, ht⟩ := h
  have := congrArg List.flatten ht
  rw [List.flatten_append, partsD_flat] at this
  rw [← this, List.length_append]; omega
/-- The entries that grow. -/
def LdA (lc : Nat) (ys : List (List Ent × Value)) : Assn := ex fun v => pt lc (.cells #[v] 43 (0, 0)) * sl 47 2 v (ys.map Prod.fst).flatten.length (flatE (ys.map Prod.fst).flatten)
def setL (p : List Ent × Value) (t : Array Value) : Array Value := (((t.setIfInBounds 28 p.2).setIfInBounds 29 (.int .i64 0)).setIfInBounds 9 p.2).setIfInBounds 10 (.int .i64 0)
theorem loadT_results {w : World} {tmps : Array Value} {a b : Nat} {v e : Value} {F : Assn} (h2 : tmps[4]? = some (ptV a)) (h3 : tmps[5]? = some (ptV b)) (h : Sat w (pt a (.cells #[v] 43 (0, 0)) * (pt b (.cells #[e] 29 (0, 0)) * F))) :
    (results Tryz.f26 tmps).run Tryz.prog w = .ok (.tuple #[v, e]) w := by
  have c0 := h.cell 0
  have c1 := h.front2.cell 0
  have hp : tmps.getD 4 undef = ptV a := by simp [h2]
  have hp3 : tmps.getD 5 undef = ptV b := by simp [h3]
  simp at c0 c1
  simp [results, Tryz.results26, h2, h3, asAddr, ptV, go_sem, c0, c1]
set_option maxRecDepth 100000 in
set_option maxHeartbeats 4000000 in
theorem loadT_any (h : Sat w (fsA x b A k * F)) (hf : A id = some f) (D : DirF f L) :
    Calls Tryz.prog 26 #[spV b n, .int .i64 (id : Int)] w (EntsQ x b A k L F w) := by
  have hA := (((h.alloc (spO b n)).alloc (.cells #[.slice none 0 0] 43 (0, 0))).alloc (.cells #[.int .i64 0] 29 (0, 0)))
  have dA := (((Side.refl w).alloc (spO b n)).alloc (.cells #[.slice none 0 0] 43 (0, 0))).alloc (.cells #[.int .i64 0] 29 (0, 0))
  simp only [World.size_alloc] at hA
  have HD := SL.hid D; have HF := SL.hid hf
  clear h D hf
  unfold spV
  refine (callsIn_wide (n := 9)).1 ?_
  refine callsIn_of_wp_marks Tryz.func26 rfl trivial ?_ rfl
  simp only [Tryz.ntmps26, List.size_toArray, List.length_cons, List.length_nil, Nat.reduceAdd, Nat.reduceSub, Array.replicate_succ, Array.replicate_zero, List.push_toArray, List.append_toArray, List.nil_append, List.cons_append]
  have cA := hA.front3.cell 0
  have cB := hA.front3.cell 1
  simp at cA cB
  refine wpIn_wide.2 ?_
  go_wp2_with fail
  generalize (((w.alloc (spO b n)).alloc (.cells #[.slice none 0 0] 43 (0, 0))).alloc (.cells #[.int .i64 0] 29 (0, 0))) = w1 at *
  generalize w.heap.size + 1 + 1 = r1 at *
  generalize w.heap.size + 1 = r0 at *
  generalize w.heap.size = sc at *
  have hB := hA.to (by ac_rfl : _ = fsA x b A k * (pt sc (spO b n) * (pt r0 (.cells #[.slice none 0 0] 43 (0, 0)) * (pt r1 (.cells #[.int .i64 0] 29 (0, 0)) * F))))
  refine (y_node hB HF.out).mono ?_
  rintro e w2 ⟨y, rfl, y16, ykd, ylk, ysz, d2, h2⟩
  have hX : (ints y.l).size = 20 := by rw [size_ints, Nd.cells y16]
  have hE := h2.alloc (.cells zNd 35 (0, 0))
  have Hz := SL.hid hE.heap
  have hE2 := hE.setRow (cs' := ints y.l)
  have D2 := SL.hid (((dA.trans d2).alloc (.cells zNd 35 (0, 0))).setRow w2.heap.size (ints y.l))
  have Hone : Hid ((ints y.l).all (·.oneCell') = true) := by simp [RowKit.Hid, ints, Value.oneCell']
  have Hinf : Hid ((Tryz.prog.info? 35).map (·.size) = some (ints y.l).size) := by show _ = _; rw [hX]; exact info_node0
  have HX := SL.hid hX
  have n0 : ((w2.alloc (.cells zNd 35 (0, 0))).setRow w2.heap.size (ints y.l)).cell? ⟨w2.heap.size, 0, none⟩ = some (.int .i64 2) := by rw [← HD.out.kd, ← ykd]; exact hE2.cell 0
  have n2 : ((w2.alloc (.cells zNd 35 (0, 0))).setRow w2.heap.size (ints y.l)).cell? ⟨w2.heap.size, 2, none⟩ = some (.int .i64 ((32 * L.length : Nat) : Int)) := by rw [← HD.out.sz, ← ysz]; exact hE2.cell 2
  have hE3 := SL.hid (hE2.to (by ac_rfl : _ = pt w2.heap.size (.cells (ints y.l) 35 (0, 0)) * (fsA x b A k * (pt sc (spO b n) * (pt r0 (.cells #[.slice none 0 0] 43 (0, 0)) * (pt r1 (.cells #[.int .i64 0] 29 (0, 0)) * F))))))
  have HSZ := SL.hid ysz
  clear hA hB h2 hE hE2 hX y16 ykd ylk ysz d2 dA cA cB
  unfold zNd at *
  go_upto_region 7 with (refine wpList_store_row (by exact rfl) 35 (.tmp 6) (.tmp 15) (by exact rfl) w2.heap.size (ints y.l) (by exact rfl) (by exact rfl) 35 _ (by with_reducible exact Hz.out) Hinf.out (by rw [HX.out]; rfl) Hone.out ?_)
  clear Hz Hinf HX Hone
  have hs3 : (((w2.alloc (.cells #[.int .i64 0, .int .i64 0, .int .i64 0, .int .i64 0, .int .i64 0, .int .i64 0, .int .i64 0, .int .i64 0, .int .i64 0, .int .i64 0, .int .i64 0, .int .i64 0, .int .i64 0, .int .i64 0, .int .i64 0, .int .i64 0, .int .i64 0, .int .i64 0, .int .i64 0, .int .i64 0] 35 (0, 0))).setRow w2.heap.size (ints y.l))).heap.size = w2.heap.size + 1 := by simp [World.setRow]
  generalize ((w2.alloc (.cells #[.int .i64 0, .int .i64 0, .int .i64 0, .int .i64 0, .int .i64 0, .int .i64 0, .int .i64 0, .int .i64 0, .int .i64 0, .int .i64 0, .int .i64 0, .int .i64 0, .int .i64 0, .int .i64 0, .int .i64 0, .int .i64 0, .int .i64 0, .int .i64 0, .int .i64 0, .int .i64 0] 35 (0, 0))).setRow w2.heap.size (ints y.l)) = w3 at *
  generalize w2.heap.size = nb at *
  have hC := hE3.out.alloc (.cells #[.slice none 0 0] 43 (0, 0))
  have D3 := D2.out.alloc (.cells #[.slice none 0 0] 43 (0, 0))
  rw [hs3] at hC
  clear hs3 hE3 D2 n0 n2
  generalize w3.alloc (.cells #[.slice none 0 0] 43 (0, 0)) = w4 at *
  generalize nb + 1 = lc at *
  have c0 : w4.cell? ⟨sc, 0, none⟩ = some (.pointer (some ⟨b, 0, none⟩)) := hC.front4.cell 0
  have c1 : w4.cell? ⟨sc, 1, none⟩ = some (.int .i64 (n : Int)) := hC.front4.cell 1
  have n2 : w4.cell? ⟨nb, 2, none⟩ = some (.int .i64 ((32 * L.length : Nat) : Int)) := by rw [← HD.out.sz, ← HSZ.out]; exact hC.front2.cell 2
  have hef := entriesF_any w4 b n id ((32 * L.length : Nat) : Int)
  obtain ⟨z, hz⟩ : ∃ z, ((32 * L.length : Nat) : Int) = z := ⟨_, rfl⟩
  rw [hz] at n2 hef
  have HZ := SL.hid hz
  have Hef := SL.hid hef
  clear hz hef
  go_wp2_with fail
  refine Hef.out.mono ?_
  rintro e w5 ⟨rfl, rfl⟩
  have hE := ((hC.alloc (spO b n)).alloc (.cells #[.int .i64 (id : Int)] 3 (0, 0))).alloc (.cells #[.int .i64 z] 3 (0, 0))
  have D5 := ((D3.alloc (spO b n)).alloc (.cells #[.int .i64 (id : Int)] 3 (0, 0))).alloc (.cells #[.int .i64 z] 3 (0, 0))
  simp only [World.size_alloc] at hE
  clear hC D3 Hef c0 c1 n2
  go_wp2_with fail
  have hF : Sat (((w4.alloc (spO b n)).alloc (.cells #[.int .i64 (id : Int)] 3 (0, 0))).alloc (.cells #[.int .i64 z] 3 (0, 0))) (LdA lc [] * (EnIt x b A k id (w4.heap.size + 2) w4.heap.size (w4.heap.size + 1) ((32 * L.length : Nat) : Int) * (pt r0 (.cells #[.slice none 0 0] 43 (0, 0)) * (pt r1 (.cells #[.int .i64 0] 29 (0, 0)) * F)))) := by
    refine Sat.ex_star_iff.2 ⟨.slice none 0 0, ?_⟩
    have h6 := (hE.slNil 47 2)
    rw [HZ.out]
    have h7 := h6.to (by ac_rfl : _ = (pt nb (.cells (ints y.l) 35 (0, 0)) * pt sc (spO b n)) * (pt lc (.cells #[.slice none 0 0] 43 (0, 0)) * (sl 47 2 (.slice none 0 0) 0 [] * (pt (w4.heap.size + 1 + 1) (.cells #[.int .i64 z] 3 (0, 0)) * (pt w4.heap.size (spO b n) * (pt (w4.heap.size + 1) (.cells #[.int .i64 (id : Int)] 3 (0, 0)) * (fsA x b A k * (pt r0 (.cells #[.slice none 0 0] 43 (0, 0)) * (pt r1 (.cells #[.int .i64 0] 29 (0, 0)) * F)))))))))
    exact h7.right.to (by unfold EnIt; show _ = _ * sl _ 2 _ 0 [] * _; ac_rfl)
  clear hE
  generalize ((w4.alloc (spO b n)).alloc (.cells #[.int .i64 (id : Int)] 3 (0, 0))).alloc (.cells #[.int .i64 z] 3 (0, 0)) = w5 at *
  refine (wpIn_wide (n := 9)).1 ?_
  refine wpIn_range_t (w0 := w) rfl (by decide) (gf := 97) (lb := #[ptV (w4.heap.size + 2), ptV w4.heap.size, ptV (w4.heap.size + 1)]) rfl trivial (enters Tryz.func97 (by kernel_rfl) rfl)
    (entries_iter (x := x) (b := b) (k := k) (id := id) (A := A) _ HF.out HD.out (w4.heap.size + 2) w4.heap.size (w4.heap.size + 1)) setL (LdA lc) (fun pre p => LdA lc pre * sl 47 2 p.2 p.1.length (flatE p.1)) _ ?hps D5 hF ?assign ?body ?done
  case hps =>
    intro p vs Fr W h
    unfold enT at h
    obtain ⟨rfl, _⟩ := Sat.fact_iff.1 (h.to (star_assoc _ _ _))
    rfl
  case assign =>
    intro lp r pre p vs Fr W K _ hsd H hK
    have H1 : Sat W (enT p vs * (LdA lc pre * (pt lp (.loop r) * Fr))) := H.front2
    unfold enT at H1
    obtain ⟨rfl, H2⟩ := Sat.fact_iff.1 (H1.to (star_assoc _ _ _))
    clear H H1
    gi_wp2
    exact hK _ hsd (H2.to (by ac_rfl))
  case body =>
    intro lp r pre p Fr W hp hsd H
    have hfl := flat_prefix hp
    have hlen := HD.out.len
    obtain ⟨P, u⟩ := p
    rw [List.map_append, List.flatten_append] at hfl
    have e1 : ((pre.map Prod.fst).flatten ++ (List.map Prod.fst [(P, u)]).flatten) = (pre.map Prod.fst).flatten ++ P := by simp
    rw [e1, List.length_append] at hfl
    have H0 : Sat W (LdA lc pre * (sl 47 2 u P.length (flatE P) * (pt lp (.loop r) * Fr))) := H.to (by ac_rfl)
    obtain ⟨v, H1⟩ := Sat.ex_star_iff.1 H0
    have H2 : Sat W (sl 47 2 v (pre.map Prod.fst).flatten.length (flatE (pre.map Prod.fst).flatten) * (pt lc (.cells #[v] 43 (0, 0)) * (sl 47 2 u P.length (flatE P) * (pt lp (.loop r) * Fr)))) := H1.to (by ac_rfl)
    obtain ⟨i0, hi, hz, hs0, hb0⟩ := info_parts info_ent2
    have hR := H2.front3.rds
    have c0 : W.cell? ⟨lc, 0, none⟩ = some v := H2.front2.cell 0
    obtain ⟨v', w', hrun, hsat', hside'⟩ := Sat.append (P := Tryz.prog) (ty := 43) Tryz.underlying43 hi hz hs0 hb0 rfl H2 hR (flatE_one P) (by unfold maxLen; omega) (by omega)
    obtain ⟨aa, ac, rfl⟩ := sl_shape hsat'
    have c1 : w'.cell? ⟨lc, 0, none⟩ = some v := hsat'.front2.cell 0
    have f1 := hsat'.front2.frozen 0
    have hset := hsat'.front2.setCell 0 (.slice aa ((pre.map Prod.fst).flatten.length + P.length) ac)
    obtain ⟨q, hq⟩ : ∃ q, (pre.map Prod.fst).flatten = q := ⟨_, rfl⟩
    rw [hq] at hrun hset
    have Hset := SL.hid hset; have Hrun := SL.hid hrun; have HQ2 := SL.hid hq
    have Hsd := SL.hid ((hsd.trans hside').setCell ⟨lc, 0, none⟩ (.slice aa (q.length + P.length) ac))
    clear hR hi hz hs0 hb0 hset hrun H H0 H1 H2 hsat' hfl hlen hp hq e1 hside' hsd
    simp only [setL, List.setIfInBounds_toArray, List.set_cons_succ, List.set_cons_zero]
    gi_wp2_with (gi_at_builtin; refine wpListIn_append_run Hrun.out _ _ rfl rfl rfl rfl rfl ?_)
    refine ⟨?_, ?_⟩
    · exact Hsd.out
    · refine Sat.ex_star_iff.2 ⟨.slice aa (q.length + P.length) ac, ?_⟩
      have e : (List.map Prod.fst (pre ++ [(P, u)])).flatten = q ++ P := by rw [List.map_append, List.flatten_append, HQ2.out]; simp
      rw [e, List.length_append, flatE_append]
      have h6 := Hset.out
      simp only [List.setIfInBounds_toArray, List.set_cons_zero] at h6
      exact (h6.to (by ac_rfl : _ = sl 47 2 u P.length (flatE P) * (pt lc (.cells #[.slice aa (q.length + P.length) ac] 43 (0, 0)) * sl 47 2 (.slice aa (q.length + P.length) ac) (q.length + P.length) (flatE q ++ flatE P) * (pt lp (.loop r) * Fr)))).right
  case done =>
    intro D2 ys W hS hsd H
    obtain ⟨v, H1⟩ := Sat.ex_star_iff.1 H
    have e : (ys.map Prod.fst).flatten = L := by rw [hS, partsD_flat]
    rw [e] at H1
    have H2 : Sat W (pt D2 (.deferred (some [])) * (pt lc (.cells #[v] 43 (0, 0)) * (pt r0 (.cells #[.slice none 0 0] 43 (0, 0)) * (pt r1 (.cells #[.int .i64 0] 29 (0, 0)) * (sl 47 2 v L.length (flatE L) * (EnIt x b A k id (w4.heap.size + 2) w4.heap.size (w4.heap.size + 1) ((32 * L.length : Nat) : Int) * F)))))) := H1.to (by ac_rfl)
    obtain ⟨aa, ac, rfl⟩ := sl_shape H2.front5
    have c0 : W.cell? ⟨lc, 0, none⟩ = some (.slice aa L.length ac) := H2.front2.cell 0
    have z0 : W.cell? ⟨r0, 0, none⟩ = some (.slice none 0 0) := H2.front3.cell 0
    have z1 : W.cell? ⟨r1, 0, none⟩ = some (.int .i64 0) := H2.front4.cell 0
    have f0 := H2.front3.frozen 0
    have f1 := H2.front4.frozen 0
    have H3 := H2.front3.setCell 0 (.slice aa L.length ac)
    have z1' : (W.setCell ⟨r0, 0, none⟩ (.slice aa L.length ac)).cell? ⟨r1, 0, none⟩ = some (.int .i64 0) := H3.front4.cell 0
    have f1' := H3.front4.frozen 0
    have H4 := SL.hid (H3.front4.setCell 0 (.int .i64 0))
    have Hsd := SL.hid ((hsd.setCell ⟨r0, 0, none⟩ (.slice aa L.length ac)).setCell ⟨r1, 0, none⟩ (.int .i64 0))
    clear H H1 H2 H3 hF e D5
    go_wp2_with fail
    have h6 := H4.out
    simp only [List.setIfInBounds_toArray, List.set_cons_zero] at h6
    have h7 := h6.to (by ac_rfl : _ = pt D2 (.deferred (some [])) * (pt r0 (.cells #[.slice aa L.length ac] 43 (0, 0)) * (pt r1 (.cells #[.int .i64 0] 29 (0, 0)) * (sl 47 2 (.slice aa L.length ac) L.length (flatE L) * (EnIt x b A k id (w4.heap.size + 2) w4.heap.size (w4.heap.size + 1) ((32 * L.length : Nat) : Int) * (F * pt lc (.cells #[.slice aa L.length ac] 43 (0, 0))))))))
    have hK := h7.heap
    have h8 := (h7.putObj (.deferred none)).right
    clear h6 h7
    refine ⟨by simp, .inl ⟨_, _, rfl, run_takeDeferred hK, ?_⟩⟩
    refine ⟨_, loadT_results rfl rfl h8, ⟨.slice aa L.length ac, rfl, Hsd.out.putObj _ _, ?_⟩⟩
    have h9 := h8.right.right
    unfold EnIt at h9
    exact (h9.to (by ac_rfl : _ = (sl 47 2 (.slice aa L.length ac) L.length (flatE L) * (fsA x b A k * F)) * (pt lc (.cells #[.slice aa L.length ac] 43 (0, 0)) * (pt (w4.heap.size + 2) (.cells #[.int .i64 ((32 * L.length : Nat) : Int)] 3 (0, 0)) * (pt w4.heap.size (spO b n) * pt (w4.heap.size + 1) (.cells #[.int .i64 (id : Int)] 3 (0, 0))))))).left
end
end Go.Proofs.YtaoohjeaaccnfaaGreat.Fs
namespace Go.SL
set_option linter.unusedVariables false
set_option linter.unusedSimpArgs false
open Go.RowKit
/-- Where a name stands first. -/
def plc (L : List Ent) (nm : List UInt8) : Option Nat := L.findIdx? fun e => decide (e.nm = nm)
def plcV (L : List Ent) (nm : List UInt8) : Int := match plc L nm with | some i => (i : Int) | none => -1
theorem plc_some {L : List Ent} {nm : List UInt8} {i : Nat} (hi : i < L.length) (h : (L[i]).nm = nm) (hb : ∀ j (hj : j < i), (L[j]'(by omega)).nm ≠ nm) : plcV L nm = (i : Int) := by
  have : plc L nm = some i := by
    unfold plc
    rw [List.findIdx?_eq_some_iff_getElem]
    exact ⟨hi, decide_eq_true h, fun j hj => by simpa using hb j hj⟩
  unfold plcV; rw [this]
theorem plc_none {L : List Ent} {nm : List UInt8} (h : ∀ e ∈ L, e.nm ≠ nm) : plcV L nm = -1 := by
  have : plc L nm = none := by
    unfold plc
    rw [List.findIdx?_eq_none_iff]
    exact fun e he => decide_eq_false (h e he)
  unfold plcV; rw [this]
theorem str_beq (a b : List UInt8) : ((str a).toList == (str b).toList) = decide (a = b) := by
  rw [Lib.toList_data, Lib.toList_data, Bool.eq_iff_iff, beq_iff_eq, decide_eq_true_iff]
  exact Iff.rfl
end Go.SL
namespace Go.Proofs.YtaoohjeaaccnfaaGreat.Fs
set_option linter.unusedVariables false
set_option linter.unusedSimpArgs false
open Go.RowKit Go.SL Go.Proofs.YtaoohjeaaccnfaaGreat.Ba
def BoolQ (b : Bool) (w : World) (e : Ending) (w' : World) : Prop := e = .returned (.bool b) ∧ Sat w' (whole w) ∧ Side w w'
theorem place1_any (w : World) (e : Ent) (nc : Nat) (nm : List UInt8) (hc : w.cell? ⟨nc, 0, none⟩ = some (.string (str nm))) :
    Calls Tryz.prog 64 #[.agg #[.int .i64 (e.nd : Int), .string (str e.nm)], .pointer (some ⟨nc, 0, none⟩)] w (BoolQ (decide (e.nm = nm)) w) := by
  refine callsQ fun Q HQ => ?_
  have hA := SL.hid ((Sat.whole w).alloc (.cells #[.int .i64 (e.nd : Int), .string (str e.nm)] 47 (0, 0)))
  have dA := SL.hid ((Side.refl w).alloc (.cells #[.int .i64 (e.nd : Int), .string (str e.nm)] 47 (0, 0)))
  have c1 := cell_alloc w (.cells #[.int .i64 (e.nd : Int), .string (str e.nm)] 47 (0, 0)) _ _ hc
  have hb := str_beq e.nm nm
  go_enter Tryz.func64, Tryz.ntmps64
  go_wp2_with fail
  exact HQ.out _ _ ⟨by simp, hA.out.right, dA.out⟩
def PlcRel (L : List Ent) (nm : List UInt8) (w0 : World) (F : Assn) (u : Value) (wr : World) : Prop :=
  ∃ k : Nat, k ≤ L.length ∧ u = .int .i64 (k : Int) ∧ (∀ j (hj : j < L.length), j < k → (L[j]).nm ≠ nm) ∧ Side w0 wr ∧ Sat wr F
theorem ents_at {w : World} {v : Value} {L : List Ent} {F : Assn} (h : Sat w (sl 47 2 v L.length (flatE L) * F)) {k : Nat} (hk : k < L.length) :
    ∃ g c, v = .slice (some ⟨g, 0, none⟩) L.length c ∧ w.cell? ⟨g, k * 2, none⟩ = some (.int .i64 ((L[k]).nd : Int)) ∧ w.cell? ⟨g, k * 2 + 1, none⟩ = some (.string (str (L[k]).nm)) ∧ L.length ≤ c ∧ c ≤ 9223372036854775807 := by
  rcases h.slCases with ⟨_, h0, _⟩ | ⟨g, cap, cur, rfl, h3, h4, h5, h6, h7⟩
  · omega
  · obtain ⟨e1, e2⟩ := flatE_get hk
    refine ⟨g, cap, rfl, ?_, ?_, h3, by unfold maxLen at h4; omega⟩
    · rw [h7.cell, ← e1, ← h6, List.getElem?_take, if_pos (by omega), Array.getElem?_toList]
    · rw [h7.cell, ← e2, ← h6, List.getElem?_take, if_pos (by omega), Array.getElem?_toList]
def IntFQ (z : Int) (F : Assn) (w : World) (e : Ending) (w' : World) : Prop := e = .returned (.int .i64 z) ∧ Sat w' F ∧ Side w w'
set_option maxRecDepth 100000 in
set_option maxHeartbeats 2000000 in
theorem indexE_any (w : World) (v : Value) (L : List Ent) (nc : Nat) (nm : List UInt8) (F : Assn) (hl : L.length ≤ 3840) (h : Sat w (sl 47 2 v L.length (flatE L) * (pt nc (.cells #[.string (str nm)] 9 (0, 0)) * F))) :
    Calls Tryz.prog 63 #[v, .func (.func 64) #[] #[.pointer (some ⟨nc, 0, none⟩)]] w (IntFQ (plcV L nm) (sl 47 2 v L.length (flatE L) * (pt nc (.cells #[.string (str nm)] 9 (0, 0)) * F)) w) := by
  refine callsQ fun Q HQ => ?_
  obtain ⟨va, vc, rfl⟩ := sl_shape h
  have H := SL.hid h
  obtain ⟨m, hm⟩ : ∃ m, L.length = m := ⟨_, rfl⟩
  have HM := SL.hid hm
  have hmi : (m : Int) ≤ 3840 := by omega
  rw [hm]
  clear h hm
  go_enter Tryz.func63, Tryz.ntmps63
  go_wp2_with fail
  go_loopw [8] (fun u wr => PlcRel L nm w (sl 47 2 (.slice va L.length vc) L.length (flatE L) * (pt nc (.cells #[.string (str nm)] 9 (0, 0)) * F)) u wr) (fun u _ => m - (intOf u).toNat)
  case atStart => exact ⟨0, Nat.zero_le _, rfl, fun j hj h0 => absurd h0 (Nat.not_lt_zero _), Side.refl w, H.out⟩
  case round =>
    obtain ⟨k, hk, rfl, hall, hside, hsat⟩ := hrel
    rw [HM.out] at hk
    have HS := SL.hid hsat; have HAll := SL.hid hall
    by_cases hlt : k < m
    · have hlt' : (k : Int) < (m : Int) := by omega
      have hkL : k < L.length := by have := HM.out; omega
      obtain ⟨g, c, e, e1, e2, k1, k2⟩ := ents_at hsat hkL
      simp only [Value.slice.injEq] at e
      obtain ⟨rfl, -, rfl⟩ := e
      have cn : wr.cell? ⟨nc, 0, none⟩ = some (.string (str nm)) := hsat.front2.cell 0
      have hp := place1_any wr L[k] nc nm cn
      have Hk : Hid (∀ (hq : k < L.length), (L[k]'hq).nm = (L[k]).nm) := fun _ => rfl
      generalize hx : L[k] = x at *
      have HX := SL.hid hx
      have k1' : (m : Int) ≤ (vc : Int) := by have := HM.out; omega
      have k2' : (vc : Int) ≤ 9223372036854775807 := by omega
      clear hsat hall H hx cn k1 k2
      by_cases hc : x.nm = nm
      · rw [decide_eq_true hc] at hp
        have Hp := SL.hid hp; have HC := SL.hid hc
        clear hp hc
        go_wp2_with fail
        refine Hp.out.mono ?_
        rintro e w2 ⟨rfl, h2, d2⟩
        have h3 := h2.keepW HS.out
        have hv : plcV L nm = (k : Int) := plc_some hkL (by rw [HX.out]; exact HC.out) fun j hj => HAll.out j (by omega) hj
        have HV := SL.hid hv; have H3 := SL.hid h3
        clear h2 h3 hv
        go_wp2_with fail
        exact HQ.out _ _ ⟨by rw [HV.out]; try (first | rfl | simp), H3.out, hside.trans d2⟩
      · rw [decide_eq_false hc] at hp
        have Hp := SL.hid hp; have HC := SL.hid hc
        clear hp hc
        go_wp2_with fail
        refine Hp.out.mono ?_
        rintro e w2 ⟨rfl, h2, d2⟩
        have H3 := SL.hid (h2.keepW HS.out)
        clear h2
        go_wp2_with fail
        go_roundw
        case rel => exact ⟨k + 1, by rw [HM.out]; omega, by go_num, fun j hj hj2 => by
          rcases Nat.lt_succ_iff_lt_or_eq.1 hj2 with h | rfl
          · exact HAll.out j hj h
          · rw [HX.out]; exact HC.out, hside.trans d2, H3.out⟩
        case measure => simp [intOf]; omega
    · obtain rfl : k = m := by omega
      have hv : plcV L nm = -1 := plc_none fun e he => by
        obtain ⟨j, hj, rfl⟩ := List.getElem_of_mem he
        exact HAll.out j hj (by have := HM.out; omega)
      have HV := SL.hid hv
      clear hv hall hsat H
      go_wp2_with fail
      exact HQ.out _ _ ⟨by rw [HV.out]; try (first | rfl | simp), by have := HS.out; rwa [HM.out] at this ⊢, hside⟩
def PlaceQ (v : Value) (L : List Ent) (nm : List UInt8) (F : Assn) (w : World) (e : Ending) (w' : World) : Prop := e = .returned (.int .i64 (plcV L nm)) ∧ Sat w' (sl 47 2 v L.length (flatE L) * F) ∧ Side w w'
theorem place_any (w : World) (v : Value) (L : List Ent) (nm : List UInt8) (F : Assn) (hl : L.length ≤ 3840) (h : Sat w (sl 47 2 v L.length (flatE L) * F)) :
    Calls Tryz.prog 27 #[v, .string (str nm)] w (PlaceQ v L nm F w) := by
  refine callsQ fun Q HQ => ?_
  have hA := (h.alloc (.cells #[.string (str nm)] 9 (0, 0))).front2
  have dA := SL.hid ((Side.refl w).alloc (.cells #[.string (str nm)] 9 (0, 0)))
  have hi := indexE_any _ v L _ nm F hl hA
  have Hi := SL.hid hi
  obtain ⟨va, vc, rfl⟩ := sl_shape h
  clear hA hi h
  go_enter Tryz.func27, Tryz.ntmps27
  go_wp2_with fail
  refine Hi.out.mono ?_
  rintro e w2 ⟨rfl, h2, d2⟩
  have H2 := SL.hid h2
  clear Hi h2
  go_wp2_with fail
  exact HQ.out _ _ ⟨rfl, H2.out.drop2, dA.out.trans d2⟩
end Go.Proofs.YtaoohjeaaccnfaaGreat.Fs

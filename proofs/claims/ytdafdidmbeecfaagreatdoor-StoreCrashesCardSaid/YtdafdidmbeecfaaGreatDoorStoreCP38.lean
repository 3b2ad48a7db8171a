/- Steps towards the statement StoreC. -/
import Derived.Test.YtdafdidmbeecfaaGreatDoorStoreCP37
section
namespace Go.Proofs.YtdafdidmbeecfaaGreatDoor.Su
set_option linter.unusedVariables false
set_option linter.unusedSimpArgs false
open Go.RowKit Go.SL Go.Proofs.YtdafdidmbeecfaaGreatDoor Go.Proofs.YtdafdidmbeecfaaGreatDoor.Ba Go.Proofs.YtdafdidmbeecfaaGreatDoor.Fs
structure WIn11 (n : Nat) (v : Value) (L : Wo) : Prop where
 sh : ∃ a c, v = .slice a L.length c
 ids : ∀ x ∈ L, 0 ≤ x.2.1 ∧ x.2.1 < (n : Int)
 nd : (L.map fun x => x.2.1).Nodup
 b480 : ∀ x ∈ L, x.2.2.length = 480
 l24 : L.length ≤ 24
 bjs : ∀ x ∈ L, ∃ c, x.2.2 = bj c
theorem WIn11.len {n : Nat} {v : Value} {L : Wo} (h : WIn11 n v L) : L.length ≤ n := by
 have := nodup_below (n := n) h.nd (fun x hx => by
  obtain ⟨y, hy, rfl⟩ := List.mem_map.1 hx
  exact h.ids y hy)
 rwa [List.length_map] at this
theorem WIn11.batch {n : Nat} {v : Value} {L : Wo} (h : WIn11 n v L) (h0 : 1 ≤ L.length) : Batch (n : Int) L.bl := by
 have hl := h.l24
 refine ⟨by rw [bl_len]; exact h0, by rw [bl_len]; omega, ?_, ?_, ?_⟩
 ·intro x hx
  obtain ⟨y, hy, rfl⟩ := List.mem_map.1 hx
  exact h.ids y hy
 ·intro x hx
  obtain ⟨y, hy, rfl⟩ := List.mem_map.1 hx
  exact h.b480 y hy
 ·have e : L.bl.map Prod.fst = L.map fun x => x.2.1 := by unfold Wo.bl; rw [List.map_map]; rfl
  rw [e]; exact h.nd
theorem WIn11.snoc {n m : Nat} {a : Option Addr} {c : Nat} {v : Value} {L : Wo} (h : WIn11 n v L) {g : Nat} {id : Int} {l : List UInt8} (h0 : 0 ≤ id) (h1 : id < (n : Int)) (hn : id ∉ L.map fun x => x.2.1) (hl : l.length = 480) (hc : ∃ c, l = bj c) (h24 : L.length < 24) (hm : m = L.length + 1) : WIn11 n (.slice a m c) (L ++ [(g, id, l)]) := by
 refine ⟨⟨a, c, by rw [List.length_append]; simp [hm]⟩, ?_, ?_, ?_, by rw [List.length_append]; simp; omega, ?_⟩
 ·intro x hx
  rcases List.mem_append.1 hx with hx | hx
  ·exact h.ids x hx
  ·obtain rfl : x = (g, id, l) := by simpa using hx
   exact ⟨h0, h1⟩
 ·rw [List.map_append, List.nodup_append]
  refine ⟨h.nd, by simp, ?_⟩
  intro a ha b hb e
  have : b = id := by simpa using hb
  rw [e, this] at ha
  exact hn ha
 ·intro x hx
  rcases List.mem_append.1 hx with hx | hx
  ·exact h.b480 x hx
  ·obtain rfl : x = (g, id, l) := by simpa using hx
   exact hl
 ·intro x hx
  rcases List.mem_append.1 hx with hx | hx
  ·exact h.bjs x hx
  ·obtain rfl : x = (g, id, l) := by simpa using hx
   exact hc
def SeenW (n : Nat) (bs : List Bool) (L : Wo) : Prop := SeenOf n bs (L.map fun x => (x.2.1, 0))
def W2Rel (n xl sn : Nat) (Y : Assn) (w : World) (u9 u11 : Value) (wr : World) : Prop :=
 ∃ (k : Nat) (L : Wo) (bs : List Bool), k ≤ xl ∧ u11 = .int .i64 (k : Int) ∧ WIn11 n u9 L ∧ SeenW n bs L ∧ Sat wr (wrsA u9 L * (pt sn (.cells (bls bs) 4 (0, 0)) * Y)) ∧ Side w wr
def WritesQ (n : Nat) (w : World) (e : Ending) (w' : World) : Prop := ∃ (v : Value) (L : Wo), e = .returned v ∧ WIn11 n v L ∧ Sat w' (wrsA v L * whole w) ∧ Side w w'
def stepV (kd dt nn : Int) (ids kv : Value) : Value := .agg #[.int .i64 kd, .int .i64 dt, .int .i64 nn, ids, kv]
set_option maxRecDepth 100000 in
set_option maxHeartbeats 4000000 in
theorem writes11_any (w : World) (n : Nat) (hn0 : 1 ≤ n) (hn1 : n ≤ 100) (kd dt nn : Int) (xa : Option Addr) (xl xc : Nat) (xz : List Int) (hI : IsInts w xa xl xc xz) (kv : Value) :
  Calls Tryz.prog 18 #[stepV kd dt nn (.slice xa xl xc) kv, .int .i64 (n : Int)] w (WritesQ n w) := by
 have hxl := hI.len_le
 have hmk : ∀ w, (Instr.makeSlice 99 (.int .i64 (n : Int)) (.int .i64 (n : Int))).run Tryz.prog w = .ok (.slice (some ⟨w.heap.size, 0, none⟩) n n) (w.alloc (.cells (bls (List.replicate n false)) 4 (0, 0))) := make_bls n (by omega)
 obtain ⟨B0, hB0⟩ : ∃ l, l = List.replicate n false := ⟨_, rfl⟩
 rw [← hB0] at hmk
 have HB0 := SL.hid hB0
 have hnn : (n : Int) ≤ 100 := by omega
 have hnn0 : (1 : Int) ≤ (n : Int) := by omega
 have h1 := ((Sat.whole w).alloc (.cells #[.int .i64 kd, .int .i64 dt, .int .i64 nn, .slice xa xl xc, kv] 49 (0, 0))).alloc (.cells (bls B0) 4 (0, 0))
 have d1 := ((Side.refl w).alloc (.cells #[.int .i64 kd, .int .i64 dt, .int .i64 nn, .slice xa xl xc, kv] 49 (0, 0))).alloc (.cells (bls B0) 4 (0, 0))
 rw [World.size_alloc] at h1
 unfold stepV
 have HI := SL.hid hI
 clear hB0 hI
 go_enter Tryz.func18, Tryz.ntmps18
 go_wp2_with fail
 generalize (w.alloc (.cells #[.int .i64 kd, .int .i64 dt, .int .i64 nn, .slice xa xl xc, kv] 49 (0, 0))).alloc (.cells (bls B0) 4 (0, 0)) = w5 at h1 d1 ⊢
 generalize w.heap.size + 1 = sn at h1 ⊢
 generalize w.heap.size = sb at h1 ⊢
 obtain ⟨Y, hY⟩ : ∃ X, X = pt sb (.cells #[.int .i64 kd, .int .i64 dt, .int .i64 nn, .slice xa xl xc, kv] 49 (0, 0)) * whole w := ⟨_, rfl⟩
 rw [← hY] at h1
 have hold : ∀ (ad : Addr) (u : Value), w.cell? ad = some u → ∀ (Q : Assn) (w' : World), Sat w' (Q * Y) → w'.cell? ad = some u := fun ad u hc Q w' h =>
  (h.to (by rw [hY]; ac_rfl : _ = (Q * pt sb (.cells #[.int .i64 kd, .int .i64 dt, .int .i64 nn, .slice xa xl xc, kv] 49 (0, 0))) * whole w)).cellOld hc
 have hbox : ∀ (Q : Assn) (w' : World), Sat w' (Q * Y) → w'.cell? ⟨sb, 1, none⟩ = some (.int .i64 dt) ∧ w'.cell? ⟨sb, 3, none⟩ = some (.slice xa xl xc) := fun Q w' h => by
  have h' := (h.to (by rw [hY]; ac_rfl : _ = pt sb (.cells #[.int .i64 kd, .int .i64 dt, .int .i64 nn, .slice xa xl xc, kv] 49 (0, 0)) * (Q * whole w)))
  exact ⟨h'.cell 1, h'.cell 3⟩
 have HY := SL.hid hY; have H6h := SL.hid h1; have HD5 := SL.hid d1; have Hold := SL.hid hold; have Hbox := SL.hid hbox
 clear hmk hY h1 d1 hold hbox
 go_loopw [5, 7] (fun u9 u11 wr => W2Rel n xl sn Y w u9 u11 wr) (fun _ u _ => xl - (intOf u).toNat)
 case atStart =>
  refine ⟨0, [], B0, Nat.zero_le _, rfl, ⟨⟨none, 0, rfl⟩, fun x h => (by cases h), List.nodup_nil, fun x h => (by cases h), by simp, fun x h => (by cases h)⟩, by rw [HB0.out]; exact seen0 n, ?_, HD5.out⟩
  exact (H6h.out.slNil 57 2).to (by unfold wrsA; show _ = (sl _ _ _ _ _ * emp) * _; rw [star_emp]; rfl)
 case round =>
  clear H6h HD5
  obtain ⟨k, L, bs, hk, rfl, h3, hseen, hsat, hside⟩ := hrel
  obtain ⟨va, vc, rfl⟩ := h3.sh
  have hl24 := h3.l24
  have hsatY := hsat.to (by ac_rfl : _ = (wrsA (.slice va L.length vc) L * pt sn (.cells (bls bs) 4 (0, 0))) * Y)
  obtain ⟨cS1, cS3⟩ := Hbox.out _ wr hsatY
  obtain ⟨m, hm⟩ : ∃ m, m = L.length := ⟨_, rfl⟩
  have hm24 : (m : Int) ≤ 24 := by omega
  have Hm := SL.hid hm; have H3 := SL.hid h3; have Hseen := SL.hid hseen; have Hside := SL.hid hside; have HsY := SL.hid hsatY
  by_cases hg1 : k < xl ∧ m < 24
  ·obtain ⟨hg1, hg2⟩ := hg1
   have hg1' : (k : Int) < (xl : Int) := by omega
   have hg2' : (m : Int) < 24 := by omega
   obtain ⟨b2, off2, rfl, cz, hl2, hc2⟩ := HI.out.cell hg1
   have cZ : wr.cell? ⟨b2, off2 + k, none⟩ = some (.int .i64 (xz.getD k 0)) := Hold.out _ _ cz _ wr hsatY
   obtain ⟨z, hz⟩ : ∃ z, z = xz.getD k 0 := ⟨_, rfl⟩
   rw [← hz] at cZ
   have hand := and16 z
   have hp1 : 0 ≤ z % 65536 % (n : Int) := Int.emod_nonneg _ (by omega)
   have hp2 : z % 65536 % (n : Int) < (n : Int) := Int.emod_lt_of_pos _ (by omega)
   obtain ⟨id, hid⟩ := Int.eq_ofNat_of_zero_le hp1
   have htm : (z % 65536).tmod (n : Int) = (id : Int) := by
    rw [Int.tmod_eq_emod_of_nonneg (by omega)]; exact hid
   have hidn : id < n := by omega
   have hidn' : (id : Int) < (n : Int) := by omega
   have hbl := hseen.1
   have cB : wr.cell? ⟨sn, id, none⟩ = some (.bool (bs.getD id false)) := (hsat.front2.cell id).trans (get_bls (by omega))
   have fB : wr.frozen? ⟨sn, id, none⟩ = false := hsat.front2.frozen id
   have hsid := hseen.2 id hidn
   have hz0 : 0 ≤ z % 65536 := by omega
   have hz1 : z % 65536 < 65536 := by omega
   have Hs0 := SL.hid hsat
   rw [← hm]
   clear hz cz hseen h3 hside hp1 hp2 hbl hm hsat hsatY hid hl24
   by_cases hbv : bs.getD id false = true
   ·rw [hbv] at cB
    clear hsid hbv
    go_wp2
    go_roundw
    case rel => exact ⟨k + 1, L, bs, by omega, by go_num, by rw [Hm.out]; exact H3.out, Hseen.out, by rw [Hm.out]; exact Hs0.out, Hside.out⟩
    case measure => simp [intOf]; omega
   ·have hbf : bs.getD id false = false := by simpa using hbv
    rw [hbf] at cB
    have hnew : (id : Int) ∉ L.map fun x => x.2.1 := fun h => hbv (hsid.2 (by rw [List.map_map]; exact h))
    have Hnew := SL.hid hnew
    have hset := Hs0.out.front2.setCell id (.bool true)
    rw [set_bls] at hset
    have D6 := Hside.out.setCell ⟨sn, id, none⟩ (.bool true)
    obtain ⟨cT1, cT3⟩ := Hbox.out _ _ (hset.to (by ac_rfl : _ = (pt sn (.cells (bls (bs.set id true)) 4 (0, 0)) * wrsA (.slice va L.length vc) L) * Y))
    have Hset := SL.hid hset; have HD6 := SL.hid D6
    clear hsid hbv hbf hnew hset D6
    go_upto_region 9 with (fail)
    generalize wr.setCell ⟨sn, id, none⟩ (.bool true) = w6 at Hset HD6 cT1 cT3 ⊢
    go_wp2_with fail
    (with_reducible refine (block11_any _ _).mono ?_)
    rintro e w7 ⟨gb, rfl, h7, d7⟩
    generalize wrap64 (bits BinOp.and IntKind.i64 dt 255 + (k : Int)) = bc at h7
    have h8 := (h7.under Hset.out)
    have D8 := HD6.out.trans d7
    have H8 : Sat w7 (sl 57 2 (.slice va L.length vc) L.length (SL.flatW L.wr) * (pt gb (.cells (u8s (bj bc)) 5 (0, 0)) * (blksA (L.map fun x => (x.1, x.2.2)) * (pt sn (.cells (bls (bs.set id true)) 4 (0, 0)) * Y)))) := h8.to (by unfold wrsA; ac_rfl)
    obtain ⟨a', c', w8, hrun, h9, d9⟩ := append_write (Z := L.wr) H8 (id : Int) gb (bj bc) (by rw [← Hm.out]; omega)
    rw [← Hm.out] at hrun h9
    have H9 := SL.hid h9
    have HD9 := SL.hid (D8.trans d9)
    have Hrun := SL.hid hrun
    have hbl8 : (bs.set id true).length = n := by rw [List.length_set]; exact Hseen.out.1
    clear h7 h8 H8 D8 h9 d9 hrun hbl8 cT1 cT3
    go_wp2_with (at_builtin; refine wpList_append_run Hrun.out _ _ rfl rfl rfl rfl rfl ?_)
    go_roundw
    case rel =>
     have hlen : (L ++ [(gb, (id : Int), bj bc)]).length = m + 1 := by rw [List.length_append, ← Hm.out]; rfl
     have hsn := WIn11.snoc (a := a') (c := c') H3.out (g := gb) (l := bj bc) (by omega) hidn' Hnew.out (bj_len _) ⟨_, rfl⟩ (by rw [← Hm.out]; exact hg2) (show m + 1 = L.length + 1 by rw [Hm.out])
     refine ⟨k + 1, L ++ [(gb, (id : Int), bj bc)], bs.set id true, by omega, by go_num, hsn, ?_, ?_, HD9.out⟩
     ·have := seen_snoc Hseen.out hidn 0
      unfold SeenW
      rw [List.map_append]; exact this
     ·have h := H9.out
      unfold wrsA
      have e2 : Wo.wr (L ++ [(gb, (id : Int), bj bc)]) = Wo.wr L ++ [((id : Int), .slice (some ⟨gb, 0, none⟩) 480 480, bj bc)] := by simp [Wo.wr]
      have e3 : (L ++ [(gb, (id : Int), bj bc)]).map (fun x => (x.1, x.2.2)) = L.map (fun x => (x.1, x.2.2)) ++ [(gb, bj bc)] := by simp
      rw [hlen, e2, e3, blksA_snoc]
      exact h.to (by ac_rfl)
    case measure => simp [intOf]; omega
  ·have hfin : WIn11 n (.slice va m vc) L ∧ Sat wr (wrsA (.slice va m vc) L * whole w) ∧ Side w wr := by
    rw [Hm.out]
    exact ⟨H3.out, (HsY.out.to (by rw [HY.out]; ac_rfl : _ = (pt sn (.cells (bls bs) 4 (0, 0)) * pt sb (.cells #[.int .i64 kd, .int .i64 dt, .int .i64 nn, .slice xa xl xc, kv] 49 (0, 0))) * (wrsA (.slice va L.length vc) L * whole w))).right, Hside.out⟩
   have Hfin := SL.hid hfin
   rw [← hm]
   clear hfin hsat hsatY hside h3 hseen hm hl24
   by_cases hg1' : k < xl
   ·have h1 : (k : Int) < (xl : Int) := by omega
    have h2 : ¬ (m : Int) < 24 := fun h => hg1 ⟨hg1', by omega⟩
    clear hg1
    go_wp2_with fail
    go_ret
    exact ⟨_, L, rfl, Hfin.out⟩
   ·have h1 : ¬ (k : Int) < (xl : Int) := by omega
    clear hg1
    go_wp2_with fail
    go_ret
    exact ⟨_, L, rfl, Hfin.out⟩
end Go.Proofs.YtdafdidmbeecfaaGreatDoor.Su
end
section
namespace Go.Proofs.YtdafdidmbeecfaaGreatDoor.Su
set_option linter.unusedVariables false
set_option linter.unusedSimpArgs false
open Go.RowKit Go.SL Go.Proofs.YtdafdidmbeecfaaGreatDoor Go.Proofs.YtdafdidmbeecfaaGreatDoor.Ba Go.Proofs.YtdafdidmbeecfaaGreatDoor.Fs
def hdI (l : List UInt8) : Int := ((l.getD 0 0).toNat : Int)
def withN (X : List Int) (L : Bl) : Nat → List Int
 | 0 => X
 | k + 1 => (withN X L k).set (L.getD k (0, [])).1.toNat (hdI (L.getD k (0, [])).2)
def withL (X : List Int) (L : Bl) : List Int := withN X L L.length
theorem withN_len (X : List Int) (L : Bl) (k : Nat) : (withN X L k).length = X.length := by
 induction k with
 | zero => rfl
 | succ k ih => rw [withN, List.length_set, ih]
def RdWs (w : World) (v : Value) (L : Wo) : Prop := RdW w v L.wr ∧ ∀ z ∈ L.wr, Rd w z.2.1 z.2.2
def RowQ (X : List Int) (w : World) (e : Ending) (w' : World) : Prop := ∃ v, e = .returned v ∧ Sat w' (sl 3 1 v X.length (SL.i64v X) * whole w) ∧ Side w w'
def WithRel (n cap og : Nat) (X : List Int) (L : Bl) (w : World) (u : Value) (wr : World) : Prop :=
 ∃ (k : Nat) (cur : Array Value), k ≤ L.length ∧ u = .int .i64 (k : Int) ∧ cur.size = cap ∧ cur.toList.take n = SL.i64v (withN X L k) ∧ Sat wr (pt og (.cells cur 3 (0, 0)) * whole w) ∧ Side w wr
theorem take_setI {cur : Array Value} {n i : Nat} {X : List Int} (h : cur.toList.take n = SL.i64v X) (hi : i < n) (v : Int) : (cur.setIfInBounds i (.int .i64 v)).toList.take n = SL.i64v (X.set i v) := by
 rw [Array.toList_setIfInBounds, List.take_set, h]
 simp [SL.i64v, List.map_set]
set_option maxRecDepth 100000 in
set_option maxHeartbeats 4000000 in
theorem with11_any (w : World) (n : Nat) (hn0 : 1 ≤ n) (hn : n ≤ 100) (hv : Value) (X : List Int) (hX : X.length = n) (hr : Rds w 1 hv n (SL.i64v X)) (v : Value) (L : Wo) (hL : WIn11 n v L) (hw : RdWs w v L) :
  Calls Tryz.prog 22 #[hv, v] w (RowQ (withL X L.bl) w) := by
 obtain ⟨i0, hi, hz, hs0, hb0⟩ := info_parts info_int
 have h1 := (Sat.whole w).alloc (.cells #[] 3 (0, 0))
 have hsl := Sat.slOf (n := 0) (cap := 0) (sz := 1) h1 (by omega) (by unfold maxLen; omega) rfl
 obtain ⟨v', w2, hrun, hsat, hside⟩ := Sat.append (P := Tryz.prog) (ty := 45) Tryz.underlying45 hi hz hs0 hb0 rfl hsl (hr.alloc _) (by intro u hu; simp only [SL.i64v, List.mem_map] at hu; obtain ⟨k, _, rfl⟩ := hu; rfl) (by unfold maxLen; omega) (by omega)
 have d1 := ((Side.refl w).alloc (.cells #[] 3 (0, 0))).trans hside
 obtain ⟨ha, hc, rfl⟩ : ∃ a c, hv = .slice a n c := by
  rcases hr.2 with ⟨rfl, h0⟩ | ⟨a, c, rfl, _⟩
  ·exact ⟨none, 0, by rw [h0]⟩
  ·exact ⟨_, _, rfl⟩
 obtain ⟨va, vc, rfl⟩ := hL.sh
 simp only [Nat.zero_add] at hsat
 obtain ⟨og, cap, cur0, rfl, hcap, hcm, hcs, hct, hsat⟩ : ∃ g cap cur, v' = .slice (some ⟨g, 0, none⟩) n cap ∧ n ≤ cap ∧ cap ≤ maxLen ∧ cur.size = cap ∧ cur.toList.take n = SL.i64v X ∧ Sat w2 (pt g (.cells cur 3 (0, 0)) * whole w) := by
  rcases hsat.slCases with ⟨_, h0, _, _⟩ | ⟨g, cap, cur, a, b, c, d, e, f⟩
  ·omega
  ·exact ⟨g, cap, cur, a, b, c, by simpa using d, by simpa using e, f⟩
 obtain ⟨m, hm⟩ : ∃ m, m = L.length := ⟨_, rfl⟩
 have hm24 : m ≤ 24 := by rw [hm]; exact hL.l24
 have hm24' : (m : Int) ≤ 24 := by omega
 have Hm := SL.hid hm
 rw [← hm]
 have Hrun := SL.hid hrun; have H2 := SL.hid hsat; have D1 := SL.hid d1; have HL := SL.hid hL; have HW := SL.hid hw; have HX := SL.hid hX
 have hnn : (n : Int) ≤ 100 := by omega
 clear hrun hsat d1 hL hw hr h1 hsl hside hi hz hs0 hb0 hm hX
 go_enter Tryz.func22, Tryz.ntmps22
 go_wp2_with (at_builtin; refine wpList_append_run Hrun.out _ _ rfl rfl rfl rfl rfl ?_)
 go_loopw [6] (fun u wr => WithRel n cap og X L.bl w u wr) (fun u _ => m - (intOf u).toNat)
 case atStart => exact ⟨0, cur0, Nat.zero_le _, rfl, hcs, hct, H2.out, D1.out⟩
 case round =>
  clear H2 D1 hcs hct
  obtain ⟨k, cur, hk, rfl, hcs, hct, hsat, hside⟩ := hrel
  have hbl : L.bl.length = m := by rw [Hm.out]; simp [Wo.bl]
  rw [hbl] at hk
  by_cases hlt : k < m
  ·have hlt' : (k : Int) < (m : Int) := by omega
   have hkL : k < L.length := by rw [← Hm.out]; exact hlt
   obtain ⟨x, hx⟩ : ∃ x, x = L[k] := ⟨_, rfl⟩
   have hxm : x ∈ L := by rw [hx]; exact List.getElem_mem _
   have hwl : L.wr.length = m := by rw [Hm.out]; simp [Wo.wr]
   have hwr : L.wr.getD k Wr.nil = (x.2.1, .slice (some ⟨x.1, 0, none⟩) 480 480, x.2.2) := by
    rw [List.getD, List.getElem?_eq_getElem (by rw [hwl]; exact hlt), hx]; simp [Wo.wr]
   have hblk : L.bl.getD k (0, []) = (x.2.1, x.2.2) := by
    rw [List.getD, List.getElem?_eq_getElem (by rw [hbl]; exact hlt), hx]; simp [Wo.bl]
   have hids := HL.out.ids x hxm
   have h480 := HL.out.b480 x hxm
   obtain ⟨id, hid⟩ := Int.eq_ofNat_of_zero_le hids.1
   have hidn : id < n := by omega
   have hidn' : (id : Int) < (n : Int) := by omega
   rcases HW.out.1 with ⟨_, h0⟩ | ⟨wg, wo, wc, hv, hlc, hcm2, hcells⟩
   ·have : L.wr.length = 0 := by rw [h0]; rfl
    omega
   ·injection hv with hv1 hv2 hv3
    subst hv1
    obtain ⟨hc0, hc1⟩ := hcells k (by rw [hwl]; exact hlt)
    rw [hwr] at hc0 hc1
    rw [hid] at hc0
    have hrd : Rd w (.slice (some ⟨x.1, 0, none⟩) 480 480) x.2.2 := HW.out.2 (x.2.1, .slice (some ⟨x.1, 0, none⟩) 480 480, x.2.2) (List.mem_map.2 ⟨x, hxm, rfl⟩)
    obtain ⟨bb, hbb⟩ : ∃ bb, bb = hdI x.2.2 := ⟨_, rfl⟩
    have hb0 : 0 ≤ bb ∧ bb < 256 := by rw [hbb]; unfold hdI; have := (x.2.2.getD 0 0).toNat_lt; omega
    have hcb : w.cell? ⟨x.1, 0, none⟩ = some (.int .u8 bb) := by
     rcases hrd.2 with ⟨h, _⟩ | ⟨a, c, h, ha⟩
     ·cases h
     ·injection h with h1 h2 h3
      injection h1 with h1
      subst h1
      have := ha 0 (SL.u8 (x.2.2.getD 0 0)) (by rw [List.getElem?_map, List.getD, List.getElem?_eq_getElem (by omega)]; rfl)
      rw [Addr.add_lit] at this
      rw [hbb]; exact this
    have e0 : wr.cell? ⟨wg, wo + k * 2, none⟩ = some (.int .i64 (id : Int)) := hsat.cellOld hc0
    have e1 : wr.cell? ⟨wg, wo + k * 2 + 1, none⟩ = some (.slice (some ⟨x.1, 0, none⟩) 480 480) := hsat.cellOld hc1
    have e2 : wr.cell? ⟨x.1, 0, none⟩ = some (.int .u8 bb) := hsat.cellOld hcb
    have hwb : IntKind.i64.wrap bb = bb := by rw [IntKind.wrap_i64]; omega
    obtain ⟨uo, huo⟩ : ∃ u, cur[id]? = some u := ⟨_, Array.getElem?_eq_getElem (by omega)⟩
    have e3 : wr.cell? ⟨og, id, none⟩ = some uo := (hsat.cell id).trans huo
    have f3 : wr.frozen? ⟨og, id, none⟩ = false := hsat.frozen id
    have hset := hsat.setCell id (.int .i64 bb)
    have s0 := hset.cellOld hc0
    have s1 := hset.cellOld hc1
    have s2 := hset.cellOld hcb
    have hnext : (cur.setIfInBounds id (.int .i64 bb)).toList.take n = SL.i64v (withN X L.bl (k + 1)) := by
     rw [withN, hblk]
     have hid2 : (x.2.1, x.2.2).1.toNat = id := by show x.2.1.toNat = id; omega
     rw [hid2]
     show _ = SL.i64v ((withN X L.bl k).set id (hdI x.2.2))
     rw [← hbb]
     exact take_setI hct hidn bb
    have Hset := SL.hid hset; have HD := SL.hid (hside.setCell ⟨og, id, none⟩ (.int .i64 bb)); have Hnx := SL.hid hnext; have Hcs := SL.hid hcs; have Hbl := SL.hid hbl
    clear hset hside hnext hcs hct hsat hcells hwl hwr hblk hids h480 hrd hbb hcb huo hbl hx hxm hid hc0 hc1 hkL hlc HW HL hb0
    go_upto_region 5 with (fail)
    go_region_held3 (fun w' => w'.cell? ⟨wg, wo + k * 2, none⟩ = some (.int .i64 (id : Int)) ∧ w'.cell? ⟨wg, wo + k * 2 + 1, none⟩ = some (.slice (some ⟨x.1, 0, none⟩) 480 480) ∧ w'.cell? ⟨x.1, 0, none⟩ = some (.int .u8 bb)) (first | exact ⟨e0, e1, e2⟩ | exact ⟨s0, s1, s2⟩ | go_keep) (fail)
    go_wp2
    go_roundw
    case rel => exact ⟨k + 1, _, by rw [Hbl.out]; omega, by go_num, by rw [Array.size_setIfInBounds]; exact Hcs.out, Hnx.out, Hset.out.drew, HD.out.drew⟩
    case measure => simp [intOf]; omega
  ·obtain rfl : k = m := by omega
   have hsl := hsat.slOf (n := n) (cap := cap) (sz := 1) hcap hcm (by simpa using hcs)
   rw [Nat.mul_one, hct] at hsl
   have hfin : Sat wr (sl 3 1 (.slice (some ⟨og, 0, none⟩) n cap) (withL X L.bl).length (SL.i64v (withL X L.bl)) * whole w) := by
    have e : (withL X L.bl).length = n := by unfold withL; rw [withN_len]; exact HX.out
    rw [e]
    unfold withL
    rw [hbl]; exact hsl
   have Hf := SL.hid hfin; have HD := SL.hid hside
   clear hfin hsl hsat hside hcs hct hbl HX HL HW
   go_wp2_with fail
   go_ret
   exact ⟨_, rfl, Hf.out, HD.out⟩
end Go.Proofs.YtdafdidmbeecfaaGreatDoor.Su
end

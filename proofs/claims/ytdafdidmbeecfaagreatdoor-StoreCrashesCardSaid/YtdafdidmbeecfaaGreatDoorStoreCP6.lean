/- Steps towards the statement StoreC. -/
import Derived.Test.YtdafdidmbeecfaaGreatDoorStoreCP5
import Derived.Lib.IndexLaws
import Derived.Laws.Rows
import Derived.Laws.Tables
section
namespace Go.Proofs.YtdafdidmbeecfaaGreatDoor.Su
set_option linter.unusedVariables false
set_option linter.unusedSimpArgs false
open Go.RowKit Go.SL Go.Proofs.YtdafdidmbeecfaaGreatDoor.Ba Go.Proofs.YtdafdidmbeecfaaGreatDoor.Fs
def superD (l : List UInt8) : Option (Int × Int) :=
 if geoOk (leV (l.drop 8) 4) (leV (l.drop 12) 4) = true ∧ superE (leV (l.drop 8) 4).toNat (leV (l.drop 12) 4).toNat = l then some (leV (l.drop 8) 4, leV (l.drop 12) 4) else none
theorem info_geo (X : Array Value) (hX : X.size = 2) : (Tryz.prog.info? 35).map (·.size) = some X.size := by rw [hX]; kernel_rfl
def erP (c : Int) : List PanicEntry := [{ v := .iface 25 (.int .i64 c), recovered := false }]
theorem smust_yes (w : World) : Calls Tryz.prog 109 #[.bool true] w fun e w' => e = .returned (.tuple #[]) ∧ w = w' := by
 go_enter Tryz.func109, Tryz.ntmps109
 go_wp2
 go_end0
 exact ⟨rfl, rfl⟩
theorem smust_no (w : World) : Calls Tryz.prog 109 #[.bool false] w fun e w' => e = .panicked (erP 4) ∧ w = w' := by
 go_enter Tryz.func109, Tryz.ntmps109
 go_wp2
 exact ⟨rfl, rfl, rfl⟩
theorem run_textU (w : World) (v : Value) (l : List UInt8) (h : Rd w v l) : (convert 22 9 v).run Tryz.prog w = .ok (.string (str l)) w := by
 have hfold : ∀ (l : List UInt8) (s : ByteArray), (l.map fun x => (x.toNat : Int)).foldl (fun r n => r.push (UInt8.ofNat n.toNat)) s = ⟨s.data ++ l.toArray⟩ := by
  intro l
  induction l with
  | nil => intro s; simp
  | cons a l ih => intro s; simp only [List.map_cons, List.foldl_cons, ih]; simp [ByteArray.push]
 obtain ⟨_, hr⟩ := h
 rcases hr with ⟨rfl, h0⟩ | ⟨a, c, rfl, ha⟩
 ·have : l = [] := List.eq_nil_of_length_eq_zero h0
  subst this
  rw [run_convert_bytes_string w _ _ 5 none 0 0 Tryz.underlying22 Tryz.underlying5 Tryz.underlying9]
  rfl
 ·rw [run_convert_bytes_string w _ _ 5 (some a) _ c Tryz.underlying22 Tryz.underlying5 Tryz.underlying9]
  have hl := run_loadCells_list (P := Tryz.prog) (w := w) a (l.map SL.u8) ha
  rw [List.length_map] at hl
  have := run_bytesToString (P := Tryz.prog) w a l.length c (l.map fun x => (x.toNat : Int)) (by
   rw [hl]
   simp [SL.u8, Function.comp_def])
  rw [this, hfold]
  simp [str]
theorem fine_any (w : World) (r g cap : Nat) (cur : Array Value) (L : List UInt8) (o : Nat) (F : Assn) (h : Sat w (readerA r g cap cur L o * F)) :
  Calls Tryz.prog 112 #[ptV r] w (Tells (.bool true) w) := by
 obtain ⟨x, c, _, _, h1⟩ := reader_open h
 have c1 : w.cell? ⟨r, 1, none⟩ = some (.bool false) := h1.cell 1
 have d1 := (Sat.whole w)
 clear h h1
 go_enter Tryz.func112, Tryz.ntmps112
 go_wp2
 go_ret
 exact ⟨rfl, d1, Side.refl _⟩
theorem str_beqU (a b : List UInt8) : ((str a).toList == (str b).toList) = decide (a = b) := by
 rw [Lib.toList_data, Lib.toList_data, Bool.eq_iff_iff, beq_iff_eq, decide_eq_true_iff]
 exact Iff.rfl
def EqBQ (a b : List UInt8) (w : World) (e : Ending) (w' : World) : Prop := e = .returned (.bool (decide (a = b))) ∧ w = w'
theorem equalB_any (w : World) (v u : Value) (a b : List UInt8) (hv : Rd w v a) (hu : Rd w u b) : Calls Tryz.prog 106 #[v, u] w (EqBQ a b w) := by
 have c1 : ∀ w', w' = w → (convert 22 9 v).run Tryz.prog w' = .ok (.string (str a)) w' := fun w' e => by subst e; exact run_textU _ v a hv
 have c2 : ∀ w', w' = w → (convert 22 9 u).run Tryz.prog w' = .ok (.string (str b)) w' := fun w' e => by subst e; exact run_textU _ u b hu
 have k1 := c1 w rfl
 have k2 := c2 w rfl
 clear c1 c2 hv hu
 go_enter Tryz.func106, Tryz.ntmps106
 go_wp2_with fail
 go_ret
 refine ⟨?_, rfl⟩
 show Ending.returned (.bool ((str a).toList == (str b).toList)) = _
 rw [str_beqU]
def BytesRQ (r g cap : Nat) (cur : Array Value) (L : List UInt8) (o n : Nat) (w : World) (F : Assn) (e : Ending) (w' : World) : Prop :=
 ∃ v, e = .returned v ∧ Sat w' (bs 5 v ((L.drop o).take n) * (readerA r g cap cur L (o + n) * F)) ∧ Side w w'
set_option maxRecDepth 100000 in
set_option maxHeartbeats 2000000 in
theorem bytesPU_any (w : World) (r g cap : Nat) (cur : Array Value) (L : List UInt8) (o n : Nat) (F : Assn) (h : Sat w (readerA r g cap cur L o * F)) (ho : o < L.length) (hn : o + n ≤ L.length) (hl : L.length ≤ 1000000) :
  Calls Tryz.prog 110 #[ptV r, .int .i64 (n : Int)] w (BytesRQ r g cap cur L o n w F) := by
 have hnx := next_any w r g cap cur L o n F h ho hn hl
 have hm : (n : Int) ≤ 1000000 := by omega
 clear h
 go_enter Tryz.func110, Tryz.ntmps110
 go_wp2_with fail
 (with_reducible refine hnx.mono ?_)
 rintro e w2 ⟨c, rfl, h2, d2⟩
 have hlen : ((L.drop o).take n).length = n := by rw [List.length_take, List.length_drop]; omega
 have hrd := reader_rd h2 o n c (by omega)
 have hN : Sat w2 (bs 5 (.slice none 0 0) [] * (readerA r g cap cur L (o + n) * F)) := h2.slNil _ _
 obtain ⟨v', w3, hrun, h3, d3, a3, c3, rfl⟩ := append_bytes hN hrd (by simp) (by omega)
 simp only [List.length_nil, Nat.zero_add, hlen] at hrun h3
 have Hrun := SL.hid hrun
 rw [List.nil_append] at h3
 clear hnx hrun h2 hrd hlen hN
 go_wp2_with (at_builtin; refine wpList_append_run Hrun.out _ _ rfl rfl rfl rfl rfl ?_)
 go_ret
 exact ⟨_, rfl, h3, d2.trans d3⟩
def ToldQ (l : List UInt8) (w : World) (e : Ending) (w' : World) : Prop := (∀ n P, superD l = some (n, P) → e = .returned (geV n P)) ∧ (superD l = none → e = .panicked (erP 4)) ∧ Sat w' (whole w) ∧ Side w w'
theorem superD_none {l : List UInt8} (h : superD l = none) {w w' : World} (h1 : Sat w' (whole w)) (h2 : Side w w') : ToldQ l w (.panicked (erP 4)) w' :=
 ⟨fun n P e => (by rw [h] at e; cases e), fun _ => rfl, h1, h2⟩
theorem superD_some {l : List UInt8} {n P : Int} (h : superD l = some (n, P)) {w w' : World} (h1 : Sat w' (whole w)) (h2 : Side w w') : ToldQ l w (.returned (geV n P)) w' :=
 ⟨fun m Q e => (by rw [h] at e; injection e with e; injection e with e1 e2; rw [e1, e2]), fun e => (by rw [h] at e; cases e), h1, h2⟩
theorem leV4_range (l : List UInt8) : 0 ≤ leV l 4 ∧ leV l 4 < 4294967296 := leV_range l 4
theorem superE_eq (n P : Nat) : ∃ R, superE n P = magicL ++ (leN n 4 ++ (leN P 4 ++ R)) := by
 refine ⟨(zs 508).take 492 ++ leN (crcF (superB n P)) 4, ?_⟩
 have e : superB n P = magicL ++ (leN n 4 ++ (leN P 4 ++ (zs 508).take 492)) := by
  unfold superB padTo
  have hl : (magicL ++ leN (n : Int) 4 ++ leN (P : Int) 4).length = 16 := by rw [List.length_append, List.length_append, leN_length, leN_length]; rfl
  rw [List.take_append, hl, List.take_of_length_le (by rw [hl]; decide)]
  simp only [List.append_assoc]
 show superB n P ++ _ = _
 rw [e]
 simp only [List.append_assoc]
theorem superE_magic (n P : Nat) : (superE n P).take 8 = magicL := by
 obtain ⟨R, h⟩ := superE_eq n P
 rw [h]; exact (List.take_left (l₁ := magicL) : List.take magicL.length _ = _)
theorem superE_n {n : Nat} (P : Nat) (hn : n ≤ 3840) : leV ((superE n P).drop 8) 4 = (n : Int) := by
 obtain ⟨R, h⟩ := superE_eq n P
 have e : (superE n P).drop 8 = leN n 4 ++ (leN P 4 ++ R) := by rw [h]; exact (List.drop_left (l₁ := magicL) : List.drop magicL.length _ = _)
 rw [e, leV_leN _ _ _ _ (Nat.le_refl _)]
 omega
theorem superE_P (n : Nat) {P : Nat} (hP : P ≤ 19999) : leV ((superE n P).drop 12) 4 = (P : Int) := by
 obtain ⟨R, h⟩ := superE_eq n P
 have e : (superE n P).drop 12 = leN P 4 ++ R := by
  have e1 : (magicL ++ leN (n : Int) 4).length = 12 := by rw [List.length_append, leN_length]; rfl
  rw [h, ← List.append_assoc, ← e1]; exact List.drop_left
 rw [e, leV_leN _ _ _ _ (Nat.le_refl _)]
 omega
theorem superD_E {n P : Nat} (h : geoOk n P = true) : superD (superE n P) = some ((n : Int), (P : Int)) := by
 have hG := geoOk_iff.1 h
 unfold superD
 rw [superE_n P (by omega), superE_P n (by omega), Int.toNat_natCast, Int.toNat_natCast, if_pos ⟨h, rfl⟩]
theorem superD_inv {l : List UInt8} {n P : Int} (h : superD l = some (n, P)) : geoOk n P = true ∧ l = superE n.toNat P.toNat := by
 unfold superD at h
 split at h
 ·rename_i c
  simp only [Option.some.injEq, Prod.mk.injEq] at h
  obtain ⟨rfl, rfl⟩ := h
  exact ⟨c.1, c.2.symm⟩
 ·cases h
set_option maxRecDepth 100000 in
set_option maxHeartbeats 4000000 in
theorem told_any (w : World) (v : Value) (l : List UInt8) (hr : Rd w v l) (hl : l.length = 512) (hh : Half w) : Calls Tryz.prog 90 #[v] w (ToldQ l w) := by
 obtain ⟨va, vc, rfl⟩ := hr.shape
 rw [hl]
 rw [hl] at hr
 have h1 := (Sat.whole w).alloc (.cells #[.int .i64 0, .int .i64 0] 35 (0, 0))
 have d1 := (Side.refl w).alloc (.cells #[.int .i64 0, .int .i64 0] 35 (0, 0))
 have Hl := SL.hid hl; have Hr := SL.hid hr; have Hh := SL.hid hh
 clear hl hr hh
 go_enter Tryz.func90, Tryz.ntmps90
 go_wp2_with fail
 generalize w.alloc (.cells #[.int .i64 0, .int .i64 0] 35 (0, 0)) = w1 at h1 d1 ⊢
 generalize w.heap.size = gb at h1 ⊢
 have hr1 : Rd w1 (.slice va 512 vc) l := Hr.out.keep h1
 have hrd := read_any w1 _ l hr1 (by rw [Hl.out]; decide) (by rw [Hl.out]; decide)
 (with_reducible refine hrd.mono ?_)
 rintro e w2 ⟨r, g, cap, cur, rfl, h2, d2⟩
 have H2 := h2.under h1
 have D2 := d1.trans d2
 clear hrd hr1 h1 d1 h2 d2
 have hy := smust_yes w2
 go_wp2_with fail
 (with_reducible refine hy.mono ?_)
 rintro e w3 ⟨rfl, rfl⟩
 have hb : Calls Tryz.prog 110 #[ptV r, .int .i64 8] w2 (BytesRQ r g cap cur l 0 8 w2 (pt gb (.cells #[.int .i64 0, .int .i64 0] 35 (0, 0)) * whole w)) := bytesPU_any w2 r g cap cur l 0 8 _ H2 (by rw [Hl.out]; decide) (by rw [Hl.out]; decide) (by rw [Hl.out]; decide)
 clear hy H2
 go_wp2_with fail
 (with_reducible refine hb.mono ?_)
 rintro e w4 ⟨v8, rfl, h4, d4⟩
 have hcv := run_textU w4 v8 _ h4.bsRd
 obtain ⟨l8, hl8⟩ : ∃ x, x = (l.drop 0).take 8 := ⟨_, rfl⟩
 rw [← hl8] at hcv
 have hsb : ((str l8).toList == [72, 65, 82, 82, 79, 87, 32, 49]) = decide (l8 = magicL) := by
  have e1 : (str magicL).toList = [72, 65, 82, 82, 79, 87, 32, 49] := by rw [Lib.toList_data]; rfl
  rw [← e1]; exact str_beqU l8 magicL
 have D4 := D2.trans d4
 have Hl8 := SL.hid hl8
 clear hb hl8 D2 d4
 by_cases hm : l8 = magicL
 ·rw [decide_eq_true hm] at hsb
  have hy4 := smust_yes w4
  have H4 := h4.right
  have HM := SL.hid hm
  clear hm h4
  go_wp2_with fail
  (with_reducible refine hy4.mono ?_)
  rintro e w5 ⟨rfl, rfl⟩
  have hn1 : Calls Tryz.prog 111 #[ptV r, .int .i64 4] w4 (NumQ r g cap cur l 8 4 w4 (pt gb (.cells #[.int .i64 0, .int .i64 0] 35 (0, 0)) * whole w)) := number_any w4 r g cap cur l 8 4 _ H4 (by rw [Hl.out]; decide) (by rw [Hl.out]; decide) (by decide) (by rw [Hl.out]; decide)
  clear hy4 hcv hsb H4
  go_wp2_with fail
  (with_reducible refine hn1.mono ?_)
  rintro e w6 ⟨rfl, h6, d6⟩
  obtain ⟨n, hn⟩ : ∃ n, n = leV (l.drop 8) 4 := ⟨_, rfl⟩
  have hn0 : 0 ≤ n ∧ n < 4294967296 := by rw [hn]; exact leV4_range _
  rw [← hn]
  have hw1 : IntKind.i64.wrap n = n := by rw [IntKind.wrap_i64]; omega
  have hn2 : Calls Tryz.prog 111 #[ptV r, .int .i64 4] w6 (NumQ r g cap cur l 12 4 w6 (pt gb (.cells #[.int .i64 0, .int .i64 0] 35 (0, 0)) * whole w)) := number_any w6 r g cap cur l 12 4 _ h6 (by rw [Hl.out]; decide) (by rw [Hl.out]; decide) (by decide) (by rw [Hl.out]; decide)
  have D6 := D4.trans d6
  have Hn := SL.hid hn
  clear hn1 h6 d6 D4 hn
  go_wp2_with fail
  (with_reducible refine hn2.mono ?_)
  rintro e w7 ⟨rfl, h7, d7⟩
  obtain ⟨P, hP⟩ : ∃ P, P = leV (l.drop 12) 4 := ⟨_, rfl⟩
  have hP0 : 0 ≤ P ∧ P < 4294967296 := by rw [hP]; exact leV4_range _
  rw [← hP]
  have hw2 : IntKind.i64.wrap P = P := by rw [IntKind.wrap_i64]; omega
  have H8 := h7.alloc (.cells #[.int .i64 n, .int .i64 P] 35 (0, 0))
  have D8 := (D6.trans d7).alloc (.cells #[.int .i64 n, .int .i64 P] 35 (0, 0))
  have HP := SL.hid hP
  clear hn2 h7 d7 D6 hP
  go_wp2_with fail
  generalize w7.alloc (.cells #[.int .i64 n, .int .i64 P] 35 (0, 0)) = w8 at H8 D8 ⊢
  generalize w7.heap.size = qb at H8 ⊢
  have hf := fine_any w8 r g cap cur l 16 _ H8.front2
  (with_reducible refine hf.mono ?_)
  rintro e w9 ⟨rfl, h9, d9⟩
  have H9 := h9.keepW H8
  have D9 := D8.trans d9
  have hG := gright_any w9 n P
  unfold geV at hG
  have q0 : w9.cell? ⟨qb, 0, none⟩ = some (.int .i64 n) := H9.cell 0
  have q1 : w9.cell? ⟨qb, 1, none⟩ = some (.int .i64 P) := H9.cell 1
  clear hf h9 d9 H8 D8 hw1 hw2
  go_wp2_with fail
  (with_reducible refine hG.mono ?_)
  rintro e w10 ⟨rfl, h10, d10⟩
  have H10 := h10.keepW H9
  have D10 := D9.trans d10
  have hfinal : Sat w10 (whole w) := H10.right.right.right
  by_cases hg : geoOk n P = true
  ·rw [if_pos hg]
   have hy10 := smust_yes w10
   obtain ⟨N, rfl⟩ := Int.eq_ofNat_of_zero_le hn0.1
   obtain ⟨M, rfl⟩ := Int.eq_ofNat_of_zero_le hP0.1
   have hh10 : Half w10 := Hh.out.old1 hfinal
   have he := encodeG_any w10 N M hg hh10
   unfold geV at he
   have q0' : w10.cell? ⟨qb, 0, none⟩ = some (.int .i64 (N : Int)) := H10.cell 0
   have q1' : w10.cell? ⟨qb, 1, none⟩ = some (.int .i64 (M : Int)) := H10.cell 1
   have Hg := SL.hid hg; have HF10 := SL.hid hfinal
   clear hG h10 d10 q0 q1 H9 D9 hg hfinal hh10
   go_wp2_with fail
   (with_reducible refine hy10.mono ?_)
   rintro e w11 ⟨rfl, rfl⟩
   clear hy10
   go_wp2_with fail
   (with_reducible refine he.mono ?_)
   rintro e w12 ⟨ev, rfl, h12, d12⟩
   have H12 := h12.under H10
   have D12 := D10.trans d12
   have hF12 : Sat w12 (whole w) := H12.right.right.right.right
   have hr12 : Rd w12 (.slice va 512 vc) l := Hr.out.keep (P := emp) (hF12.to (emp_star _).symm)
   have heq := equalB_any w12 ev (.slice va 512 vc) (superE N M) l H12.bsRd hr12
   obtain ⟨eb, heb⟩ : ∃ b, b = decide (superE N M = l) := ⟨_, rfl⟩
   unfold EqBQ at heq
   rw [← heb] at heq
   have HE := SL.hid heb; have H12' := SL.hid H12; have HF12 := SL.hid hF12; have HD12 := SL.hid D12
   have hy12 := smust_yes w12
   have hn12 := smust_no w12
   clear he h12 d12 H12 hr12 q0' q1' H10 D10 hF12 D12 heb
   go_wp2_with fail
   (with_reducible refine heq.mono ?_)
   rintro e w13 ⟨rfl, rfl⟩
   clear heq
   cases eb with
   | true =>
    have hsome : superD l = some ((N : Int), (M : Int)) := by
     unfold superD
     rw [← Hn.out, ← HP.out, Int.toNat_natCast, Int.toNat_natCast, if_pos ⟨Hg.out, of_decide_eq_true HE.out.symm⟩]
    have p0 : w12.cell? ⟨qb, 0, none⟩ = some (.int .i64 (N : Int)) := H12'.out.front2.cell 0
    have p1 : w12.cell? ⟨qb, 1, none⟩ = some (.int .i64 (M : Int)) := H12'.out.front2.cell 1
    have g0 : w12.cell? ⟨gb, 0, none⟩ = some (.int .i64 0) := H12'.out.front4.cell 0
    have g1 : w12.cell? ⟨gb, 1, none⟩ = some (.int .i64 0) := H12'.out.front4.cell 1
    have f0 : w12.frozen? ⟨gb, 0, none⟩ = false := H12'.out.front4.frozen 0
    have f1 : w12.frozen? ⟨gb, 1, none⟩ = false := H12'.out.front4.frozen 1
    have K1 := H12'.out.front4.setCell 0 (.int .i64 (N : Int))
    have K2 := K1.setCell 1 (.int .i64 (M : Int))
    have D2 := (HD12.out.setCell ⟨gb, 0, none⟩ (.int .i64 (N : Int))).setCell ⟨gb, 1, none⟩ (.int .i64 (M : Int))
    have HT := SL.hid (superD_some hsome (K2.right.right.right.right) D2)
    have HK2 := SL.hid K2
    clear hn12 hsome K1 K2 D2
    go_wp2_with fail
    (with_reducible refine hy12.mono ?_)
    rintro e w14 ⟨rfl, rfl⟩
    clear hy12
    go_wp2_with fail
    have K3 := HK2.out
    exact bodyPost_ret (results_cell_row rfl _ _ gb 35 _ (0, 0) _ rfl K3.heap Tryz.underlying35 rfl (info_geo _ rfl)) rfl HT.out
   | false =>
    have hnone : superD l = none := by
     unfold superD
     rw [← Hn.out, ← HP.out, Int.toNat_natCast, Int.toNat_natCast, if_neg (fun c => of_decide_eq_false HE.out.symm c.2)]
    have HF := SL.hid (superD_none hnone HF12.out HD12.out)
    clear hy12 hnone
    go_wp2_with fail
    (with_reducible refine hn12.mono ?_)
    rintro e w14 ⟨rfl, rfl⟩
    exact ⟨rfl, HF.out⟩
  ·rw [if_neg hg]
   have hnone : superD l = none := by
    unfold superD
    rw [← Hn.out, ← HP.out, if_neg (fun c => hg c.1)]
   have hy10 := smust_no w10
   have HF := SL.hid (superD_none hnone hfinal D10)
   clear hG h10 d10 q0 q1 H9 D9 hg hfinal hnone H10 D10
   go_wp2_with fail
   (with_reducible refine hy10.mono ?_)
   rintro e w11 ⟨rfl, rfl⟩
   exact ⟨rfl, HF.out⟩
 ·rw [decide_eq_false hm] at hsb
  have hnone : superD l = none := by
   cases hd : superD l with
   | none => rfl
   | some p =>
    obtain ⟨n, P⟩ := p
    have := (superD_inv hd).2
    refine absurd ?_ hm
    rw [Hl8.out, List.drop_zero, this]
    exact superE_magic _ _
  have hy4 := smust_no w4
  have hfin : Sat w4 (whole w) := h4.right.right.right
  have HF := SL.hid (superD_none hnone hfin D4)
  clear hm h4 hnone hfin D4
  go_wp2_with fail
  (with_reducible refine hy4.mono ?_)
  rintro e w5 ⟨rfl, rfl⟩
  exact ⟨rfl, HF.out⟩
def DecGQ (n P c : Int) (w : World) (e : Ending) (w' : World) : Prop := e = .returned (.tuple #[geV n P, .int .i64 c]) ∧ Sat w' (whole w) ∧ Side w w'
set_option maxRecDepth 100000 in
set_option maxHeartbeats 1000000 in
theorem decD_ret (w : World) (pa pe : Addr) :
    CallsD Tryz.prog 89 #[.pointer (some pa), .pointer (some pe)] .returning w fun e u w' => e = .returned (.tuple #[]) ∧ u = .returning ∧ w = w' := by
  refine callsD_of_wpS Tryz.func89 rfl fun c₀ cs hu => ?_
  apply wpS_seq
  apply wpS_region
  simp only [Tryz.ntmps89, List.size_toArray, List.length_cons, List.length_nil, Nat.reduceAdd, Nat.reduceSub, Array.replicate_succ,
     Array.replicate_zero, List.push_toArray, List.append_toArray, List.nil_append, List.cons_append]
  simp [wpOpsS, go_sem, recoverD, hu, Exit.thenS]
  refine wpS_of_wp ?_
  go_wp2
  cases c₀
  simp_all [bodyPostS, results, Tryz.results89]
set_option maxRecDepth 100000 in
set_option maxHeartbeats 1000000 in
theorem decD_pan (w : World) (ga eb : Nat) (c x0 x1 y : Int) (older : List PanicEntry) (h0 : w.cell? ⟨ga, 0, none⟩ = some (.int .i64 x0)) (h1 : w.cell? ⟨ga, 1, none⟩ = some (.int .i64 x1)) (he : w.cell? ⟨eb, 0, none⟩ = some (.int .i64 y))
    (f0 : w.frozen? ⟨ga, 0, none⟩ = false) (f1 : w.frozen? ⟨ga, 1, none⟩ = false) (fe : w.frozen? ⟨eb, 0, none⟩ = false) (hne : ga ≠ eb) :
    CallsD Tryz.prog 89 #[.pointer (some ⟨ga, 0, none⟩), .pointer (some ⟨eb, 0, none⟩)] (.panicking ({ v := .iface 25 (.int .i64 c), recovered := false } :: older)) w fun e u w' =>
      e = .returned (.tuple #[]) ∧ u = .panicking ({ v := .iface 25 (.int .i64 c), recovered := true } :: older) ∧ w' = ((w.setCell ⟨ga, 0, none⟩ (.int .i64 0)).setCell ⟨ga, 1, none⟩ (.int .i64 0)).setCell ⟨eb, 0, none⟩ (.int .i64 4) := by
  refine callsD_of_wpS Tryz.func89 rfl fun c₀ cs hu => ?_
  apply wpS_seq
  apply wpS_region
  simp only [Tryz.ntmps89, List.size_toArray, List.length_cons, List.length_nil, Nat.reduceAdd, Nat.reduceSub, Array.replicate_succ,
     Array.replicate_zero, List.push_toArray, List.append_toArray, List.nil_append, List.cons_append]
  simp [wpOpsS, go_sem, recoverD, hu, Exit.thenS]
  refine wpS_of_wp ?_
  go_wp2
  exact ⟨rfl, _, rfl, _, results_none rfl _ _ _, rfl, rfl, rfl⟩
theorem decG_results {w : World} {tmps : Array Value} {a b : Nat} {e : Value} {X : Array Value} {F : Assn} (h2 : tmps[2]? = some (ptV a)) (h3 : tmps[3]? = some (ptV b)) (ha : Sat w (pt a (.cells X 35 (0, 0)) * F)) (hX : X.size = 2) (hb : w.cell? ⟨b, 0, none⟩ = some e) :
  (results Tryz.f64 tmps).run Tryz.prog w = .ok (.tuple #[.agg X, e]) w := by
 have hl := run_loadVar_row (P := Tryz.prog) w a 35 35 X (0, 0) _ ha.heap Tryz.underlying35 rfl (info_geo X hX)
 have hp : tmps.getD 2 undef = .pointer (some ⟨a, 0, none⟩) := by simp [h2]
 have hp5 : tmps.getD 3 undef = .pointer (some ⟨b, 0, none⟩) := by simp [h3]
 have hl5 : (loadVar 25 ⟨b, 0, none⟩).run Tryz.prog w = .ok e w := by simp [go_sem, hb]
 simp [results, Tryz.results64, h2, h3, asAddr, hl, hl5]
theorem doorG_pan {w : World} {tmps : Array Value} {ab eb : Nat} {x0 x1 z c : Int} {P : Assn} {R : Ending → World → Prop} (h2 : tmps[2]? = some (ptV ab)) (h3 : tmps[3]? = some (ptV eb))
  (h : Sat w (pt ab (.cells #[.int .i64 x0, .int .i64 x1] 35 (0, 0)) * (pt eb (.cells #[.int .i64 z] 25 (0, 0)) * P))) (hR : ∀ w', Sat w' P → Side w w' → R (.returned (.tuple #[.agg #[.int .i64 0, .int .i64 0], .int .i64 4])) w') :
  bodyPostD Tryz.prog Tryz.f64 R (Exit.panic (erP c)) { tmps := tmps, defers := [{ target := .fn (.func 89) #[.pointer (some ⟨ab, 0, none⟩), .pointer (some ⟨eb, 0, none⟩)], args := #[] }] } w := by
 have hne : ab ≠ eb := Sat.ne h
 refine leaves_cons (f := 89) (args := #[.pointer (some ⟨ab, 0, none⟩), .pointer (some ⟨eb, 0, none⟩)]) (by simp) (by simp [go_sem]) ?_
 refine (decD_pan w ab eb c x0 x1 z [] (h.cell 0) (h.cell 1) (h.front2.cell 0) (h.frozen 0) (h.frozen 1) (h.front2.frozen 0) hne).mono ?_
 rintro e u w7 ⟨rfl, rfl, rfl⟩
 have h11 := (((h.setCell 0 (.int .i64 0)).setCell 1 (.int .i64 0)).front2.setCell 0 (.int .i64 4))
 exact ⟨_, decG_results h2 h3 h11.front2 rfl (h11.cell 0), hR _ h11.right.right ((((Side.refl w).setCell _ _).setCell _ _).setCell _ _)⟩
theorem doorG_ret {w : World} {tmps : Array Value} {ab eb : Nat} {X : Array Value} {z : Value} {P : Assn} {R : Ending → World → Prop} (h2 : tmps[2]? = some (ptV ab)) (h3 : tmps[3]? = some (ptV eb))
  (ha : Sat w (pt ab (.cells X 35 (0, 0)) * P)) (hX : X.size = 2) (hb : w.cell? ⟨eb, 0, none⟩ = some z) (hR : R (.returned (.tuple #[.agg X, z])) w) :
  bodyPostD Tryz.prog Tryz.f64 R Exit.ret { tmps := tmps, defers := [{ target := .fn (.func 89) #[.pointer (some ⟨ab, 0, none⟩), .pointer (some ⟨eb, 0, none⟩)], args := #[] }] } w := by
 refine leaves_cons (f := 89) (args := #[.pointer (some ⟨ab, 0, none⟩), .pointer (some ⟨eb, 0, none⟩)]) (by simp) (by simp [go_sem]) ?_
 refine (decD_ret w ⟨ab, 0, none⟩ ⟨eb, 0, none⟩).mono ?_
 rintro e u w7 ⟨rfl, rfl, rfl⟩
 exact ⟨_, decG_results h2 h3 ha hX hb, hR⟩
set_option maxRecDepth 100000 in
set_option maxHeartbeats 4000000 in
theorem decodeG_any (w : World) (v : Value) (l : List UInt8) (hr : Rd w v l) (hl : l.length = 512) (hh : Half w) (gn gP gc : Int) (hg1 : superD l = none → gn = 0 ∧ gP = 0 ∧ gc = 4) (hg2 : ∀ n P, superD l = some (n, P) → gn = n ∧ gP = P ∧ gc = 0) : Calls Tryz.prog 64 #[v] w (DecGQ gn gP gc w) := by
 have hmf : ∀ (fn : Fn) (first cap : Array Value) (w : World), (Instr.makeFunc fn first cap).run Tryz.prog w = .ok (.func fn first cap) w := fun _ _ _ _ => rfl
 obtain ⟨va, vc, rfl⟩ := hr.shape
 rw [hl]
 rw [hl] at hr
 have h1 := ((Sat.whole w).alloc (.cells #[.int .i64 0, .int .i64 0] 35 (0, 0))).alloc (.cells #[.int .i64 0] 25 (0, 0))
 have d1 := ((Side.refl w).alloc (.cells #[.int .i64 0, .int .i64 0] 35 (0, 0))).alloc (.cells #[.int .i64 0] 25 (0, 0))
 rw [World.size_alloc] at h1
 go_enter_defers Tryz.func64, Tryz.ntmps64
 go_wp2_with fail
 generalize (w.alloc (.cells #[.int .i64 0, .int .i64 0] 35 (0, 0))).alloc (.cells #[.int .i64 0] 25 (0, 0)) = w1 at h1 d1 ⊢
 generalize w.heap.size + 1 = eb at h1 ⊢
 generalize w.heap.size = ab at h1 ⊢
 have h1' : Sat w1 ((pt eb (.cells #[.int .i64 0] 25 (0, 0)) * pt ab (.cells #[.int .i64 0, .int .i64 0] 35 (0, 0))) * whole w) := h1.to (by ac_rfl)
 have ht := told_any w1 (.slice va 512 vc) l (hr.keep h1') hl (hh.old h1')
 clear hr hh h1'
 cases hd : superD l with
 | none =>
  obtain ⟨rfl, rfl, rfl⟩ := hg1 hd
  clear hg1 hg2
  (with_reducible refine ht.mono ?_)
  rintro e w2 ⟨_, hA, h2, d2⟩
  obtain rfl := hA hd
  have H2 := h2.keepW h1
  exact doorG_pan rfl rfl (H2.to (by ac_rfl)) fun w' h3 d3 => ⟨rfl, h3, (d1.trans d2).trans d3⟩
 | some p =>
  obtain ⟨n, P⟩ := p
  obtain ⟨e1, e2, rfl⟩ := hg2 n P hd
  rw [← e1, ← e2] at hd
  clear e1 e2
  clear hg1 hg2
  (with_reducible refine ht.mono ?_)
  rintro e w2 ⟨hA, _, h2, d2⟩
  obtain rfl := hA _ _ hd
  have H2 : Sat w2 (pt ab (.cells #[.int .i64 0, .int .i64 0] 35 (0, 0)) * (pt eb (.cells #[.int .i64 0] 25 (0, 0)) * whole w)) := (h2.keepW h1).to (by ac_rfl)
  have D2 := d1.trans d2
  have g0 : w2.cell? ⟨ab, 0, none⟩ = some (.int .i64 0) := H2.cell 0
  have g1 : w2.cell? ⟨ab, 1, none⟩ = some (.int .i64 0) := H2.cell 1
  have e0 : w2.cell? ⟨eb, 0, none⟩ = some (.int .i64 0) := H2.front2.cell 0
  have f0 := H2.frozen 0; have f1 := H2.frozen 1; have fe := H2.front2.frozen 0
  have hne : ab ≠ eb := Sat.ne H2
  have K := (((H2.setCell 0 (.int .i64 gn)).setCell 1 (.int .i64 gP)).front2.setCell 0 (.int .i64 0))
  have DK := ((D2.setCell ⟨ab, 0, none⟩ (.int .i64 gn)).setCell ⟨ab, 1, none⟩ (.int .i64 gP)).setCell ⟨eb, 0, none⟩ (.int .i64 0)
  have HK := SL.hid K; have HDK := SL.hid DK
  unfold geV
  clear ht h1 h2 d1 d2 hd K DK H2 D2
  go_wp2_with fail
  exact doorG_ret rfl rfl HK.out.front2 rfl (HK.out.cell 0) ⟨rfl, HK.out.right.right, HDK.out⟩
end Go.Proofs.YtdafdidmbeecfaaGreatDoor.Su
end
section
namespace Go.Proofs.YtdafdidmbeecfaaGreatDoor.Su
set_option linter.unusedVariables false
set_option linter.unusedSimpArgs false
open Go.RowKit Go.SL Go.Proofs.YtdafdidmbeecfaaGreatDoor.Ba Go.Proofs.YtdafdidmbeecfaaGreatDoor.Fs
theorem must_yes (w : World) : Calls Tryz.prog 44 #[.int .i64 0] w fun e w' => e = .returned (.tuple #[]) ∧ w = w' := by
 go_enter Tryz.func44, Tryz.ntmps44
 go_wp2
 go_end0
 exact ⟨rfl, rfl⟩
theorem must_no (w : World) (c : Int) (hc : c ≠ 0) : Calls Tryz.prog 44 #[.int .i64 c] w fun e w' => e = .panicked (erP c) ∧ w = w' := by
 have h1 : (c != 0) = true := by simpa using hc
 go_enter Tryz.func44, Tryz.ntmps44
 go_wp2
 exact ⟨rfl, rfl, rfl⟩
def StepOk (f : FuncId) (first caps : Array Value) (A B C : World → Prop) : Prop :=
 (∀ (args : Array Value) (w : World), (callFunc f args).run Tryz.prog w = .ok (.enter f args) w) ∧
 ∀ w, A w → Calls Tryz.prog f (first ++ caps) w fun e w' => ∃ rc : Int, e = .returned (.int .i64 rc) ∧ ((rc = 0 ∧ B w') ∨ (rc ≠ 0 ∧ C w'))
def RunQ (B C : World → Prop) (e : Ending) (w' : World) : Prop := (e = .returned (.tuple #[]) ∧ B w') ∨ (e = .panicked (erP 2) ∧ C w')
def RunRel (m : Nat) (I : Nat → World → Prop) (u : Value) (wr : World) : Prop := ∃ k : Nat, k ≤ m ∧ u = .int .i64 (k : Int) ∧ I k wr
set_option maxRecDepth 100000 in
set_option maxHeartbeats 2000000 in
theorem run_any (m : Nat) (fs : Nat → FuncId × Array Value × Array Value) (I : Nat → World → Prop) (C : World → Prop) (g : Nat) (hm : m ≤ 10)
  (hc : ∀ i k w, i ≤ m → I i w → k < m → w.cell? ⟨g, k, none⟩ = some (.func (.func (fs k).1) (fs k).2.1 (fs k).2.2)) (hs : ∀ k, k < m → StepOk (fs k).1 (fs k).2.1 (fs k).2.2 (I k) (I (k + 1)) C)
  (w : World) (h0 : I 0 w) : Calls Tryz.prog 40 #[.slice (some ⟨g, 0, none⟩) m m] w (RunQ (I m) C) := by
 have hm' : (m : Int) ≤ 10 := by omega
 have Hc := SL.hid hc; have Hs := SL.hid hs; have H0 := SL.hid h0
 clear hc hs h0
 go_enter Tryz.func40, Tryz.ntmps40
 go_wp2_with fail
 go_loopw [6] (fun u wr => RunRel m I u wr) (fun u _ => m - (intOf u).toNat)
 case atStart => exact ⟨0, Nat.zero_le _, rfl, H0.out⟩
 case round =>
  clear H0
  obtain ⟨k, hk, rfl, hI⟩ := hrel
  by_cases hlt : k < m
  ·have hlt' : (k : Int) < (m : Int) := by omega
   have hck := Hc.out k k wr hk hI hlt
   obtain ⟨hf, hst⟩ := Hs.out k hlt
   have hst1 := hst wr hI
   generalize fs k = q at hck hf hst1
   obtain ⟨f, first, caps⟩ := q
   dsimp only at hck hf hst1
   have Hst1 := SL.hid hst1
   clear hst hst1 hI
   go_wp2_with fail
   (with_reducible refine Hst1.out.mono ?_)
   rintro e w2 ⟨rc, rfl, hrc⟩
   have Hrc := SL.hid hrc
   clear hck hf hrc Hst1
   by_cases h0 : rc = 0
   ·subst h0
    have hI2 : I (k + 1) w2 := by
     rcases Hrc.out with ⟨_, h⟩ | ⟨h, _⟩
     ·exact h
     ·exact absurd rfl h
    have HI2 := SL.hid hI2
    clear hI2
    go_wp2_with fail
    go_roundw
    case rel => exact ⟨k + 1, by omega, by go_num, HI2.out⟩
    case measure => simp [intOf]; omega
   ·have hC : C w2 := by
     rcases Hrc.out with ⟨h, _⟩ | ⟨_, h⟩
     ·exact absurd h h0
     ·exact h
    have HC := SL.hid hC
    have h1 : (rc != 0) = true := by simpa using h0
    clear hC
    go_wp2_with fail
    exact ⟨rfl, .inr ⟨rfl, HC.out⟩⟩
  ·obtain rfl : k = m := by omega
   have HI := SL.hid hI
   clear hI
   go_wp2_with fail
   go_end0
   exact .inl ⟨rfl, HI.out⟩
def WrFnQ (d : Nat) (a : Int) (v : Value) (w : World) (e : Ending) (w' : World) : Prop :=
 e = .returned (.func (.func 73) #[] #[.pointer (some ⟨w.heap.size, 0, none⟩), .pointer (some ⟨w.heap.size + 1, 0, none⟩), .pointer (some ⟨w.heap.size + 1 + 1, 0, none⟩)]) ∧
 w' = ((w.alloc (.cells #[ptV d] 24 (0, 0))).alloc (.cells #[.int .i64 a] 3 (0, 0))).alloc (.cells #[v] 22 (0, 0))
theorem write_fn (w : World) (d : Nat) (a : Int) (va : Option Addr) (n c : Nat) : Calls Tryz.prog 49 #[ptV d, .int .i64 a, .slice va n c] w (WrFnQ d a (.slice va n c) w) := by
 have hmf : ∀ (fn : Fn) (first cap : Array Value) (w : World), (Instr.makeFunc fn first cap).run Tryz.prog w = .ok (.func fn first cap) w := fun _ _ _ _ => rfl
 go_enter Tryz.func49, Tryz.ntmps49
 go_wp2
 go_ret
 exact ⟨rfl, rfl⟩
end Go.Proofs.YtdafdidmbeecfaaGreatDoor.Su
end

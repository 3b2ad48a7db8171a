/- Steps towards the statement StoreC. -/
import Derived.Test.YtdafdidmbeecfaaGreatDoorStoreCP36
import Derived.Test.YtdafdidmbeecfaaGreatDoorStoreCP7
section
namespace Go.Proofs.YtdafdidmbeecfaaGreatDoor.Su
set_option linter.unusedVariables false
set_option linter.unusedSimpArgs false
open Go.RowKit Go.SL Go.Proofs.YtdafdidmbeecfaaGreatDoor Go.Proofs.YtdafdidmbeecfaaGreatDoor.Ba Go.Proofs.YtdafdidmbeecfaaGreatDoor.Fs
def wFn (cd ca cb : Nat) : Value := .func (.func 73) #[] #[ptV cd, ptV ca, ptV cb]
def fFn (d : Nat) : Value := .func (.func 41) #[ptV d] #[]
def rowA (rb : Nat) (fs : Array Value) : Assn := pt rb (.cells fs 65 (0, 0))
section
variable (w : World) (S : Hp) (d : Nat) (D : Dev) (cd ca cb rb : Nat) (bv : Value) (R : Assn)
theorem runA_any (h : Sat w (devA S d D * (pool S * (clA cd ca cb d 0 bv * (rowA rb #[wFn cd ca cb, fFn d] * R))))) (hr : ∀ w' X, Sat w' (X * R) → Rd w' bv (zs 512)) (hok : ∀ k, k < 2 → (opsN opsA D k).1 = 0 → (opsN opsA D k).2.Ok) :
  Calls Tryz.prog 40 #[.slice (some ⟨rb, 0, none⟩) 2 2] w (RunLQ S d (opsN opsA D 2) (clA cd ca cb d 0 bv * (rowA rb #[wFn cd ca cb, fFn d] * R)) w) := by
 refine runL_any 2 (fun k => if k = 0 then (73, #[], #[ptV cd, ptV ca, ptV cb]) else (41, #[ptV d], #[])) opsA S d rb D _ (by decide) ?_ ?_ ?_ hok w h
 ·intro w' X k hx hk
  have hx' := (hx.to (by ac_rfl : _ = rowA rb #[wFn cd ca cb, fFn d] * (X * (clA cd ca cb d 0 bv * R))))
  match k, hk with
  | 0, _ => exact hx'.cell 0
  | 1, _ => exact hx'.cell 1
 ·intro k hk args w
  match k, hk with
  | 0, _ => simp [go_sem]
  | 1, _ => simp [go_sem]
 ·intro k hk w' S' D' hE hD' h'
  match k, hk with
  | 0, _ => exact wr1_any w' S' d D' cd ca cb 0 bv (zs 512) _ h' hD' (fun w2 D2 h2 => hr w2 _ (h2.to (by ac_rfl : _ = (devA S' d D2 * (pool S' * (clA cd ca cb d 0 bv * rowA rb #[wFn cd ca cb, fFn d]))) * R))) (zs_len 512)
  | 1, _ => exact (flush_any w' S' d D' _ h' hD').mono fun e w2 h2 => WriteQ.of h2
theorem runB_any (a : Int) (h : Sat w (devA S d D * (pool S * (clA cd ca cb d a bv * (rowA rb #[wFn cd ca cb] * R))))) (hr : ∀ w' X, Sat w' (X * R) → Rd w' bv (zs 512)) (hok : D.Ok) :
  Calls Tryz.prog 40 #[.slice (some ⟨rb, 0, none⟩) 1 1] w (RunLQ S d (opsN (opsB a) D 1) (clA cd ca cb d a bv * (rowA rb #[wFn cd ca cb] * R)) w) := by
 refine runL_any 1 (fun k => (73, #[], #[ptV cd, ptV ca, ptV cb])) (opsB a) S d rb D _ (by decide) ?_ ?_ ?_ ?_ w h
 ·intro w' X k hx hk
  have hx' := (hx.to (by ac_rfl : _ = rowA rb #[wFn cd ca cb] * (X * (clA cd ca cb d a bv * R))))
  match k, hk with
  | 0, _ => exact hx'.cell 0
 ·intro k hk args w
  simp [go_sem]
 ·intro k hk w' S' D' hE hD' h'
  exact wr1_any w' S' d D' cd ca cb a bv (zs 512) _ h' hD' (fun w2 D2 h2 => hr w2 _ (h2.to (by ac_rfl : _ = (devA S' d D2 * (pool S' * (clA cd ca cb d a bv * rowA rb #[wFn cd ca cb]))) * R))) (zs_len 512)
 ·intro k hk _
  obtain rfl : k = 0 := by omega
  exact hok
theorem runC_any (n P : Nat) (h : Sat w (devA S d D * (pool S * (clA cd ca cb d 0 bv * (rowA rb #[fFn d, wFn cd ca cb, fFn d] * R))))) (hr : ∀ w' X, Sat w' (X * R) → Rd w' bv (superE n P)) (hok : ∀ k, k < 3 → (opsN (opsC n P) D k).1 = 0 → (opsN (opsC n P) D k).2.Ok) :
  Calls Tryz.prog 40 #[.slice (some ⟨rb, 0, none⟩) 3 3] w (RunLQ S d (opsN (opsC n P) D 3) (clA cd ca cb d 0 bv * (rowA rb #[fFn d, wFn cd ca cb, fFn d] * R)) w) := by
 refine runL_any 3 (fun k => if k = 1 then (73, #[], #[ptV cd, ptV ca, ptV cb]) else (41, #[ptV d], #[])) (opsC n P) S d rb D _ (by decide) ?_ ?_ ?_ hok w h
 ·intro w' X k hx hk
  have hx' := (hx.to (by ac_rfl : _ = rowA rb #[fFn d, wFn cd ca cb, fFn d] * (X * (clA cd ca cb d 0 bv * R))))
  match k, hk with
  | 0, _ => exact hx'.cell 0
  | 1, _ => exact hx'.cell 1
  | 2, _ => exact hx'.cell 2
 ·intro k hk args w
  match k, hk with
  | 0, _ => simp [go_sem]
  | 1, _ => simp [go_sem]
  | 2, _ => simp [go_sem]
 ·intro k hk w' S' D' hE hD' h'
  match k, hk with
  | 0, _ => exact (flush_any w' S' d D' _ h' hD').mono fun e w2 h2 => WriteQ.of h2
  | 1, _ => exact wr1_any w' S' d D' cd ca cb 0 bv (superE n P) _ h' hD' (fun w2 D2 h2 => hr w2 _ (h2.to (by ac_rfl : _ = (devA S' d D2 * (pool S' * (clA cd ca cb d 0 bv * rowA rb #[fFn d, wFn cd ca cb, fFn d]))) * R))) (superE_length n P)
  | 2, _ => exact (flush_any w' S' d D' _ h' hD').mono fun e w2 h2 => WriteQ.of h2
end
theorem FS_done {n P : Nat} {D : Dev} (hok : D.Ok) (hc : D.Calm) (hw : D.wait = []) (hs : D.sec.length = P + 1) (hz : Zero P D) (hg : geoOk n P = true) :
  Sj n P 1 (superE n P) (J0 P n) (FS n P D).flushed noH ∧ (FS n P D).flushed.sec.length = P + 1 ∧ (FS n P D).flushed.cr = D.cr ∧ (FS n P D).flushed.cw = i64w (D.cw + 1) ∧ (FS n P D).flushed.cf = i64w (D.cf + 1) := by
 have hw' : ∀ x ∈ (FS n P D).wait, (FS n P D).has x.1 := by
  intro x hx
  obtain rfl : x = ((0 : Int), superE n P) := by simpa [FS] using hx
  exact ⟨Int.le_refl _, by show (0 : Int) < (D.sec.length : Int); omega⟩
 have hFok : (FS n P D).Ok := ⟨hok.n, hw', by show [((0 : Int), superE n P)].length ≤ _; simp, hok.keep⟩
 have hFc : (FS n P D).Calm := ⟨hc.down, hc.armed⟩
 have hfk := Dev.flush_keeps hFok
 rw [hFc.flush] at hfk
 have hs3 : (FS n P D).flushed.sec.length = P + 1 := by rw [(flushed_counts _).2.2.2]; exact hs
 refine ⟨zero_sj (fun p hp => ?_) (hfk.ok hFok (by have := hFok.many; omega)) (flushed_calm hFc) (by rw [hs3]; omega) hg ?_, hs3, (flushed_counts _).1, (flushed_counts _).2.1, (flushed_counts _).2.2.1⟩
 ·rw [flushed_tells hFok _ ⟨by omega, by show (p : Int) + 1 < (D.sec.length : Int); omega⟩, ← hz p hp]
  unfold Dev.tells
  have : newest [((0 : Int), superE n P)] ((p : Int) + 1) = none := by
   have := newest_snoc [] ((0 : Int), superE n P) ((p : Int) + 1)
   rw [List.nil_append, if_neg (by show ¬ ((0 : Int) = (p : Int) + 1); omega)] at this
   exact this
  rw [show (FS n P D).wait = [((0 : Int), superE n P)] from rfl, this, hw]
  rfl
 ·rw [flushed_tells hFok 0 ⟨Int.le_refl _, by show (0 : Int) < (D.sec.length : Int); omega⟩]
  unfold Dev.tells
  have : newest [((0 : Int), superE n P)] 0 = some (superE n P) := by
   have := newest_snoc [] ((0 : Int), superE n P) 0
   rw [List.nil_append, if_pos rfl] at this
   exact this
  rw [show (FS n P D).wait = [((0 : Int), superE n P)] from rfl, this]
  show ((0 : Int), padTo 512 (superE n P)) = _
  rw [padTo_self (superE_length n P)]
def FmtBad (S : Hp) (d n P : Nat) (D : Dev) (o : Ar) (F : Assn) (w : World) (e : Ending) (w' : World) : Prop :=
 ∃ E, o ≠ none ∧ E.Ok ∧ E.sec.length = D.sec.length ∧ ((∃ K', o = some (0, K') ∧ E = D) ∨ (∃ K', o = some (1, K') ∧ E = F1 D) ∨ ∀ K, Blank (Dev.again E K) ∨ Sj n P 1 (superE n P) (J0 P n) (Dev.again E K) noH) ∧ MtBad S d E (arK o) 2 F w e w'
structure FmOk (n P : Nat) (D : Dev) (o : Ar) (D' : Dev) (o' : Ar) : Prop where
 sj : Sj n P 1 (superE n P) (J0 P n) D' noH
 dry : D'.wait = []
 sec : D'.sec.length = D.sec.length
 cr : D'.cr = D.cr
 cw : D'.cw = addN D.cw (P + 2)
 cf : D'.cf = addN D.cf 3
 ar : ArTo o o'
def FmtGood (S : Hp) (d n P : Nat) (D : Dev) (o : Ar) (F : Assn) (w : World) (e : Ending) (w' : World) : Prop :=
 ∃ s j S' D' o', Ext S S' ∧ e = .returned (.tuple #[ptV s, .int .i64 0]) ∧ Sat w' (stoA s j d n P (J0 P n) * (devA S' d (D'.wth o') * (pool S' * F))) ∧ Side w w' ∧ FmOk n P D o D' o'
def FormatQ (S : Hp) (d n P : Nat) (D : Dev) (o : Ar) (F : Assn) (w : World) (e : Ending) (w' : World) : Prop := FmtBad S d n P D o F w e w' ∨ FmtGood S d n P D o F w e w'
def FZOut (S : Hp) (d P : Nat) (D1 : Dev) (o : Ar) (Fr : Assn) (w : World) (wr : World) : Prop :=
 ∃ S' o', Ext S S' ∧ Sat wr (devA S' d ((FZ D1 P).wth o') * (pool S' * Fr)) ∧ Side w wr ∧ ArTo o o'
def FZRel (S : Hp) (d P : Nat) (D1 : Dev) (o : Ar) (Fr : Assn) (w : World) (u : Value) (wr : World) : Prop :=
 ∃ k S' o', k ≤ P ∧ u = .int .i64 ((k : Nat) : Int) ∧ Ext S S' ∧ Sat wr (devA S' d ((FZ D1 k).wth o') * (pool S' * Fr)) ∧ Side w wr ∧ ArTo o o'
set_option maxRecDepth 100000 in
set_option maxHeartbeats 4000000 in
theorem format_any (w : World) (S : Hp) (d n P : Nat) (D : Dev) (o : Ar) (F : Assn) (h : Sat w (devA S d (D.wth o) * (pool S * F))) (hok : D.Ok) (hc : D.Calm) (hm : D.wait.length ≤ 1000) (hg : geoOk n P = true) (hs : D.sec.length = P + 1) (ho : arOk o)
  (hh : ∀ w' X, Sat w' (X * F) → Half w') : Calls Tryz.prog 14 #[ptV d, .int .i64 (n : Int)] w (FormatQ S d n P D o F w) := by
 have hmf : ∀ (fn : Fn) (first cap : Array Value) (w : World), (Instr.makeFunc fn first cap).run Tryz.prog w = .ok (.func fn first cap) w := fun _ _ _ _ => rfl
 have hgG := geoOk_iff.1 hg
 have h1 := ((h.alloc (.cells #[.pointer none] 29 (0, 0))).alloc (.cells #[.int .i64 0] 25 (0, 0)))
 have d1 := (((Side.refl w).alloc (.cells #[.pointer none] 29 (0, 0))).alloc (.cells #[.int .i64 0] 25 (0, 0)))
 rw [World.size_alloc] at h1
 have Hok := SL.hid hok; have Hc := SL.hid hc; have Hm := SL.hid hm; have Hg := SL.hid hg; have Hs := SL.hid hs; have Ho := SL.hid ho; have Hh := SL.hid hh
 clear h hok hc hm hg hs ho hh
 go_enter_defers Tryz.func14, Tryz.ntmps14
 go_wp2_with fail
 generalize (w.alloc (.cells #[.pointer none] 29 (0, 0))).alloc (.cells #[.int .i64 0] 25 (0, 0)) = w1 at h1 d1 ⊢
 generalize w.heap.size + 1 = eb at h1 ⊢
 generalize w.heap.size = ab at h1 ⊢
 have hsec := sectors_any w1 S d (D.wth o) _ (h1.to (by ac_rfl : _ = devA S d (D.wth o) * (pt eb (.cells #[.int .i64 0] 25 (0, 0)) * (pt ab (.cells #[.pointer none] 29 (0, 0)) * (pool S * F)))))
 rw [wth_sec, Hs.out] at hsec
 have hwr : IntKind.i64.wrap (((P + 1 : Nat) : Int) - 1) = (P : Int) := by rw [IntKind.wrap_i64]; omega
 (with_reducible refine hsec.mono ?_)
 rintro e w2 ⟨rfl, rfl⟩
 have h2 := h1.alloc (.cells #[.int .i64 (n : Int), .int .i64 (P : Int)] 35 (0, 0))
 have d2 := d1.alloc (.cells #[.int .i64 (n : Int), .int .i64 (P : Int)] 35 (0, 0))
 clear hsec h1 d1
 go_wp2_with fail
 have hrt := gright_any (w1.alloc (.cells #[.int .i64 (n : Int), .int .i64 (P : Int)] 35 (0, 0))) n P
 unfold RightGQ geV at hrt
 rw [if_pos Hg.out] at hrt
 (with_reducible refine hrt.mono ?_)
 rintro e w3 ⟨rfl, h3, d3⟩
 have hyes := fun w => must_yes w
 have H3 := h3.keepW h2
 have D3 := d2.trans d3
 generalize w1.heap.size = gb at H3 ⊢
 clear hrt h2 d2 h3 d3
 go_wp2_with fail
 (with_reducible refine (hyes _).mono ?_)
 rintro e w4 ⟨rfl, rfl⟩
 have H4 := H3.alloc (.cells (u8s (zs 512)) 5 (0, 0))
 have D4 := D3.alloc (.cells (u8s (zs 512)) 5 (0, 0))
 obtain ⟨Z, hZ⟩ : ∃ Z, Z = u8s (zs 512) := ⟨_, rfl⟩
 have hmk : ∀ w, (Instr.makeSlice 22 (.int .i64 512) (.int .i64 512)).run Tryz.prog w = .ok (.slice (some ⟨w.heap.size, 0, none⟩) 512 512) (w.alloc (.cells Z 5 (0, 0))) := by
  rw [hZ]; exact Go.Proofs.YtdafdidmbeecfaaGreatDoor.make_bytes 512 (by decide)
 rw [← hZ] at H4 D4
 clear H3 D3
 have HZ := SL.hid hZ
 clear hZ
 go_wp2_with fail
 generalize w3.alloc (.cells Z 5 (0, 0)) = w5 at H4 D4 ⊢
 generalize w3.heap.size = zb at H4 ⊢
 obtain ⟨Fr, hFr⟩ : ∃ X, X = pt zb (.cells Z 5 (0, 0)) * (pt gb (.cells #[.int .i64 (n : Int), .int .i64 (P : Int)] 35 (0, 0)) * (pt eb (.cells #[.int .i64 0] 25 (0, 0)) * (pt ab (.cells #[.pointer none] 29 (0, 0)) * F))) := ⟨_, rfl⟩
 have H5 : Sat w5 (devA S d (D.wth o) * (pool S * Fr)) := H4.to (by rw [hFr]; ac_rfl)
 have HFr := SL.hid hFr
 have hrz : ∀ w' X, Sat w' (X * Fr) → Rd w' (.slice (some ⟨zb, 0, none⟩) 512 512) (zs 512) := by
  intro w' X hx
  have := rd_rowU (c := 512) ((hx.to (by rw [HFr.out, HZ.out]; ac_rfl : _ = pt zb (.cells (u8s (zs 512)) 5 (0, 0)) * (X * (pt gb (.cells #[.int .i64 (n : Int), .int .i64 (P : Int)] 35 (0, 0)) * (pt eb (.cells #[.int .i64 0] 25 (0, 0)) * (pt ab (.cells #[.pointer none] 29 (0, 0)) * F)))))).heap)
  rwa [zs_len] at this
 have hrz := SL.hid hrz
 -- how it fails
 have fail2 : ∀ (w3 : World) (E : Dev) (S' : Hp) (X : Assn) (tm : Array Value), tm[4]? = some (ptV ab) → tm[5]? = some (ptV eb) → Ext S S' → Sat w3 (X * (devA S' d (E.crash (arK o)) * (pool S' * Fr))) → Side w w3 → o ≠ none → E.Ok → E.sec.length = D.sec.length →
   ((∃ K', o = some (0, K') ∧ E = D) ∨ (∃ K', o = some (1, K') ∧ E = F1 D) ∨ ∀ K, Blank (Dev.again E K) ∨ Sj n P 1 (superE n P) (J0 P n) (Dev.again E K) noH) →
   bodyPostD Tryz.prog Tryz.f14 (FormatQ S d n P D o F w) (Exit.panic (erP 2)) { tmps := tm, defers := [{ target := .fn (.func 46) #[.pointer (some ⟨ab, 0, none⟩), .pointer (some ⟨eb, 0, none⟩)], args := #[] }] } w3 := by
  intro w3 E S' X tm t2 t3 hE h3 d3 hne hok hsec hst
  refine doorF_pan t2 t3 (h3.to (by rw [HFr.out]; ac_rfl : _ = pt ab (.cells #[.pointer none] 29 (0, 0)) * (pt eb (.cells #[.int .i64 0] 25 (0, 0)) * ((X * (pt zb (.cells Z 5 (0, 0)) * pt gb (.cells #[.int .i64 (n : Int), .int .i64 (P : Int)] 35 (0, 0)))) * (devA S' d (E.crash (arK o)) * (pool S' * F)))))) fun w' h' d' => ?_
  exact .inl ⟨E, hne, hok, hsec, hst, S', hE, rfl, h'.right, d3.trans d'⟩
 have Fail2 := SL.hid fail2
 clear fail2 H4 hFr
 -- the first two steps
 have hwf := write_fn w5 d 0 (some ⟨zb, 0, none⟩) 512 512
 have h6 := (((H5.alloc (.cells #[ptV d] 24 (0, 0))).alloc (.cells #[.int .i64 0] 3 (0, 0))).alloc (.cells #[.slice (some ⟨zb, 0, none⟩) 512 512] 22 (0, 0))).alloc (.cells #[.func (.func 73) #[] #[ptV w5.heap.size, ptV (w5.heap.size + 1), ptV (w5.heap.size + 1 + 1)], .func (.func 41) #[ptV d] #[]] 65 (0, 0))
 have D6 := (((D4.alloc (.cells #[ptV d] 24 (0, 0))).alloc (.cells #[.int .i64 0] 3 (0, 0))).alloc (.cells #[.slice (some ⟨zb, 0, none⟩) 512 512] 22 (0, 0))).alloc (.cells #[.func (.func 73) #[] #[ptV w5.heap.size, ptV (w5.heap.size + 1), ptV (w5.heap.size + 1 + 1)], .func (.func 41) #[ptV d] #[]] 65 (0, 0))
 rw [World.size_alloc, World.size_alloc, World.size_alloc] at h6
 (with_reducible refine hwf.mono ?_)
 rintro e w6 ⟨rfl, rfl⟩
 have H6 := SL.hid h6; have HD6 := SL.hid D6
 clear hwf h6 D6 D4 H5 hmk
 go_wp2_with fail
 generalize (((w5.alloc (.cells #[ptV d] 24 (0, 0))).alloc (.cells #[.int .i64 0] 3 (0, 0))).alloc (.cells #[.slice (some ⟨zb, 0, none⟩) 512 512] 22 (0, 0))).alloc (.cells #[.func (.func 73) #[] #[ptV w5.heap.size, ptV (w5.heap.size + 1), ptV (w5.heap.size + 1 + 1)], .func (.func 41) #[ptV d] #[]] 65 (0, 0)) = w6 at H6 HD6 ⊢
 generalize w5.heap.size + 1 + 1 + 1 = rb at H6 ⊢
 generalize w5.heap.size + 1 + 1 = cb at H6 ⊢
 generalize w5.heap.size + 1 = ca at H6 ⊢
 generalize w5.heap.size = cd at H6 ⊢
 have h6 : Sat w6 (devA S d (D.wth o) * (pool S * (clA cd ca cb d 0 (.slice (some ⟨zb, 0, none⟩) 512 512) * (rowA rb #[wFn cd ca cb, fFn d] * Fr)))) := H6.out.to (by unfold clA rowA wFn fFn; ac_rfl)
 have hD0 : D.has 0 := ⟨Int.le_refl _, by rw [Hs.out]; omega⟩
 obtain ⟨hA, hAok⟩ := stageA Hc.out Hok.out Hm.out Ho.out hD0
 have hrun := runA_any w6 S d (D.wth o) cd ca cb rb _ Fr h6 hrz.out hAok
 clear H6 h6 hAok
 (with_reducible refine hrun.mono ?_)
 rintro e w7 ⟨hc7, S7, hE7, h7, d7⟩
 have D7 := HD6.out.trans d7
 clear hrun d7 HD6
 rcases hA with ⟨K', ho0, hR⟩ | ⟨K', ho0, hR⟩ | ⟨o1, hA1, hR⟩
 ·rw [hR] at hc7 h7
  rcases hc7 with ⟨hc7, _⟩ | ⟨_, rfl⟩
  ·exact absurd hc7 (show ¬ (2 : Int) = 0 by decide)
  ·exact Fail2.out _ _ _ _ _ rfl rfl hE7 (h7.to (by ac_rfl : _ = (clA cd ca cb d 0 (.slice (some ⟨zb, 0, none⟩) 512 512) * rowA rb #[wFn cd ca cb, fFn d]) * (devA S7 d (D.crash (arK o)) * (pool S7 * Fr)))) D7 (by rw [ho0]; simp) Hok.out rfl (.inl ⟨K', ho0, rfl⟩)
 ·rw [hR] at hc7 h7
  rcases hc7 with ⟨hc7, _⟩ | ⟨_, rfl⟩
  ·exact absurd hc7 (show ¬ (2 : Int) = 0 by decide)
  ·exact Fail2.out _ _ _ _ _ rfl rfl hE7 (h7.to (by ac_rfl : _ = (clA cd ca cb d 0 (.slice (some ⟨zb, 0, none⟩) 512 512) * rowA rb #[wFn cd ca cb, fFn d]) * (devA S7 d ((F1 D).crash (arK o)) * (pool S7 * Fr)))) D7 (by rw [ho0]; simp) (F1_ok Hok.out Hm.out (by rw [Hs.out]; omega)) rfl (.inr (.inl ⟨K', ho0, rfl⟩))
 rw [hR] at hc7 h7
 rcases hc7 with ⟨_, rfl⟩ | ⟨hc7, _⟩
 case inr => exact absurd rfl hc7
 -- the 0s
 have hF1 := F1_ok Hok.out Hm.out (by rw [Hs.out]; omega)
 have hF1c := F1_calm Hc.out
 obtain ⟨D1, hD1⟩ : ∃ X, X = (F1 D).flushed := ⟨_, rfl⟩
 have hfk := Dev.flush_keeps hF1
 rw [hF1c.flush] at hfk
 have hok1 : D1.Ok := by rw [hD1]; exact hfk.ok hF1 (by have := hF1.many; omega)
 have hc1 : D1.Calm := by rw [hD1]; exact flushed_calm hF1c
 have hw1 : D1.wait = [] := by rw [hD1]; rfl
 have hs1 : D1.sec.length = P + 1 := by rw [hD1, (flushed_counts _).2.2.2]; exact Hs.out
 have ht1 : D1.tells 0 = (0, zs 512) := by rw [hD1, flushed_tells hF1 0 hD0]; exact F1_tells
 have hcr1 : D1.cr = D.cr := by rw [hD1, (flushed_counts _).1]; rfl
 have hcw1 : D1.cw = addN D.cw 1 := by rw [hD1, (flushed_counts _).2.1]; rfl
 have hcf1 : D1.cf = addN D.cf 1 := by rw [hD1, (flushed_counts _).2.2.1]; rfl
 rw [← hD1] at h7
 have hZ0 : FZ D1 0 = D1 := by unfold FZ zW; rw [List.range_zero, List.map_nil, ← hw1]; rfl
 have h7' : Sat w7 (devA S7 d ((FZ D1 0).wth o1) * (pool S7 * Fr)) := by
  rw [hZ0]
  exact (h7.to (by ac_rfl : _ = (clA cd ca cb d 0 (.slice (some ⟨zb, 0, none⟩) 512 512) * rowA rb #[wFn cd ca cb, fFn d]) * (devA S7 d (D1.wth o1) * (pool S7 * Fr)))).right
 have H7 := SL.hid h7'; have HD7 := SL.hid D7; have HA1 := SL.hid hA1; have HE7 := SL.hid hE7
 have Hok1 := SL.hid hok1; have Hc1 := SL.hid hc1; have Hw1 := SL.hid hw1; have Hs1 := SL.hid hs1; have Ht1 := SL.hid ht1; have Hcr1 := SL.hid hcr1; have Hcw1 := SL.hid hcw1; have Hcf1 := SL.hid hcf1
 clear h7 h7' D7 hA1 hR hD1 hfk hok1 hc1 hw1 hs1 ht1 hcr1 hcw1 hcf1 hF1 hF1c hZ0 hE7
 have g1 : w7.cell? ⟨gb, 1, none⟩ = some (.int .i64 (P : Int)) := by
  have := H7.out
  rw [HFr.out] at this
  exact (this.to (by ac_rfl : _ = pt gb (.cells #[.int .i64 (n : Int), .int .i64 (P : Int)] 35 (0, 0)) * (pt zb (.cells Z 5 (0, 0)) * (pt eb (.cells #[.int .i64 0] 25 (0, 0)) * (pt ab (.cells #[.pointer none] 29 (0, 0)) * (F * (devA S7 d ((FZ D1 0).wth o1) * pool S7))))))).cell 1
 go_upto_block 0 with (fail)
 go_cut [] from 32 to 42 (fun wx => FZOut S d P D1 o Fr w wx)
 case first =>
  go_wp2_with fail
  go_loopw [32] (fun u wr => FZRel S d P D1 o Fr w u wr) (fun u _ => P - (intOf u).toNat)
  case atStart => exact ⟨0, S7, o1, Nat.zero_le _, rfl, HE7.out, H7.out, HD7.out, HA1.out⟩
  case round =>
   clear H7 HD7 HA1 HE7 g1
   obtain ⟨k, S8, o2, hk, rfl, hE8, h8, D8, hA2⟩ := hrel
   by_cases hlt : k < P
   ·have hlt' : (k : Int) < (P : Int) := by omega
    have hwk : IntKind.i64.wrap ((k : Int) + 1) = (k : Int) + 1 := by rw [IntKind.wrap_i64]; omega
    have hwf := write_fn wr d ((k : Int) + 1) (some ⟨zb, 0, none⟩) 512 512
    have h9 := (((h8.alloc (.cells #[ptV d] 24 (0, 0))).alloc (.cells #[.int .i64 ((k : Int) + 1)] 3 (0, 0))).alloc (.cells #[.slice (some ⟨zb, 0, none⟩) 512 512] 22 (0, 0))).alloc (.cells #[.func (.func 73) #[] #[ptV wr.heap.size, ptV (wr.heap.size + 1), ptV (wr.heap.size + 1 + 1)]] 65 (0, 0))
    have D9 := (((D8.alloc (.cells #[ptV d] 24 (0, 0))).alloc (.cells #[.int .i64 ((k : Int) + 1)] 3 (0, 0))).alloc (.cells #[.slice (some ⟨zb, 0, none⟩) 512 512] 22 (0, 0))).alloc (.cells #[.func (.func 73) #[] #[ptV wr.heap.size, ptV (wr.heap.size + 1), ptV (wr.heap.size + 1 + 1)]] 65 (0, 0))
    rw [World.size_alloc, World.size_alloc, World.size_alloc] at h9
    have H9 := SL.hid h9; have HD9 := SL.hid D9; have HE8 := SL.hid hE8; have HA2 := SL.hid hA2
    clear h8 D8 h9 D9 hE8 hA2
    go_wp2_with fail
    (with_reducible refine hwf.mono ?_)
    rintro e w9 ⟨rfl, rfl⟩
    clear hwf
    go_wp2_with fail
    generalize (((wr.alloc (.cells #[ptV d] 24 (0, 0))).alloc (.cells #[.int .i64 ((k : Int) + 1)] 3 (0, 0))).alloc (.cells #[.slice (some ⟨zb, 0, none⟩) 512 512] 22 (0, 0))).alloc (.cells #[.func (.func 73) #[] #[ptV wr.heap.size, ptV (wr.heap.size + 1), ptV (wr.heap.size + 1 + 1)]] 65 (0, 0)) = w9 at H9 HD9 ⊢
    generalize wr.heap.size + 1 + 1 + 1 = rb at H9 ⊢
    generalize wr.heap.size + 1 + 1 = cb at H9 ⊢
    generalize wr.heap.size + 1 = ca at H9 ⊢
    generalize wr.heap.size = cd at H9 ⊢
    have h9 : Sat w9 (devA S8 d ((FZ D1 k).wth o2) * (pool S8 * (clA cd ca cb d ((k : Int) + 1) (.slice (some ⟨zb, 0, none⟩) 512 512) * (rowA rb #[wFn cd ca cb] * Fr)))) := H9.out.to (by unfold clA rowA wFn; ac_rfl)
    have hrun := runB_any w9 S8 d ((FZ D1 k).wth o2) cd ca cb rb _ Fr _ h9 hrz.out (wth_ok (FZ_ok Hok1.out (by rw [Hs1.out]; omega)) HA2.out.ok)
    clear h9 H9
    (with_reducible refine hrun.mono ?_)
    rintro e w10 ⟨hc10, S10, hE10, h10, d10⟩
    have D10 := HD9.out.trans d10
    have hE : Ext S S10 := HE8.out.trans hE10
    clear hrun d10 HD9 hE10
    rcases stageB (k := k) Hc1.out HA2.out.ok (by rw [Hs1.out]; omega) with ⟨o3, hA3, hR⟩ | ⟨hh, hR⟩
    ·rw [hR] at hc10 h10
     rcases hc10 with ⟨_, rfl⟩ | ⟨hc10, _⟩
     case inr => exact absurd rfl hc10
     have H10 := SL.hid ((h10.to (by ac_rfl : _ = (clA cd ca cb d ((k : Int) + 1) (.slice (some ⟨zb, 0, none⟩) 512 512) * rowA rb #[wFn cd ca cb]) * (devA S10 d ((FZ D1 (k + 1)).wth o3) * (pool S10 * Fr)))).right)
     have HD10 := SL.hid D10; have HE10 := SL.hid hE; have HA3 := SL.hid (HA2.out.trans hA3)
     clear h10 D10 hE hA3 hR HA2
     go_wp2_with fail
     go_roundw
     case rel => exact ⟨k + 1, S10, o3, by omega, by go_num, HE10.out, H10.out, HD10.out, HA3.out⟩
     case measure => simp [intOf]; omega
    ·rw [hR] at hc10 h10
     rw [HA2.out.K] at h10
     rcases hc10 with ⟨hc10, _⟩ | ⟨_, rfl⟩
     ·exact absurd hc10 (show ¬ (2 : Int) = 0 by decide)
     ·refine Fail2.out _ _ _ _ _ rfl rfl hE (h10.to (by ac_rfl : _ = (clA cd ca cb d ((k : Int) + 1) (.slice (some ⟨zb, 0, none⟩) 512 512) * rowA rb #[wFn cd ca cb]) * (devA S10 d ((FZ D1 k).crash (arK o)) * (pool S10 * Fr)))) D10 (fun e => arHit_ne hh (HA2.out.none e)) (FZ_ok Hok1.out (by rw [Hs1.out]; omega)) (by show D1.sec.length = _; rw [Hs1.out, Hs.out]) (.inr (.inr fun K => .inl (.inl ?_)))
      rw [FZ_again Hok1.out Hw1.out (by rw [Hs1.out]; omega)]
      exact Ht1.out
   ·obtain rfl : k = P := by omega
    have H8 := SL.hid h8; have HD8 := SL.hid D8
    clear h8 D8
    go_wp2_with fail
    go_meet
    exact ⟨S8, o2, hE8, H8.out, HD8.out, hA2⟩
 case rest =>
  clear H7 HD7 HA1 HE7 g1
  obtain ⟨S8, o2, hE8, h8, D8, hA2⟩ := hcut
  have hgb : ∀ w' X, Sat w' (X * Fr) → Sat w' (pt gb (.cells #[.int .i64 (n : Int), .int .i64 (P : Int)] 35 (0, 0)) * ((pt zb (.cells Z 5 (0, 0)) * (pt eb (.cells #[.int .i64 0] 25 (0, 0)) * (pt ab (.cells #[.pointer none] 29 (0, 0)) * F))) * X)) := fun w' X hx => hx.to (by rw [HFr.out]; ac_rfl)
  have g0 : wc.cell? ⟨gb, 0, none⟩ = some (.int .i64 (n : Int)) := (hgb _ (devA S8 d ((FZ D1 P).wth o2) * pool S8) (h8.to (by ac_rfl))).cell 0
  have g1 : wc.cell? ⟨gb, 1, none⟩ = some (.int .i64 (P : Int)) := (hgb _ (devA S8 d ((FZ D1 P).wth o2) * pool S8) (h8.to (by ac_rfl))).cell 1
  have hhalf : ∀ w' X, Sat w' (X * Fr) → Half w' := fun w' X hx => Hh.out w' (X * (pt zb (.cells Z 5 (0, 0)) * (pt gb (.cells #[.int .i64 (n : Int), .int .i64 (P : Int)] 35 (0, 0)) * (pt eb (.cells #[.int .i64 0] 25 (0, 0)) * pt ab (.cells #[.pointer none] 29 (0, 0)))))) (hx.to (by rw [HFr.out]; ac_rfl))
  have hen := encodeG_any wc n P Hg.out (hhalf wc (devA S8 d ((FZ D1 P).wth o2) * pool S8) (h8.to (by ac_rfl)))
  unfold geV at hen
  have Hgb := SL.hid hgb; have Hhf := SL.hid hhalf; have H8 := SL.hid h8; have HD8 := SL.hid D8; have HE8 := SL.hid hE8; have HA2 := SL.hid hA2
  clear hgb hhalf h8 D8 hE8 hA2
  go_wp2_with fail
  (with_reducible refine hen.mono ?_)
  rintro e w9 ⟨ev, rfl, h9, d9⟩
  have H9 := h9.under H8.out
  have D9 := HD8.out.trans d9
  obtain ⟨va, vc, rfl⟩ := H9.bsRd.shape
  rw [superE_length] at H9 ⊢
  clear hen h9 d9 H8 HD8 g0 g1
  have hwf := write_fn w9 d 0 va 512 vc
  have h10 := (((H9.alloc (.cells #[ptV d] 24 (0, 0))).alloc (.cells #[.int .i64 0] 3 (0, 0))).alloc (.cells #[.slice va 512 vc] 22 (0, 0))).alloc (.cells #[.func (.func 41) #[ptV d] #[], .func (.func 73) #[] #[ptV w9.heap.size, ptV (w9.heap.size + 1), ptV (w9.heap.size + 1 + 1)], .func (.func 41) #[ptV d] #[]] 65 (0, 0))
  have D10 := (((D9.alloc (.cells #[ptV d] 24 (0, 0))).alloc (.cells #[.int .i64 0] 3 (0, 0))).alloc (.cells #[.slice va 512 vc] 22 (0, 0))).alloc (.cells #[.func (.func 41) #[ptV d] #[], .func (.func 73) #[] #[ptV w9.heap.size, ptV (w9.heap.size + 1), ptV (w9.heap.size + 1 + 1)], .func (.func 41) #[ptV d] #[]] 65 (0, 0))
  rw [World.size_alloc, World.size_alloc, World.size_alloc] at h10
  have H10 := SL.hid h10; have HD10 := SL.hid D10
  clear H9 D9 h10 D10
  go_wp2_with fail
  (with_reducible refine hwf.mono ?_)
  rintro e w10 ⟨rfl, rfl⟩
  clear hwf
  go_wp2_with fail
  generalize (((w9.alloc (.cells #[ptV d] 24 (0, 0))).alloc (.cells #[.int .i64 0] 3 (0, 0))).alloc (.cells #[.slice va 512 vc] 22 (0, 0))).alloc (.cells #[.func (.func 41) #[ptV d] #[], .func (.func 73) #[] #[ptV w9.heap.size, ptV (w9.heap.size + 1), ptV (w9.heap.size + 1 + 1)], .func (.func 41) #[ptV d] #[]] 65 (0, 0)) = w10 at H10 HD10 ⊢
  generalize w9.heap.size + 1 + 1 + 1 = rb at H10 ⊢
  generalize w9.heap.size + 1 + 1 = cb at H10 ⊢
  generalize w9.heap.size + 1 = ca at H10 ⊢
  generalize w9.heap.size = cd at H10 ⊢
  have h10 : Sat w10 (devA S8 d ((FZ D1 P).wth o2) * (pool S8 * (clA cd ca cb d 0 (.slice va 512 vc) * (rowA rb #[fFn d, wFn cd ca cb, fFn d] * (bs 5 (.slice va 512 vc) (superE n P) * Fr))))) := H10.out.to (by unfold clA rowA wFn fFn; ac_rfl)
  have hD0 : (FZ D1 P).has 0 := ⟨Int.le_refl _, by show (0 : Int) < (D1.sec.length : Int); rw [Hs1.out]; omega⟩
  have hFok := FZ_ok Hok1.out (k := P) (by rw [Hs1.out]; omega)
  obtain ⟨hC, hCok⟩ := stageC (n := n) (P := P) (FZ_calm Hc1.out P) hFok HA2.out.ok hD0
  have hrun := runC_any w10 S8 d ((FZ D1 P).wth o2) cd ca cb rb (.slice va 512 vc) (bs 5 (.slice va 512 vc) (superE n P) * Fr) n P h10 (fun w' X hx => (hx.to (by ac_rfl : _ = bs 5 (.slice va 512 vc) (superE n P) * (X * Fr))).bsRd) hCok
  clear H10 h10 hCok
  (with_reducible refine hrun.mono ?_)
  rintro e w11 ⟨hc11, S11, hE11, h11, d11⟩
  have D11 := HD10.out.trans d11
  have hE : Ext S S11 := HE8.out.trans hE11
  clear hrun d11 HD10 hE11
  -- what the device is
  have hFc := FZ_calm Hc1.out P
  have hfk := Dev.flush_keeps hFok
  rw [hFc.flush] at hfk
  have hok2 : (FZ D1 P).flushed.Ok := hfk.ok hFok (by have := hFok.many; omega)
  have hc2 : (FZ D1 P).flushed.Calm := flushed_calm hFc
  have hs2 : (FZ D1 P).flushed.sec.length = P + 1 := by rw [(flushed_counts _).2.2.2]; exact Hs1.out
  have hz2 : Zero P (FZ D1 P).flushed := fun p hp => by rw [flushed_tells hFok _ ⟨by omega, by show (p : Int) + 1 < (D1.sec.length : Int); rw [Hs1.out]; omega⟩]; exact FZ_zero D1 P p hp
  have ht2 : (FZ D1 P).flushed.tells 0 = (0, zs 512) := by rw [flushed_tells hFok _ hD0, FZ_tells0 Hw1.out]; exact Ht1.out
  rcases hC with ⟨o3, hA3, hR⟩ | ⟨hne, E, hEE, hR⟩
  case inr =>
   rw [hR] at hc11 h11
   rw [HA2.out.K] at h11
   rcases hc11 with ⟨hc11, _⟩ | ⟨_, rfl⟩
   ·exact absurd hc11 (show ¬ (2 : Int) = 0 by decide)
   ·have hX : E.Ok ∧ E.sec.length = D.sec.length ∧ ∀ K, Blank (Dev.again E K) ∨ Sj n P 1 (superE n P) (J0 P n) (Dev.again E K) noH := by
     rcases hEE with rfl | rfl | rfl
     ·refine ⟨hFok, by show D1.sec.length = _; rw [Hs1.out, Hs.out], fun K => .inl (.inl ?_)⟩
      rw [FZ_again Hok1.out Hw1.out (by rw [Hs1.out]; omega)]
      exact Ht1.out
     ·refine ⟨hok2, by rw [hs2, Hs.out], fun K => .inl (.inl ?_)⟩
      rw [again_dry hc2 rfl]
      exact ht2
     ·refine ⟨⟨hok2.n, fun x hx => ?_, ?_, hok2.keep⟩, by show (FZ D1 P).flushed.sec.length = _; rw [hs2, Hs.out], fun K => FS_again hok2 hc2 rfl hz2 ht2 (by rw [hs2]; omega) Hg.out⟩
      ·obtain rfl : x = ((0 : Int), superE n P) := by simpa [FS] using hx
       exact ⟨Int.le_refl _, by show (0 : Int) < ((FZ D1 P).flushed.sec.length : Int); rw [hs2]; omega⟩
      ·show [((0 : Int), superE n P)].length ≤ _; simp
    exact Fail2.out _ _ _ _ _ rfl rfl hE (h11.to (by ac_rfl : _ = (clA cd ca cb d 0 (.slice va 512 vc) * (rowA rb #[fFn d, wFn cd ca cb, fFn d] * bs 5 (.slice va 512 vc) (superE n P))) * (devA S11 d (E.crash (arK o)) * (pool S11 * Fr)))) D11 (fun e => hne (HA2.out.none e)) hX.1 hX.2.1 (.inr (.inr hX.2.2))
  rw [hR] at hc11 h11
  rcases hc11 with ⟨_, rfl⟩ | ⟨hc11, _⟩
  case inr => exact absurd rfl hc11
  obtain ⟨hsj, hs3, hcr3, hcw3, hcf3⟩ := FS_done hok2 hc2 rfl hs2 hz2 Hg.out
  have hFm : FmOk n P D o (FS n P (FZ D1 P).flushed).flushed o3 := by
   refine ⟨hsj, rfl, by rw [hs3, Hs.out], ?_, ?_, ?_, HA2.out.trans hA3⟩
   ·rw [hcr3, (flushed_counts _).1]; exact Hcr1.out
   ·rw [hcw3, (flushed_counts _).2.1]
    show i64w (addN D1.cw P + 1) = _
    rw [Hcw1.out, addN_addS, show P + 2 = (1 + P) + 1 by omega]; rfl
   ·rw [hcf3, (flushed_counts _).2.2.1]
    show i64w (i64w (D1.cf + 1) + 1) = _
    rw [Hcf1.out]; rfl
  generalize (FS n P (FZ D1 P).flushed).flushed = D3 at h11 hsj hs3 hcr3 hcw3 hcf3 hFm
  have H11 : Sat w11 (devA S11 d (D3.wth o3) * (pool S11 * Fr)) := (h11.to (by ac_rfl : _ = (clA cd ca cb d 0 (.slice va 512 vc) * (rowA rb #[fFn d, wFn cd ca cb, fFn d] * bs 5 (.slice va 512 vc) (superE n P))) * (devA S11 d (D3.wth o3) * (pool S11 * Fr)))).right
  have HFm := SL.hid hFm
  clear h11 hR hsj hcr3 hcw3 hcf3 hok2 hc2 hs2 hz2 ht2 hfk hFc hFok hFm hA3 HA2 HE8 hrz
  obtain ⟨F0, hF0⟩ : ∃ l, l = fill1 n 0 := ⟨_, rfl⟩
  have hmk : ∀ w, (Instr.makeSlice 45 (.int .i64 (n : Int)) (.int .i64 (n : Int))).run Tryz.prog w = .ok (.slice (some ⟨w.heap.size, 0, none⟩) n n) (w.alloc (.cells (ints F0) 3 (0, 0))) := by
   rw [hF0]; exact make_ints n (by omega)
  have HF0 := SL.hid hF0
  have h12 := H11.alloc (.cells (ints F0) 3 (0, 0))
  have D12 := D11.alloc (.cells (ints F0) 3 (0, 0))
  clear hF0 H11 D11
  go_upto_block 2 with (fail)
  generalize w11.alloc (.cells (ints F0) 3 (0, 0)) = w12 at h12 D12 ⊢
  generalize w11.heap.size = hb at h12 ⊢
  obtain ⟨Z2, hZ2⟩ : ∃ X, X = devA S11 d (D3.wth o3) * (pool S11 * Fr) := ⟨_, rfl⟩
  rw [← hZ2] at h12
  have HZ2 := SL.hid hZ2; have H12 := SL.hid h12; have HD12 := SL.hid D12; have HE11 := SL.hid hE; have Hs3 := SL.hid hs3
  clear hZ2 hmk h12 D12 hE hs3
  go_cut [] from 57 to 63 (fun wx => Sat wx (pt hb (.cells (ints (List.replicate n (-1))) 3 (0, 0)) * Z2) ∧ Side w wx)
  case first =>
   go_wp2_with fail
   go_loopw [57] (fun u wr => Fill1Rel n hb Z2 w u wr) (fun u _ => n - (intOf u).toNat)
   case atStart => exact ⟨0, Nat.zero_le _, rfl, by rw [← HF0.out]; exact H12.out, HD12.out⟩
   case round =>
    clear H12 HD12
    obtain ⟨k, hk, rfl, hsat, hside⟩ := hrel
    by_cases hlt : k < n
    ·have hlt' : (k : Int) < (n : Int) := by omega
     have ck : wr.cell? ⟨hb, k, none⟩ = some (.int .i64 ((fill1 n k).getD k 0)) := (hsat.cell k).trans (get_ints_lt (by rw [fill1_len hk]; exact hlt))
     have fk := hsat.frozen k
     have h2 := hsat.setCell k (.int .i64 (-1))
     rw [set_ints, fill1_set hlt] at h2
     have hset := SL.hid h2
     have Hside := SL.hid hside
     generalize (fill1 n k).getD k 0 = uo at ck
     clear hsat hside h2
     go_wp2
     go_roundw
     case rel => exact ⟨k + 1, by omega, by go_num, hset.out, Hside.out.setCell _ _⟩
     case measure => simp [intOf]; omega
    ·obtain rfl : k = n := by omega
     have e : fill1 k k = List.replicate k (-1) := by simp [fill1]
     rw [e] at hsat
     have Hs := SL.hid hsat; have Hd := SL.hid hside
     clear hsat hside e
     go_wp2_with fail
     go_meet
     exact ⟨Hs.out, Hd.out⟩
  case rest =>
   clear H12 HD12
   obtain ⟨h13, D13⟩ := hcut
   rw [HZ2.out] at h13
   have h13g : Sat wc (pt gb (.cells #[.int .i64 (n : Int), .int .i64 (P : Int)] 35 (0, 0)) * (pt zb (.cells Z 5 (0, 0)) * (pt eb (.cells #[.int .i64 0] 25 (0, 0)) * (pt ab (.cells #[.pointer none] 29 (0, 0)) * F)) * (pt hb (.cells (ints (List.replicate n (-1))) 3 (0, 0)) * (devA S11 d (D3.wth o3) * pool S11)))) := h13.to (by rw [HFr.out]; ac_rfl)
   have g0 : wc.cell? ⟨gb, 0, none⟩ = some (.int .i64 (n : Int)) := h13g.cell 0
   have g1 : wc.cell? ⟨gb, 1, none⟩ = some (.int .i64 (P : Int)) := h13g.cell 1
   have hlr : (freshS n).at_.length = n := List.length_replicate
   have hopn : Calls Tryz.prog 45 #[ptV d, .agg #[.int .i64 (n : Int), .int .i64 (P : Int)], .agg #[.int .u32 1, .int .u64 1, .int .u64 0, .int .i64 0, .int .i64 0, .slice (some ⟨hb, 0, none⟩) n n]] wc (OpenQ d n P (J0 P n) wc) := by
    refine open_any wc S11 d (D3.wth o3) _ (h13.to (by ac_rfl : _ = devA S11 d (D3.wth o3) * (pt hb (.cells (ints (List.replicate n (-1))) 3 (0, 0)) * (pool S11 * Fr)))) n P (freshS n) (.slice (some ⟨hb, 0, none⟩) n n) (.inr ⟨hb, 0, n, by rw [hlr], by rw [hlr]; exact Nat.le_refl _, by unfold maxLen; omega, fun k hk => ?_⟩) (by omega) (by omega) (by rw [wth_sec, Hs3.out]; omega) (by rw [wth_sec, Hs3.out]; omega) (show (0 : Int) ≤ 0 by decide) (fresh_right (by omega) (by omega) (by omega)) (by omega)
    rw [Nat.zero_add, h13.cell]
    exact get_ints_lt hk
   have H13 := SL.hid h13; have HD13 := SL.hid D13
   clear h13 h13g D13 hlr
   go_wp2_with fail
   (with_reducible refine hopn.mono ?_)
   rintro e w14 ⟨s, j, rfl, h14, d14⟩
   have D14 := HD13.out.trans d14
   have h14' : Sat w14 (pt ab (.cells #[.pointer none] 29 (0, 0)) * (pt eb (.cells #[.int .i64 0] 25 (0, 0)) * ((pt hb (.cells (ints (List.replicate n (-1))) 3 (0, 0)) * (pt gb (.cells #[.int .i64 (n : Int), .int .i64 (P : Int)] 35 (0, 0)) * pt zb (.cells Z 5 (0, 0)))) * (stoA s j d n P (J0 P n) * (devA S11 d (D3.wth o3) * (pool S11 * F)))))) := (h14.under H13.out).to (by rw [HFr.out]; ac_rfl)
   have a0 := h14'.cell 0; have b0 := h14'.front2.cell 0
   have fa := h14'.frozen 0; have fb' := h14'.front2.frozen 0
   have hne : ab ≠ eb := Sat.ne h14'
   have HK := SL.hid ((h14'.setCell 0 (ptV s)).front2.setCell 0 (.int .i64 0))
   have HDK := SL.hid ((D14.setCell ⟨ab, 0, none⟩ (ptV s)).setCell ⟨eb, 0, none⟩ (.int .i64 0))
   clear hopn h14 h14' d14 D14 H13 HD13 g0 g1
   go_wp2_with fail
   exact doorF_ret rfl rfl (HK.out.front2.cell 0) (HK.out.cell 0) (.inr ⟨s, j, S11, D3, o3, HE11.out, rfl, HK.out.right.right.right, HDK.out, HFm.out⟩)
end Go.Proofs.YtdafdidmbeecfaaGreatDoor.Su
end
section
namespace Go.Proofs.YtdafdidmbeecfaaGreatDoor.Su
set_option linter.unusedVariables false
set_option linter.unusedSimpArgs false
open Go.RowKit Go.SL Go.Proofs.YtdafdidmbeecfaaGreatDoor Go.Proofs.YtdafdidmbeecfaaGreatDoor.Ba Go.Proofs.YtdafdidmbeecfaaGreatDoor.Fs
theorem downD_any (w : World) (S : Hp) (d : Nat) (D : Dev) (F : Assn) (h : Sat w (devA S d D * F)) :
  Calls Tryz.prog 25 #[ptV d] w fun e w' => e = .returned (.bool D.down) ∧ w = w' := by
 obtain ⟨x, hx⟩ := h.devEx
 have k6 : w.cell? ⟨d, 6, none⟩ = some (.bool D.down) := hx.devCell 6
 clear h hx
 go_enter Tryz.func25, Tryz.ntmps25
 go_wp2
 go_ret
 exact ⟨rfl, rfl⟩
def Dev.disarm (D : Dev) : Dev := { D with armed := false, left := 0, keep := [] }
theorem disarm_any (w : World) (S : Hp) (d : Nat) (D : Dev) (F : Assn) (n : Int) (hn : n < 0) (h : Sat w (devA S d D * F)) :
  Calls Tryz.prog 29 #[ptV d, .int .i64 n, .slice none 0 0] w (DevQ S d (Dev.disarm D) (.tuple #[]) F w) := by
 obtain ⟨x, hx⟩ := h.devEx
 have k7 : w.cell? ⟨d, 7, none⟩ = some (.bool D.armed) := hx.devCell 7
 have k8 : w.cell? ⟨d, 8, none⟩ = some (.int .i64 D.left) := hx.devCell 8
 obtain ⟨ka, kc, hkv⟩ := sl_shape hx.devOpen.2.front5
 have k9 : w.cell? ⟨d, 9, none⟩ = some (.slice ka D.keep.length kc) := by rw [← hkv]; exact hx.devCell 9
 have f7 := hx.devFree 7; have f8 := hx.devFree 8; have f9 := hx.devFree 9
 obtain ⟨hfit, h2⟩ := hx.devOpen
 have h3 := ((h2.setCell 7 (.bool false)).setCell 8 (.int .i64 0)).setCell 9 (.slice none 0 0)
 have h4 : Sat (((w.setCell ⟨d, 7, none⟩ (.bool false)).setCell ⟨d, 8, none⟩ (.int .i64 0)).setCell ⟨d, 9, none⟩ (.slice none 0 0)) (devA S d (Dev.disarm D) * F) := by
  refine Sat.devOf (x := { x with kv := .slice none 0 0 }) (Sat.devShut ⟨hfit.sec, hfit.vals, hfit.wait, hfit.wvals⟩ ?_)
  have h5 := (h3.front5.right).slNil 3 1
  exact h5.to (by ac_rfl)
 have H4 := SL.hid h4
 clear h hx h2 h3 h4 hfit hkv
 go_enter Tryz.func29, Tryz.ntmps29
 go_wp2
 go_end0
 exact ⟨rfl, H4.out, (((Side.refl w).setCell _ _).setCell _ _).setCell _ _⟩
def Dev.arm (D : Dev) (n : Int) (K : List Int) : Dev := { D with armed := true, left := n, keep := K }
set_option maxRecDepth 100000 in
set_option maxHeartbeats 1000000 in
theorem arm_any (w : World) (S : Hp) (d : Nat) (D : Dev) (F : Assn) (n : Int) (hn : 0 ≤ n) (v : Value) (K : List Int) (hK : Rds w 1 v K.length (SL.i64v K)) (hl : K.length ≤ 17592186044416) (h : Sat w (devA S d D * F)) :
  Calls Tryz.prog 29 #[ptV d, .int .i64 n, v] w (DevQ S d (Dev.arm D n K) (.tuple #[]) F w) := by
 obtain ⟨x, hx⟩ := h.devEx
 obtain ⟨i0, hi, hz, hs0, hb0⟩ := info_parts info_int
 obtain ⟨v', w2, hrun, hsat, hside⟩ := Sat.append (P := Tryz.prog) (ty := 45) Tryz.underlying45 hi hz hs0 hb0 rfl (hx.slNil 3 1) hK (by intro u hu; simp only [SL.i64v, List.mem_map] at hu; obtain ⟨k, _, rfl⟩ := hu; rfl) (by unfold maxLen; omega) (by omega)
 simp only [List.nil_append, Nat.zero_add] at hsat
 obtain ⟨va, vc, rfl⟩ := sl_shape hsat
 obtain ⟨hfit, h2⟩ := (hsat.to (SL.star_left_comm _ _ _)).devOpen
 have k7 : w2.cell? ⟨d, 7, none⟩ = some (.bool D.armed) := h2.cell 7
 have k8 : w2.cell? ⟨d, 8, none⟩ = some (.int .i64 D.left) := h2.cell 8
 obtain ⟨ka, kc, hkv⟩ := sl_shape h2.front5
 have k9 : w2.cell? ⟨d, 9, none⟩ = some (.slice ka D.keep.length kc) := by rw [← hkv]; exact h2.cell 9
 have f7 := h2.frozen 7; have f8 := h2.frozen 8; have f9 := h2.frozen 9
 have h3 := ((h2.setCell 7 (.bool true)).setCell 8 (.int .i64 n)).setCell 9 (.slice va K.length vc)
 have h4 : Sat (((w2.setCell ⟨d, 7, none⟩ (.bool true)).setCell ⟨d, 8, none⟩ (.int .i64 n)).setCell ⟨d, 9, none⟩ (.slice va K.length vc)) (devA S d (Dev.arm D n K) * F) := by
  refine Sat.devOf (x := { x with kv := .slice va K.length vc }) (Sat.devShut ⟨hfit.sec, hfit.vals, hfit.wait, hfit.wvals⟩ ?_)
  exact h3.front5.right
 have H4 := SL.hid h4; have Hrun := SL.hid hrun; have HS := SL.hid hside
 obtain ⟨ka', kc', rfl⟩ : ∃ a c, v = .slice a K.length c := by
  rcases hK.2 with ⟨rfl, h0⟩ | ⟨a, c, rfl, _⟩
  ·exact ⟨none, 0, by rw [h0]⟩
  ·exact ⟨_, _, rfl⟩
 clear h hx h2 h3 h4 hfit hkv hsat hrun hside hK hi hz hs0 hb0
 go_enter Tryz.func29, Tryz.ntmps29
 go_wp2_with (at_builtin; refine wpList_append_run Hrun.out _ _ rfl rfl rfl rfl rfl ?_)
 go_end0
 exact ⟨rfl, H4.out, ((HS.out.setCell _ _).setCell _ _).setCell _ _⟩
def NoSt (D : Dev) : Prop := (D.tells 0).1 = 3 ∨ ((D.tells 0).1 = 0 ∧ (D.tells 0).2.length = 512 ∧ (superD (D.tells 0).2 = none ∨ ∃ n P, superD (D.tells 0).2 = some (n, P) ∧ P ≠ (D.sec.length : Int) - 1))
def MtNo (S : Hp) (d : Nat) (D : Dev) (F : Assn) (w : World) (e : Ending) (w' : World) : Prop :=
 e = .returned (.tuple #[.pointer none, .int .i64 4]) ∧ Sat w' (devA S d ({ D.flushed with cr := i64w (D.cr + 1) } : Dev) * (pool S * F)) ∧ Side w w'
set_option maxRecDepth 100000 in
set_option maxHeartbeats 4000000 in
theorem mountNo_any (w : World) (S : Hp) (d : Nat) (D : Dev) (F : Assn) (h : Sat w (devA S d D * (pool S * F))) (hok : D.Ok) (hc : D.Calm) (hs : 1 ≤ D.sec.length) (hN : NoSt D) (hh : ∀ w' X, Sat w' (X * F) → Half w') :
  Calls Tryz.prog 12 #[ptV d] w (MtNo S d D F w) := by
 have hmf : ∀ (fn : Fn) (first cap : Array Value) (w : World), (Instr.makeFunc fn first cap).run Tryz.prog w = .ok (.func fn first cap) w := fun _ _ _ _ => rfl
 have h1 := ((h.alloc (.cells #[.pointer none] 29 (0, 0))).alloc (.cells #[.int .i64 0] 25 (0, 0))).alloc (.cells #[.func (.func 41) #[ptV d] #[]] 65 (0, 0))
 have d1 := (((Side.refl w).alloc (.cells #[.pointer none] 29 (0, 0))).alloc (.cells #[.int .i64 0] 25 (0, 0))).alloc (.cells #[.func (.func 41) #[ptV d] #[]] 65 (0, 0))
 rw [World.size_alloc, World.size_alloc] at h1
 have hfk := Dev.flush_keeps hok
 rw [hc.flush] at hfk
 have hok1 : D.flushed.Ok := hfk.ok hok (by have := hok.many; omega)
 have hc1 : D.flushed.Calm := flushed_calm hc
 have hs1 : D.flushed.sec.length = D.sec.length := (flushed_counts D).2.2.2
 have hcr1 : D.flushed.cr = D.cr := (flushed_counts D).1
 have ht1 : D.flushed.tells 0 = D.tells 0 := flushed_tells hok 0 ⟨Int.le_refl _, by omega⟩
 have hrd : D.flushed.read 0 = (D.flushed.tells 0, ({ D.flushed with cr := i64w (D.flushed.cr + 1) } : Dev)) := by
  have := wth_read_go hc1 arOk_none (show ¬ arHit none from fun ⟨K, hK⟩ => by cases hK) (a := 0) ⟨Int.le_refl _, by rw [hs1]; omega⟩
  exact this
 rw [hcr1, ht1] at hrd
 have hfl : D.flush = (0, D.flushed) := hc.flush
 have Hh := SL.hid hh; have HN := SL.hid hN; have Hok := SL.hid hok; have Hok1 := SL.hid hok1; have Hs1 := SL.hid hs1; have Hs := SL.hid hs
 have hn0 := hok.n
 clear h hc hh hN hs hfk hc1 hcr1 ht1 hs1 hok1 hok
 go_enter_defers Tryz.func12, Tryz.ntmps12
 go_wp2_with fail
 generalize ((w.alloc (.cells #[.pointer none] 29 (0, 0))).alloc (.cells #[.int .i64 0] 25 (0, 0))).alloc (.cells #[.func (.func 41) #[ptV d] #[]] 65 (0, 0)) = w1 at h1 d1 ⊢
 generalize w.heap.size + 1 + 1 = fb at h1 ⊢
 generalize w.heap.size + 1 = eb at h1 ⊢
 generalize w.heap.size = ab at h1 ⊢
 have hrun := runF_any w1 S d fb D (pt eb (.cells #[.int .i64 0] 25 (0, 0)) * (pt ab (.cells #[.pointer none] 29 (0, 0)) * (pool S * F))) (h1.to (by unfold flA; ac_rfl)) Hok.out
 rw [hfl] at hrun
 clear h1 hfl
 (with_reducible refine hrun.mono ?_)
 rintro e w2 ⟨hc, h2, d2⟩
 rcases hc with ⟨_, rfl⟩ | ⟨hc, _⟩
 case inr => exact absurd rfl hc
 obtain ⟨G, hG⟩ : ∃ G, G = pt ab (.cells #[.pointer none] 29 (0, 0)) * (pt eb (.cells #[.int .i64 0] 25 (0, 0)) * (flA fb d * F)) := ⟨_, rfl⟩
 have H2 : Sat w2 (devA S d D.flushed * (pool S * G)) := h2.to (by rw [hG]; ac_rfl)
 have D2 := d1.trans d2
 have hhF : ∀ (E : Dev) w' X, Sat w' (X * (devA S d E * (pool S * G))) → Half w' := fun E w' X h' => Hh.out w' (X * (devA S d E * (pool S * (pt ab (.cells #[.pointer none] 29 (0, 0)) * (pt eb (.cells #[.int .i64 0] 25 (0, 0)) * flA fb d))))) (h'.to (by rw [hG]; ac_rfl))
 have h512 : (D.tells 0).1 = 0 → (D.tells 0).2.length = 512 := fun e => by
  rcases HN.out with h | h
  ·rw [e] at h; exact absurd h (by decide)
  ·exact h.2.1
 have hq : Calls Tryz.prog 42 #[ptV d] w2 (GeoQ S d (D.flushed.read 0).1 (D.flushed.read 0).2 D.flushed.sec.length G w2) := geometry_any w2 S d D.flushed G H2 Hok1.out (hhF _) (by rw [hrd]; exact h512) (by rw [hrd]) (by rw [Hs1.out]; have := Hs.out; omega)
 rw [hrd, Hs1.out] at hq
 clear hrun h2 d1 d2 H2 hhF h512
 go_wp2_with fail
 (with_reducible refine hq.mono ?_)
 rintro e w3 ⟨⟨h3, d3⟩, p3, p2, pok, p4, p5⟩
 have he : e = .panicked (erP 4) := by
  rcases HN.out with h | ⟨h, _, h2⟩
  ·exact p3 h
  ·rcases h2 with h2 | ⟨n, P, h2, h4⟩
   ·exact p4 h h2
   ·exact p5 h n P h2 h4
 subst he
 refine doorM_pan rfl rfl (h3.to (by rw [hG]; ac_rfl : _ = pt ab (.cells #[.pointer none] 29 (0, 0)) * (pt eb (.cells #[.int .i64 0] 25 (0, 0)) * (flA fb d * (devA S d ({ D.flushed with cr := i64w (D.cr + 1) } : Dev) * (pool S * F)))))) fun w' h' d' => ?_
 exact ⟨rfl, h'.right, (D2.trans d3).trans d'⟩
def FmtNo (w : World) (e : Ending) (w' : World) : Prop := e = .returned (.tuple #[.pointer none, .int .i64 1]) ∧ Sat w' (whole w) ∧ Side w w'
set_option maxRecDepth 100000 in
set_option maxHeartbeats 4000000 in
theorem formatNo_any (w : World) (S : Hp) (d P : Nat) (D : Dev) (n : Int) (F : Assn) (h : Sat w (devA S d D * F)) (hs : D.sec.length = P + 1) (hP : P ≤ 20000) (hg : geoOk n P ≠ true) :
  Calls Tryz.prog 14 #[ptV d, .int .i64 n] w (FmtNo w) := by
 have hmf : ∀ (fn : Fn) (first cap : Array Value) (w : World), (Instr.makeFunc fn first cap).run Tryz.prog w = .ok (.func fn first cap) w := fun _ _ _ _ => rfl
 have h1 := ((Sat.whole w).alloc (.cells #[.pointer none] 29 (0, 0))).alloc (.cells #[.int .i64 0] 25 (0, 0))
 have d1 := ((Side.refl w).alloc (.cells #[.pointer none] 29 (0, 0))).alloc (.cells #[.int .i64 0] 25 (0, 0))
 rw [World.size_alloc] at h1
 have Hs := SL.hid hs; have Hg := SL.hid hg; have H := SL.hid h
 clear h hs hg
 go_enter_defers Tryz.func14, Tryz.ntmps14
 go_wp2_with fail
 generalize (w.alloc (.cells #[.pointer none] 29 (0, 0))).alloc (.cells #[.int .i64 0] 25 (0, 0)) = w1 at h1 d1 ⊢
 generalize w.heap.size + 1 = eb at h1 ⊢
 generalize w.heap.size = ab at h1 ⊢
 have hsec := sectors_any w1 S d D _ (((h1.to (by ac_rfl : _ = (pt eb (.cells #[.int .i64 0] 25 (0, 0)) * pt ab (.cells #[.pointer none] 29 (0, 0))) * whole w)).under H.out).right)
 rw [Hs.out] at hsec
 have hwr : IntKind.i64.wrap (((P + 1 : Nat) : Int) - 1) = (P : Int) := by rw [IntKind.wrap_i64]; omega
 (with_reducible refine hsec.mono ?_)
 rintro e w2 ⟨rfl, rfl⟩
 have h2 := h1.alloc (.cells #[.int .i64 n, .int .i64 (P : Int)] 35 (0, 0))
 have d2 := d1.alloc (.cells #[.int .i64 n, .int .i64 (P : Int)] 35 (0, 0))
 clear hsec h1 d1
 go_wp2_with fail
 have hrt := gright_any (w1.alloc (.cells #[.int .i64 n, .int .i64 (P : Int)] 35 (0, 0))) n P
 unfold RightGQ geV at hrt
 rw [if_neg Hg.out] at hrt
 (with_reducible refine hrt.mono ?_)
 rintro e w3 ⟨rfl, h3, d3⟩
 have hno := fun w => must_no w 1 (by decide)
 have H3 := SL.hid (h3.keepW h2)
 have D3 := SL.hid (d2.trans d3)
 generalize w1.heap.size = gb at H3 ⊢
 clear hrt h2 d2 h3 d3
 go_wp2_with fail
 (with_reducible refine (hno _).mono ?_)
 rintro e w4 ⟨rfl, rfl⟩
 refine doorF_pan rfl rfl (H3.out.to (by ac_rfl : _ = pt ab (.cells #[.pointer none] 29 (0, 0)) * (pt eb (.cells #[.int .i64 0] 25 (0, 0)) * (pt gb (.cells #[.int .i64 n, .int .i64 (P : Int)] 35 (0, 0)) * whole w)))) fun w' h' d' => ?_
 exact ⟨rfl, h'.right, D3.out.trans d'⟩
end Go.Proofs.YtdafdidmbeecfaaGreatDoor.Su
end
section
namespace Go.Proofs.YtdafdidmbeecfaaGreatDoor.Su
set_option linter.unusedVariables false
set_option linter.unusedSimpArgs false
open Go.RowKit Go.SL Go.Proofs.YtdafdidmbeecfaaGreatDoor Go.Proofs.YtdafdidmbeecfaaGreatDoor.Ba Go.Proofs.YtdafdidmbeecfaaGreatDoor.Fs
set_option maxRecDepth 100000 in
set_option maxHeartbeats 1000000 in
theorem block11_any (n : Int) (w : World) : Calls Tryz.prog 31 #[.int .i64 n] w (BlockQ n w) := by
 have hmk : ∀ w, (Instr.makeSlice 22 (.int .i64 480) (.int .i64 480)).run Tryz.prog w =
  .ok (.slice (some ⟨w.heap.size, 0, none⟩) 480 480) (w.alloc (.cells (u8s (zs 480)) 5 (0, 0))) := Go.Proofs.YtdafdidmbeecfaaGreatDoor.make_bytes 480 (by omega)
 have h1 := (Sat.whole w).alloc (.cells (u8s (zs 480)) 5 (0, 0))
 have d1 := (Side.refl w).alloc (.cells (u8s (zs 480)) 5 (0, 0))
 go_enter Tryz.func31, Tryz.ntmps31
 go_wp2_with fail
 generalize w.alloc (.cells (u8s (zs 480)) 5 (0, 0)) = w1 at h1 d1 ⊢
 generalize w.heap.size = g at h1 ⊢
 clear hmk
 go_loopw [4] (fun u wr => BlockRel g n w u wr) (fun u _ => 480 - (intOf u).toNat)
 case atStart => exact ⟨0, Nat.zero_le _, rfl, h1, d1⟩
 case round =>
  clear h1 d1
  obtain ⟨k, hk, rfl, hsat, hside⟩ := hrel
  have hk' : (k : Int) ≤ 480 := by omega
  by_cases hlt : k < 480
  ·have hlt' : (k : Int) < 480 := by omega
   have hc : wr.cell? ⟨g, k, none⟩ = some (SL.u8 ((bjN n k).getD k 0)) := by
    rw [hsat.cell, get_u8s, List.getD, List.getElem?_eq_getElem (by rw [bjN_len n k hk]; exact hlt)]; rfl
   have hf := hsat.frozen k
   have h2 := hsat.setCell k (SL.u8 (UInt8.ofInt (n + (k : Int))))
   rw [set_u8s, bjN_set n k hlt] at h2
   have e : Value.int .u8 (IntKind.u8.wrap (wrap64 (n + (k : Int)))) = SL.u8 (UInt8.ofInt (n + (k : Int))) := by
    rw [u8_wrap]; congr 1; apply ofInt_congr; unfold wrap64; omega
   have e2 : Value.int .u8 (IntKind.u8.wrap (n + (k : Int))) = SL.u8 (UInt8.ofInt (n + (k : Int))) := u8_wrap _
   have H2 := SL.hid h2; have E := SL.hid e; have E2 := SL.hid e2
   clear hsat h2 e e2
   generalize SL.u8 ((bjN n k).getD k 0) = uu at hc
   go_wp2
   go_roundw
   case rel => exact ⟨k + 1, by omega, by go_num, by first | (rw [← E.out] at H2; exact H2.out) | (rw [← E2.out] at H2; exact H2.out), hside.setCell _ _⟩
   case measure => simp [intOf]; omega
  ·obtain rfl : k = 480 := by omega
   have e : bjN n 480 = bj n := by unfold bjN bj zs; simp
   rw [e] at hsat
   go_wp2
   go_ret
   exact ⟨g, rfl, hsat, hside⟩
def leastI (n : Int) : Int := if n < 4 ∨ 3840 < n then 0 else (5 * n + 241) / 2
theorem leastI_nat {n : Nat} (h0 : 4 ≤ n) (h1 : n ≤ 3840) : leastI (n : Int) = (((5 * n + 241) / 2 : Nat) : Int) := by
 unfold leastI
 rw [if_neg (by omega)]; omega
theorem least_any (w : World) (n : Int) : Calls Tryz.prog 13 #[.int .i64 n] w fun e w' => e = .returned (.int .i64 (leastI n)) ∧ w = w' := by
 go_enter Tryz.func13, Tryz.ntmps13
 by_cases h : n < 4
 ·have e : leastI n = 0 := by unfold leastI; rw [if_pos (.inl h)]
  rw [e]
  go_wp2
  go_ret
  exact ⟨rfl, rfl⟩
 ·by_cases h1 : 3840 < n
  ·have e : leastI n = 0 := by unfold leastI; rw [if_pos (.inr h1)]
   rw [e]
   go_wp2
   go_ret
   exact ⟨rfl, rfl⟩
  ·have e : leastI n = (5 * n + 241) / 2 := by unfold leastI; rw [if_neg (by omega)]
   have hw : IntKind.i64.wrap ((IntKind.i64.wrap (IntKind.i64.wrap (IntKind.i64.wrap (IntKind.i64.wrap (5 * n) + 240) + 2) - 1)).tdiv 2) = (5 * n + 241) / 2 := by
    have a1 : IntKind.i64.wrap (5 * n) = 5 * n := by rw [IntKind.wrap_i64]; omega
    have a2 : IntKind.i64.wrap (5 * n + 240) = 5 * n + 240 := by rw [IntKind.wrap_i64]; omega
    have a3 : IntKind.i64.wrap (5 * n + 240 + 2) = 5 * n + 242 := by rw [IntKind.wrap_i64]; omega
    have a4 : IntKind.i64.wrap (5 * n + 242 - 1) = 5 * n + 241 := by rw [IntKind.wrap_i64]; omega
    rw [a1, a2, a3, a4, Int.tdiv_eq_ediv_of_nonneg (by omega), IntKind.wrap_i64]
    omega
   rw [e]
   go_wp2
   go_ret
   refine ⟨?_, rfl⟩
   rw [show 5 * n + 240 + 2 - 1 = 5 * n + 241 by omega]
   rfl
end Go.Proofs.YtdafdidmbeecfaaGreatDoor.Su
end

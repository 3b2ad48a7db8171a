/- Steps towards the statement StoreC. -/
import Derived.Test.YtdafdidmbeecfaaGreatDoorStoreCP16
import Derived.Test.YtdafdidmbeecfaaGreatDoorStoreCP35
import Derived.Test.YtdafdidmbeecfaaGreatDoorStoreCP30
import Derived.Test.YtdafdidmbeecfaaGreatDoorStoreCP29
import Derived.Test.YtdafdidmbeecfaaGreatDoorStoreCP6
import Derived.Test.YtdafdidmbeecfaaGreatDoorStoreCP13
import Derived.Deep.DeepCutAuto
import Derived.Deep.CutBlock
import Derived.Deep.CutRange
section
namespace Go.Proofs.YtdafdidmbeecfaaGreatDoor.Su
set_option linter.unusedVariables false
set_option linter.unusedSimpArgs false
open Go.RowKit Go.SL Go.Proofs.YtdafdidmbeecfaaGreatDoor Go.Proofs.YtdafdidmbeecfaaGreatDoor.Ba Go.Proofs.YtdafdidmbeecfaaGreatDoor.Fs
def flA (g d : Nat) : Assn := pt g (.cells #[.func (.func 41) #[ptV d] #[]] 65 (0, 0))
def RunFQ (S : Hp) (d : Nat) (R : Int × Dev) (F : Assn) (w : World) (e : Ending) (w' : World) : Prop :=
 (R.1 = 0 ∧ e = .returned (.tuple #[]) ∨ R.1 ≠ 0 ∧ e = .panicked (erP 2)) ∧ Sat w' (devA S d R.2 * F) ∧ Side w w'
theorem runF_any (w : World) (S : Hp) (d g : Nat) (D : Dev) (F : Assn) (h : Sat w (devA S d D * (flA g d * F))) (hD : D.Ok) :
  Calls Tryz.prog 40 #[.slice (some ⟨g, 0, none⟩) 1 1] w (RunFQ S d D.flush (flA g d * F) w) := by
 refine (run_any 1 (fun _ => (41, #[ptV d], #[])) (fun k w' => if k = 0 then Sat w' (devA S d D * (flA g d * F)) ∧ Side w w' else (Sat w' (devA S d D.flush.2 * (flA g d * F)) ∧ Side w w') ∧ D.flush.1 = 0) (fun w' => (Sat w' (devA S d D.flush.2 * (flA g d * F)) ∧ Side w w') ∧ D.flush.1 ≠ 0) g (by decide) ?_ ?_ w ⟨h, Side.refl w⟩).mono ?_
 ·intro i k w' hi hI hk
  obtain rfl : k = 0 := by omega
  have : ∃ D', Sat w' (devA S d D' * (flA g d * F)) := by
   cases i with
   | zero => have hI : Sat w' (devA S d D * (flA g d * F)) ∧ Side w w' := hI; exact ⟨_, hI.1⟩
   | succ i => have hI : (Sat w' (devA S d D.flush.2 * (flA g d * F)) ∧ Side w w') ∧ D.flush.1 = 0 := hI; exact ⟨_, hI.1.1⟩
  obtain ⟨D', h'⟩ := this
  exact h'.right.cell 0
 ·intro k hk
  obtain rfl : k = 0 := by omega
  refine ⟨fun args w => by simp [go_sem], fun w' hI => ?_⟩
  have hI : Sat w' (devA S d D * (flA g d * F)) ∧ Side w w' := hI
  refine (flush_any w' S d D _ hI.1 hD).mono ?_
  rintro e w2 ⟨rfl, h2, d2⟩
  refine ⟨_, rfl, ?_⟩
  by_cases h0 : D.flush.1 = 0
  ·exact .inl ⟨h0, ⟨h2, hI.2.trans d2⟩, h0⟩
  ·exact .inr ⟨h0, ⟨h2, hI.2.trans d2⟩, h0⟩
 ·rintro e w2 (⟨rfl, h2⟩ | ⟨rfl, h2⟩)
  ·have h2 : (Sat w2 (devA S d D.flush.2 * (flA g d * F)) ∧ Side w w2) ∧ D.flush.1 = 0 := h2
   exact ⟨.inl ⟨h2.2, rfl⟩, h2.1⟩
  ·exact ⟨.inr ⟨h2.2, rfl⟩, h2.1⟩
theorem commit1_any (w : World) (S : Hp) (j d : Nat) (J : Jr) (D : Dev) (F : Assn) (wb : Nat) (id : Int) (a : Option Addr) (c : Nat) (b : List UInt8) (h : Sat w (pt wb (.cells #[.int .i64 id, .slice a 480 c] 57 (0, 0)) * (bs 5 (.slice a 480 c) b * (jrA j d J * (devA S d D * (pool S * F))))))
  (hJ : J.Ok) (hN : J.Nums) (hD : D.Ok) (hb : b.length = 480) (h0 : 0 ≤ id) (h1 : id < J.n) :
  Calls Tryz.prog 19 #[ptV j, .slice (some ⟨wb, 0, none⟩) 1 1] w (CommitQ S j d (jcommit J D true [(id, b)]) (pt wb (.cells #[.int .i64 id, .slice a 480 c] 57 (0, 0)) * (bs 5 (.slice a 480 c) b * F)) w) := by
 refine jcommit_any w S j d J D _ (.slice (some ⟨wb, 0, none⟩) 1 1) [(id, .slice a 480 c, b)] (h.to (by ac_rfl)) hJ hN hD (by simp) ?_ true ⟨fun _ => ⟨by simp, by simp, fun k hk => ?_⟩, fun _ => rfl⟩
 ·intro S' X w' hE h'
  have h2 : Sat w' (pt wb (.cells #[.int .i64 id, .slice a 480 c] 57 (0, 0)) * (bs 5 (.slice a 480 c) b * (X * (pool S' * F)))) := h'.to (by ac_rfl)
  refine ⟨.inr ⟨wb, 0, 1, rfl, by simp, by unfold maxLen; omega, fun k hk => ?_⟩, fun z hz => ?_⟩
  ·have hk : k < 1 := hk
   obtain rfl : k = 0 := by omega
   exact ⟨h2.cell 0, h2.cell 1⟩
  ·obtain rfl : z = (id, .slice a 480 c, b) := by simpa using hz
   exact (h2.front2).bsRd
 ·have hk : k < 1 := hk
  obtain rfl : k = 0 := by omega
  exact ⟨h0, h1, hb, by simp⟩
def MtBad (S : Hp) (d : Nat) (E : Dev) (K : List Int) (c : Int) (F : Assn) (w : World) (e : Ending) (w' : World) : Prop :=
 ∃ S', Ext S S' ∧ e = .returned (.tuple #[.pointer none, .int .i64 c]) ∧ Sat w' (devA S' d (E.crash K) * (pool S' * F)) ∧ Side w w'
structure MtOk (n P B : Nat) (Sp : List UInt8) (J : Jr) (D : Dev) (has : Has) (o : Ar) (J' : Jr) (D' : Dev) (has' : Has) (o' : Ar) : Prop where
 sj : Sj n P (B + 2) Sp J' D' has'
 same : SameH has' has
 sq : J'.sq = J.sq + 1
 dry : D'.wait = []
 sec : D'.sec.length = D.sec.length
 cr : ∃ k, k ≤ P + 4 ∧ D'.cr = addN D.cr k
 cw : ∃ k, k ≤ 3 ∧ D'.cw = addN D.cw k
 cf : D'.cf = addN D.cf 3
 ar : ArTo o o'
def MtGood (S : Hp) (d n P B : Nat) (Sp : List UInt8) (J : Jr) (D : Dev) (has : Has) (o : Ar) (F : Assn) (w : World) (e : Ending) (w' : World) : Prop :=
 ∃ s j S' J' D' has' o', Ext S S' ∧ e = .returned (.tuple #[ptV s, .int .i64 0]) ∧ Sat w' (stoA s j d n P J' * (devA S' d (D'.wth o') * (pool S' * F))) ∧ Side w w' ∧ MtOk n P B Sp J D has o J' D' has' o'
def MountQ (S : Hp) (d n P B : Nat) (Sp : List UInt8) (J : Jr) (D : Dev) (has : Has) (o : Ar) (F : Assn) (w : World) (e : Ending) (w' : World) : Prop :=
 (∃ E, o ≠ none ∧ E.sec.length = D.sec.length ∧ (arHit o ∧ E = D ∨ Still n P (B + 2) Sp (Dev.again E (arK o)) has) ∧ MtBad S d E (arK o) 2 F w e w') ∨ MtGood S d n P B Sp J D has o F w e w'
set_option maxRecDepth 100000 in
set_option maxHeartbeats 4000000 in
theorem mount_any (w : World) (S : Hp) (d n P B : Nat) (J : Jr) (D : Dev) (has : Has) (o : Ar) (F : Assn) (h : Sat w (devA S d (D.wth o) * (pool S * F))) (hM : Mnt n P B (superE n P) J D has) (hB : B ≤ 999990) (hg : geoOk n P = true) (hs : D.sec.length = P + 1) (ho : arOk o)
  (hh : ∀ w' X, Sat w' (X * F) → Half w') : Calls Tryz.prog 12 #[ptV d] w (MountQ S d n P B (superE n P) J D has o F w) := by
 have hmf : ∀ (fn : Fn) (first cap : Array Value) (w : World), (Instr.makeFunc fn first cap).run Tryz.prog w = .ok (.func fn first cap) w := fun _ _ _ _ => rfl
 have h1 := ((h.alloc (.cells #[.pointer none] 29 (0, 0))).alloc (.cells #[.int .i64 0] 25 (0, 0))).alloc (.cells #[.func (.func 41) #[ptV d] #[]] 65 (0, 0))
 have d1 := (((Side.refl w).alloc (.cells #[.pointer none] 29 (0, 0))).alloc (.cells #[.int .i64 0] 25 (0, 0))).alloc (.cells #[.func (.func 41) #[ptV d] #[]] 65 (0, 0))
 rw [World.size_alloc, World.size_alloc] at h1
 have HM := SL.hid hM; have Hs := SL.hid hs; have Hg := SL.hid hg; have HB := SL.hid hB; have Ho := SL.hid ho; have Hh := SL.hid hh
 have hok : (D.wth o).Ok := wth_ok hM.told.inv.dok ho
 have hfl := flush_armedD hM.told.inv ho
 clear h hM hB hg hs ho hh
 go_enter_defers Tryz.func12, Tryz.ntmps12
 go_wp2_with fail
 generalize ((w.alloc (.cells #[.pointer none] 29 (0, 0))).alloc (.cells #[.int .i64 0] 25 (0, 0))).alloc (.cells #[.func (.func 41) #[ptV d] #[]] 65 (0, 0)) = w1 at h1 d1 ⊢
 generalize w.heap.size + 1 + 1 = fb at h1 ⊢
 generalize w.heap.size + 1 = eb at h1 ⊢
 generalize w.heap.size = ab at h1 ⊢
 have hrun := runF_any w1 S d fb (D.wth o) (pt eb (.cells #[.int .i64 0] 25 (0, 0)) * (pt ab (.cells #[.pointer none] 29 (0, 0)) * (pool S * F))) (h1.to (by unfold flA; ac_rfl)) hok
 clear h1 hok
 rcases hfl with ⟨hh0, hfl⟩ | ⟨hh0, hfl⟩
 case inr =>
  rw [hfl] at hrun
  (with_reducible refine hrun.mono ?_)
  rintro e w2 ⟨hc, h2, d2⟩
  rcases hc with ⟨hc, _⟩ | ⟨_, rfl⟩
  ·exact absurd hc (show ¬ (2 : Int) = 0 by decide)
  ·refine doorM_pan rfl rfl (h2.to (by ac_rfl : _ = pt ab (.cells #[.pointer none] 29 (0, 0)) * (pt eb (.cells #[.int .i64 0] 25 (0, 0)) * (flA fb d * (devA S d (D.crash (arK o)) * (pool S * F)))))) fun w' h' d' => ?_
   exact .inl ⟨D, arHit_ne hh0, rfl, .inl ⟨hh0, rfl⟩, S, Ext.refl S, rfl, h'.right, (d1.trans d2).trans d'⟩
 rw [hfl] at hrun
 have hM1 : Mnt n P B (superE n P) J D.flushed has := HM.out.flushed
 have hcr1 : D.flushed.cr = D.cr := (flushed_counts D).1
 have hcw1 : D.flushed.cw = D.cw := (flushed_counts D).2.1
 have hcf1 : D.flushed.cf = i64w (D.cf + 1) := (flushed_counts D).2.2.1
 have hs1 : D.flushed.sec.length = P + 1 := (flushed_counts D).2.2.2.trans Hs.out
 have hw1 : D.flushed.wait = [] := rfl
 obtain ⟨o1, ho1⟩ : ∃ o1, o1 = arDec o := ⟨_, rfl⟩
 have hA1 : ArTo o o1 := by rw [ho1]; exact ArTo.dec Ho.out
 rw [← ho1] at hrun
 generalize D.flushed = D1 at hrun hM1 hcr1 hcw1 hcf1 hs1 hw1
 clear hfl ho1
 (with_reducible refine hrun.mono ?_)
 rintro e w2 ⟨hc, h2, d2⟩
 rcases hc with ⟨_, rfl⟩ | ⟨hc, _⟩
 case inr => exact absurd rfl hc
 have H2 : Sat w2 (devA S d (D1.wth o1) * (pool S * (pt ab (.cells #[.pointer none] 29 (0, 0)) * (pt eb (.cells #[.int .i64 0] 25 (0, 0)) * (flA fb d * F))))) := h2.to (by ac_rfl)
 have D2 := d1.trans d2
 clear hrun h2 d1 d2
 have hok1 : (D1.wth o1).Ok := wth_ok hM1.told.inv.dok hA1.ok
 have hhas : D1.has 0 := ⟨Int.le_refl _, by rw [hs1]; omega⟩
 have hcalm := hM1.told.inv.calm
 obtain ⟨G, hG⟩ : ∃ G, G = pt ab (.cells #[.pointer none] 29 (0, 0)) * (pt eb (.cells #[.int .i64 0] 25 (0, 0)) * (flA fb d * F)) := ⟨_, rfl⟩
 rw [← hG] at H2
 have hhF : ∀ (E : Dev) w' X, Sat w' (X * (devA S d E * (pool S * G))) → Half w' := fun E w' X h' => Hh.out w' (X * (devA S d E * (pool S * (pt ab (.cells #[.pointer none] 29 (0, 0)) * (pt eb (.cells #[.int .i64 0] 25 (0, 0)) * flA fb d))))) (h'.to (by rw [hG]; ac_rfl))
 have hgG := geoOk_iff.1 Hg.out
 have hK1 := hA1.K
 have fail2 : ∀ (w3 : World) (E : Dev) (S' : Hp) (X : Assn) (tm : Array Value), tm[2]? = some (ptV ab) → tm[3]? = some (ptV eb) → Ext S S' → Sat w3 (X * (devA S' d (E.crash (arK o)) * (pool S' * G))) → Side w w3 → Still n P (B + 2) (superE n P) (Dev.again E (arK o)) has → o ≠ none → E.sec.length = D.sec.length →
   bodyPostD Tryz.prog Tryz.f12 (MountQ S d n P B (superE n P) J D has o F w) (Exit.panic (erP 2)) { tmps := tm, defers := [{ target := .fn (.func 38) #[.pointer (some ⟨ab, 0, none⟩), .pointer (some ⟨eb, 0, none⟩)], args := #[] }] } w3 := by
  intro w3 E S' X tm t2 t3 hE h3 d3 hst hne hse
  refine doorM_pan t2 t3 (h3.to (by rw [hG]; ac_rfl : _ = pt ab (.cells #[.pointer none] 29 (0, 0)) * (pt eb (.cells #[.int .i64 0] 25 (0, 0)) * ((X * flA fb d) * (devA S' d (E.crash (arK o)) * (pool S' * F)))))) fun w' h' d' => ?_
  exact .inl ⟨E, hne, hse, .inr hst, S', hE, rfl, h'.right, d3.trans d'⟩
 have Fail2 := SL.hid fail2
 clear fail2
 have hgq := geometry_any w2 S d (D1.wth o1) G H2 hok1 (hhF _)
 rcases (by by_cases hh : arHit o1; exact .inr ⟨hh, wth_read_hit hcalm hh hhas⟩; exact .inl ⟨hh, wth_read_go hcalm hA1.ok hh hhas⟩ : (¬ arHit o1 ∧ (D1.wth o1).read 0 = (D1.tells 0, ({ D1 with cr := i64w (D1.cr + 1) } : Dev).wth (arDec o1))) ∨ (arHit o1 ∧ (D1.wth o1).read 0 = ((2, []), D1.crash (arK o1)))) with ⟨hh1, hrd⟩ | ⟨hh1, hrd⟩
 case inr =>
  rw [hrd] at hgq
  have hq := hgq (fun e => absurd e (show ¬ (2 : Int) = 0 by decide)) (by rw [wth_sec]; exact (crash_okS hM1.told.inv.dok _).2) (by rw [wth_sec, hs1]; omega)
  have hst : Still n P (B + 2) (superE n P) (Dev.again D1 (arK o)) has := (hM1.dry hw1).still.more (by omega)
  have hne : o ≠ none := fun e => arHit_ne hh1 (hA1.none e)
  clear hgq
  go_wp2_with fail
  (with_reducible refine hq.mono ?_)
  rintro e w3 ⟨⟨h3, d3⟩, _, hp, _⟩
  obtain rfl := hp (show ¬ (2 : Int) = 0 by decide) (show ¬ (2 : Int) = 3 by decide)
  rw [hK1] at h3
  exact Fail2.out _ _ _ _ _ rfl rfl (Ext.refl S) (h3.to (emp_star _).symm) (D2.trans d3) hst hne (hs1.trans Hs.out.symm)
 rw [hrd, hM1.sup] at hgq
 have hq := hgq (fun _ => superE_length n P) (by rw [wth_sec, wth_sec]) (by rw [wth_sec, hs1]; omega)
 have hM2 : Mnt n P B (superE n P) J ({ D1 with cr := i64w (D1.cr + 1) } : Dev) has := hM1.cr _
 have hcr2 : ({ D1 with cr := i64w (D1.cr + 1) } : Dev).cr = addN D.cr 1 := by show i64w (D1.cr + 1) = _; rw [hcr1]; rfl
 have hcw2 : ({ D1 with cr := i64w (D1.cr + 1) } : Dev).cw = D.cw := hcw1
 have hcf2 : ({ D1 with cr := i64w (D1.cr + 1) } : Dev).cf = i64w (D.cf + 1) := hcf1
 have hs2 : ({ D1 with cr := i64w (D1.cr + 1) } : Dev).sec.length = P + 1 := hs1
 have hw2 : ({ D1 with cr := i64w (D1.cr + 1) } : Dev).wait = [] := hw1
 have hA2 : ArTo o (arDec o1) := hA1.trans (ArTo.dec hA1.ok)
 generalize arDec o1 = o2 at hq hA2
 generalize ({ D1 with cr := i64w (D1.cr + 1) } : Dev) = E2 at hq hM2 hcr2 hcw2 hcf2 hs2 hw2
 rw [wth_sec, hs1] at hq
 clear hgq hrd hh1 hcr1 hcw1 hcf1 hs1 hw1 hA1 hok1 hhas hcalm H2 hK1 hM1 hhF
 go_wp2_with fail
 (with_reducible refine hq.mono ?_)
 rintro e w3 ⟨⟨h3, d3⟩, _, _, hp, _⟩
 obtain rfl := hp rfl _ _ (superD_E Hg.out) (by omega)
 have H3 : Sat w3 (devA S d (E2.wth o2) * (pool S * G)) := h3
 have D3 := D2.trans d3
 clear hq h3 d3 hp D2
 unfold geV
 go_wp2_with fail
 have h4 := H3.alloc (.cells #[.int .i64 (n : Int), .int .i64 (P : Int)] 35 (0, 0))
 have D4 := D3.alloc (.cells #[.int .i64 (n : Int), .int .i64 (P : Int)] 35 (0, 0))
 clear H3 D3
 generalize w3.alloc (.cells #[.int .i64 (n : Int), .int .i64 (P : Int)] 35 (0, 0)) = w4 at h4 D4 ⊢
 generalize w3.heap.size = gb at h4 ⊢
 have H4 : Sat w4 (devA S d (E2.wth o2) * (pool S * (pt gb (.cells #[.int .i64 (n : Int), .int .i64 (P : Int)] 35 (0, 0)) * G))) := h4.to (by ac_rfl)
 clear h4
 have hok2 : (E2.wth o2).Ok := wth_ok hM2.told.inv.dok hA2.ok
 have hsc := scan_any w4 S d (E2.wth o2) (P : Int) (n : Int) _ H4 hok2
 have hseen : scanSt (fndsN (n : Int) E2 P) P n = some (Jr.js (J.seen (epoI (fndsN (n : Int) E2 P) + 1) (usSeen n J))) := by
  have hjP := hM2.jP
  have hepo := hM2.epo
  have := scan_told hM2.told (by have := hM2.sq; have := HB.out; omega) (by rw [hjP]; have := HB.out; omega)
  rw [hjP] at this
  exact this
 have hop := hM2.opened (by omega) (by have := HB.out; omega)
 unfold Jr.opened at hop
 rw [hM2.jP] at hop
 have hsr : (Jr.js (J.seen (epoI (fndsN (n : Int) E2 P) + 1) (usSeen n J))).Right P := by
  have hepo := hM2.epo
  have := state_right (seen_inv (ep := epoI (fndsN (n : Int) E2 P) + 1) hM2.told (by omega) (by have := HB.out; omega)) (by show 1 ≤ J.n; rw [hM2.told.jn]; omega)
  have e : (J.seen (epoI (fndsN (n : Int) E2 P) + 1) (usSeen n J)).P = J.P := rfl
  rw [e, hM2.jP] at this
  exact this
 have hsq0 : 0 ≤ (Jr.js (J.seen (epoI (fndsN (n : Int) E2 P) + 1) (usSeen n J))).sq := hM2.told.inv.nums.sq0
 have hsqJ : (Jr.ofS P (Jr.js (J.seen (epoI (fndsN (n : Int) E2 P) + 1) (usSeen n J)))).sq = J.sq := rfl
 have har := scanR_armed hM2.told.inv.calm (P := P) (Bn := n) (by omega) (by rw [hs2]; omega) (by omega) (by omega) _ hseen hA2.ok
 generalize Jr.js (J.seen (epoI (fndsN (n : Int) E2 P) + 1) (usSeen n J)) = st at hop hsr hsq0 hsqJ har
 clear hseen hok2 H4
 rcases har with ⟨o3, x1, x2, x3, hR⟩ | ⟨r, hne, hR⟩
 case inr =>
  rw [hR] at hsc
  have hst : Still n P (B + 2) (superE n P) (Dev.again ({ E2 with cr := r } : Dev) (arK o)) has := ((hM2.cr r).dry hw2).still.more (by omega)
  have hne' : o ≠ none := fun e => hne (hA2.none e)
  rw [hA2.K] at hsc
  go_wp2_with fail
  (with_reducible refine hsc.mono ?_)
  rintro e w5 ⟨v, rfl, h5, d5⟩
  obtain ⟨rfl, h5'⟩ := stNone h5
  have H6 := SL.hid (h5'.alloc (.cells #[.int .u32 0, .int .u64 0, .int .u64 0, .int .i64 0, .int .i64 0, .slice none 0 0] 86 (0, 0)))
  have D6 := SL.hid ((D4.trans d5).alloc (.cells #[.int .u32 0, .int .u64 0, .int .u64 0, .int .i64 0, .int .i64 0, .slice none 0 0] 86 (0, 0)))
  have hno := fun w => must_no w 2 (by decide)
  unfold noSt
  clear hsc h5 h5' d5 D4
  go_wp2_with fail
  (with_reducible refine (hno _).mono ?_)
  rintro e w7 ⟨rfl, rfl⟩
  exact Fail2.out _ _ _ _ _ rfl rfl (Ext.refl S) (H6.out.to (by ac_rfl : _ = (pt w5.heap.size (.cells #[.int .u32 0, .int .u64 0, .int .u64 0, .int .i64 0, .int .i64 0, .slice none 0 0] 86 (0, 0)) * pt gb (.cells #[.int .i64 (n : Int), .int .i64 (P : Int)] 35 (0, 0))) * (devA S d (Dev.crash { E2 with cr := r } (arK o)) * (pool S * G)))) D6.out hst hne' (hs2.trans Hs.out.symm)
 rw [hR] at hsc
 have hM3 : Sj n P (B + 1) (superE n P) (Jr.ofS P st) ({ E2 with cr := addN E2.cr P } : Dev) has := hop.cr _
 have hcr3 : ({ E2 with cr := addN E2.cr P } : Dev).cr = addN D.cr (P + 1) := by show addN E2.cr P = _; rw [hcr2]; exact addN_one D.cr P
 have hcw3 : ({ E2 with cr := addN E2.cr P } : Dev).cw = D.cw := hcw2
 have hcf3 : ({ E2 with cr := addN E2.cr P } : Dev).cf = i64w (D.cf + 1) := hcf2
 have hs3 : ({ E2 with cr := addN E2.cr P } : Dev).sec.length = P + 1 := hs2
 have hw3 : ({ E2 with cr := addN E2.cr P } : Dev).wait = [] := hw2
 have hA3 : ArTo o o3 := hA2.trans ⟨x1, x2, x3⟩
 generalize ({ E2 with cr := addN E2.cr P } : Dev) = E3 at hsc hM3 hcr3 hcw3 hcf3 hs3 hw3
 clear hR hcr2 hcw2 hcf2 hs2 hw2 hA2 hM2 hop x1 x2 x3
 go_wp2_with fail
 (with_reducible refine hsc.mono ?_)
 rintro e w5 ⟨v, rfl, h5, d5⟩
 obtain ⟨ag, rfl, h5'⟩ := stSome h5
 have h6 := h5'.alloc (.cells #[.int .u32 st.ep, .int .u64 st.st, .int .u64 st.sq, .int .i64 st.hd, .int .i64 st.us, .slice (some ⟨ag, 0, none⟩) st.at_.length st.at_.length] 86 (0, 0))
 have D6 := (D4.trans d5).alloc (.cells #[.int .u32 st.ep, .int .u64 st.st, .int .u64 st.sq, .int .i64 st.hd, .int .i64 st.us, .slice (some ⟨ag, 0, none⟩) st.at_.length st.at_.length] 86 (0, 0))
 have H6 := SL.hid h6; have HD6 := SL.hid D6
 have hyes := fun w => must_yes w
 unfold Js.v
 clear hsc h5 h5' d5 D4 h6 D6
 go_wp2_with fail
 generalize w5.alloc (.cells #[.int .u32 st.ep, .int .u64 st.st, .int .u64 st.sq, .int .i64 st.hd, .int .i64 st.us, .slice (some ⟨ag, 0, none⟩) st.at_.length st.at_.length] 86 (0, 0)) = w6 at H6 HD6 ⊢
 generalize w5.heap.size = sb at H6 ⊢
 (with_reducible refine (hyes _).mono ?_)
 rintro e w7 ⟨rfl, rfl⟩
 clear hyes
 have h6 := H6.out
 have h6g : Sat w6 (pt gb (.cells #[.int .i64 (n : Int), .int .i64 (P : Int)] 35 (0, 0)) * (pt sb (.cells #[.int .u32 st.ep, .int .u64 st.st, .int .u64 st.sq, .int .i64 st.hd, .int .i64 st.us, .slice (some ⟨ag, 0, none⟩) st.at_.length st.at_.length] 86 (0, 0)) * (pt ag (.cells (ints st.at_) 3 (0, 0)) * (devA S d (E3.wth o3) * (pool S * G))))) := h6.to (by ac_rfl)
 have h6a : Sat w6 (pt ag (.cells (ints st.at_) 3 (0, 0)) * (pt gb (.cells #[.int .i64 (n : Int), .int .i64 (P : Int)] 35 (0, 0)) * (pt sb (.cells #[.int .u32 st.ep, .int .u64 st.st, .int .u64 st.sq, .int .i64 st.hd, .int .i64 st.us, .slice (some ⟨ag, 0, none⟩) st.at_.length st.at_.length] 86 (0, 0)) * (devA S d (E3.wth o3) * (pool S * G))))) := h6.to (by ac_rfl)
 have h6d : Sat w6 (devA S d (E3.wth o3) * (pt gb (.cells #[.int .i64 (n : Int), .int .i64 (P : Int)] 35 (0, 0)) * (pt sb (.cells #[.int .u32 st.ep, .int .u64 st.st, .int .u64 st.sq, .int .i64 st.hd, .int .i64 st.us, .slice (some ⟨ag, 0, none⟩) st.at_.length st.at_.length] 86 (0, 0)) * (pt ag (.cells (ints st.at_) 3 (0, 0)) * (pool S * G))))) := h6.to (by ac_rfl)
 have g0 : w6.cell? ⟨gb, 0, none⟩ = some (.int .i64 (n : Int)) := h6g.cell 0
 have g1 : w6.cell? ⟨gb, 1, none⟩ = some (.int .i64 (P : Int)) := h6g.cell 1
 have s0 : w6.cell? ⟨sb, 0, none⟩ = some (.int .u32 st.ep) := h6.cell 0
 have s1 : w6.cell? ⟨sb, 1, none⟩ = some (.int .u64 st.st) := h6.cell 1
 have s2 : w6.cell? ⟨sb, 2, none⟩ = some (.int .u64 st.sq) := h6.cell 2
 have s3 : w6.cell? ⟨sb, 3, none⟩ = some (.int .i64 st.hd) := h6.cell 3
 have s4 : w6.cell? ⟨sb, 4, none⟩ = some (.int .i64 st.us) := h6.cell 4
 have s5 : w6.cell? ⟨sb, 5, none⟩ = some (.slice (some ⟨ag, 0, none⟩) st.at_.length st.at_.length) := h6.cell 5
 have hopn : Calls Tryz.prog 45 #[ptV d, .agg #[.int .i64 (n : Int), .int .i64 (P : Int)], .agg #[.int .u32 st.ep, .int .u64 st.st, .int .u64 st.sq, .int .i64 st.hd, .int .i64 st.us, .slice (some ⟨ag, 0, none⟩) st.at_.length st.at_.length]] w6 (OpenQ d n P (Jr.ofS P st) w6) := by
  refine open_any w6 S d (E3.wth o3) _ h6d n P st (.slice (some ⟨ag, 0, none⟩) st.at_.length st.at_.length) (.inr ⟨ag, 0, st.at_.length, rfl, Nat.le_refl _, ?_, fun k hk => ?_⟩) (by omega) (by omega) (by rw [wth_sec, hs3]; omega) (by rw [wth_sec, hs3]; omega) hsq0 hsr (by omega)
  ·have := hsr.n1; unfold maxLen; omega
  ·rw [Nat.zero_add, h6a.cell]; exact (by simp [ints, List.getD, hk])
 clear h6 h6g h6a h6d
 go_wp2_with fail
 (with_reducible refine hopn.mono ?_)
 rintro e w7 ⟨s, j, rfl, h7, d7⟩
 have H7 : Sat w7 (jrA j d (Jr.ofS P st) * (devA S d (E3.wth o3) * (pool S * (pt s (.cells #[ptV j, .int .i64 (n : Int), .int .i64 (P : Int)] 42 (0, 0)) * G)))) := (h7.under H6.out |> fun h => (h.to (by unfold stoA; ac_rfl : _ = (pt sb (.cells #[.int .u32 st.ep, .int .u64 st.st, .int .u64 st.sq, .int .i64 st.hd, .int .i64 st.us, .slice (some ⟨ag, 0, none⟩) st.at_.length st.at_.length] 86 (0, 0)) * (pt gb (.cells #[.int .i64 (n : Int), .int .i64 (P : Int)] 35 (0, 0)) * pt ag (.cells (ints st.at_) 3 (0, 0)))) * (jrA j d (Jr.ofS P st) * (devA S d (E3.wth o3) * (pool S * (pt s (.cells #[ptV j, .int .i64 (n : Int), .int .i64 (P : Int)] 42 (0, 0)) * G)))))).right)
 have D7 := HD6.out.trans d7
 have c0 : w7.cell? ⟨s, 0, none⟩ = some (ptV j) := (H7.to (by ac_rfl : _ = pt s (.cells #[ptV j, .int .i64 (n : Int), .int .i64 (P : Int)] 42 (0, 0)) * (jrA j d (Jr.ofS P st) * (devA S d (E3.wth o3) * (pool S * G))))).cell 0
 clear hopn h7 d7 H6 HD6 g0 g1 s0 s1 s2 s3 s4 s5 hsr hsq0
 generalize Jr.ofS P st = J3 at hM3 hsqJ H7
 have hjr : Calls Tryz.prog 21 #[ptV j, .int .i64 0] w7 (LoadQ S j d (J3.read (E3.wth o3) 0) (pt s (.cells #[ptV j, .int .i64 (n : Int), .int .i64 (P : Int)] 42 (0, 0)) * G) w7) := jread_any w7 S j d J3 (E3.wth o3) 0 _ H7 hM3.jt.inv.ok (wth_ok hM3.jt.inv.dok hA3.ok)
 have hra := read_armed hM3.jt.inv hA3.ok (id := 0) (Int.le_refl _) (by rw [hM3.jt.jn]; omega)
 clear H7
 go_wp2_with fail
 (with_reducible refine hjr.mono ?_)
 rintro e w8 ⟨dv, rfl, h8, d8⟩
 clear hjr
 rcases hra with ⟨o4, r, hA34, hr4, hR⟩ | ⟨J', hh3, hR, _⟩
 case inr =>
  rw [hR] at h8
  have hst : Still n P (B + 2) (superE n P) (Dev.again E3 (arK o)) has := (hM3.mnt.dry hw3).still.more (by omega)
  have hne : o ≠ none := fun e => arHit_ne hh3 (hA3.none e)
  rw [hA3.K] at h8
  have H8 := SL.hid h8; have D8 := SL.hid (D7.trans d8)
  have hno := fun w => must_no w 2 (by decide)
  clear h8 D7 d8
  rw [hR]
  clear hR
  go_wp2_with fail
  (with_reducible refine (hno _).mono ?_)
  rintro e w9 ⟨rfl, rfl⟩
  exact Fail2.out _ _ _ _ _ rfl rfl (Ext.refl S) (H8.out.to (by ac_rfl : _ = (ansA 5 (2, []) dv * (jrA j d J' * pt s (.cells #[ptV j, .int .i64 (n : Int), .int .i64 (P : Int)] 42 (0, 0)))) * (devA S d (E3.crash (arK o)) * (pool S * G)))) D8.out hst hne (hs3.trans Hs.out.symm)
 rw [hR] at h8
 rw [hR]
 clear hR
 have h8' := h8.ansYes
 obtain ⟨va, vc, rfl⟩ := h8'.bsRd.shape
 have hb480 := rdH_len hM3.jt.inv 0
 rw [hb480] at h8' ⊢
 have hM4 : Sj n P (B + 1) (superE n P) J3 ({ E3 with cr := r } : Dev) has := hM3.cr r
 have hcr4 : ∃ k, k ≤ P + 2 ∧ ({ E3 with cr := r } : Dev).cr = addN D.cr k := by
  rcases hr4 with e | e
  ·exact ⟨P + 1, by omega, by show r = _; rw [e, hcr3]⟩
  ·exact ⟨P + 2, by omega, by show r = _; rw [e, hcr3]; rfl⟩
 have hcw4 : ({ E3 with cr := r } : Dev).cw = D.cw := hcw3
 have hcf4 : ({ E3 with cr := r } : Dev).cf = i64w (D.cf + 1) := hcf3
 have hs4 : ({ E3 with cr := r } : Dev).sec.length = P + 1 := hs3
 have hw4 : ({ E3 with cr := r } : Dev).wait = [] := hw3
 have hA4 : ArTo o o4 := hA3.trans hA34
 generalize ({ E3 with cr := r } : Dev) = E4 at h8' hM4 hcr4 hcw4 hcf4 hs4 hw4
 have D8 := D7.trans d8
 clear h8 d8 D7 hr4 hA34 hcr3 hcw3 hcf3 hs3 hw3 hA3 hM3
 have c0 : w8.cell? ⟨s, 0, none⟩ = some (ptV j) := (h8'.to (by ac_rfl : _ = pt s (.cells #[ptV j, .int .i64 (n : Int), .int .i64 (P : Int)] 42 (0, 0)) * (bs 5 (.slice va 480 vc) (rdH has 0) * (jrA j d J3 * (devA S d (E4.wth o4) * (pool S * G)))))).cell 0
 have hyes := fun w => must_yes w
 have H8 := SL.hid h8'
 clear h8'
 go_wp2_with fail
 (with_reducible refine (hyes _).mono ?_)
 rintro e w9 ⟨rfl, rfl⟩
 have h9 := H8.out.alloc (.cells #[.int .i64 0, .slice va 480 vc] 57 (0, 0))
 have D9 := D8.alloc (.cells #[.int .i64 0, .slice va 480 vc] 57 (0, 0))
 have hcm := commit1_any _ S j d J3 (E4.wth o4) _ _ 0 va vc (rdH has 0) h9 hM4.jt.inv.ok hM4.jt.inv.nums (wth_ok hM4.jt.inv.dok hA4.ok) hb480 (Int.le_refl _) (by rw [hM4.jt.jn]; omega)
 have hL : [((0 : Int), rdH has 0)] = w0 has := rfl
 rw [hL] at hcm
 clear h9 D8 hyes H8 hL
 have hbt := w0_batch hM4.jt.inv (n := n) (by omega)
 have hP2 : 5 * n + 240 ≤ 2 * P := by omega
 have hB1 : B + 1 ≤ 1000000 := by have := HB.out; omega
 have hcA := hM4.commitA hP2 hB1 hbt hA4.ok
 have hcS := (hM4.commit hP2 hB1 hbt).2
 go_wp2_with fail
 generalize w8.alloc (.cells #[.int .i64 0, .slice va 480 vc] 57 (0, 0)) = w10 at hcm D9 ⊢
 generalize w8.heap.size = wb at hcm ⊢
 (with_reducible refine hcm.mono ?_)
 rintro e w11 ⟨S', hE, rfl, h11, d11⟩
 clear hcm
 rcases hcA with ⟨o5, x1, x2, x3, hR⟩ | ⟨E, J', hne4, hmid, hR, _⟩
 case inr =>
  rw [hR] at h11
  rw [hA4.K] at h11
  have hst : Still n P (B + 2) (superE n P) (Dev.again E (arK o)) has := by
   rcases hmid with rfl | ⟨m, hm⟩
   ·exact (hM4.mnt.dry hw4).still.more (by omega)
   ·exact still_mid hm hM4 hP2 hB1 (by omega)
  have hse : E.sec.length = D.sec.length := by
   rcases hmid with rfl | ⟨m, hm⟩
   ·exact hs4.trans Hs.out.symm
   ·rw [hm.sec, (flushed_counts E4).2.2.2]; exact hs4.trans Hs.out.symm
  have hne : o ≠ none := fun e => hne4 (hA4.none e)
  have H11 := SL.hid h11; have D11 := SL.hid (D9.trans d11)
  have hno := fun w => must_no w 2 (by decide)
  clear h11 D9 d11
  rw [hR]
  clear hR
  go_wp2_with fail
  (with_reducible refine (hno _).mono ?_)
  rintro e w12 ⟨rfl, rfl⟩
  exact Fail2.out _ _ _ _ _ rfl rfl hE (H11.out.to (by ac_rfl : _ = (jrA j d J' * (pt wb (.cells #[.int .i64 0, .slice va 480 vc] 57 (0, 0)) * (bs 5 (.slice va 480 vc) (rdH has 0) * pt s (.cells #[ptV j, .int .i64 (n : Int), .int .i64 (P : Int)] 42 (0, 0))))) * (devA S' d (E.crash (arK o)) * (pool S' * G)))) D11.out hst hne hse
 rw [hR] at h11
 rw [hR]
 clear hR
 have hml := movB_len J3 has (w0 has) hM4.jt.inv.ok.us0
 have hlw : (w0 has).length = 1 := rfl
 have hcl : J3.cleaned (w0 has).length ≤ 2 := by unfold Jr.cleaned; rw [hlw]; omega
 have hmid := mid_devC J3 E4 has (w0 has)
 have hcr5 : ∃ k, k ≤ P + 4 ∧ (devC J3 E4 has (w0 has)).cr = addN D.cr k := by
  obtain ⟨k, hk, e⟩ := hcr4
  refine ⟨k + (movB J3 has (w0 has)).length, by omega, ?_⟩
  show addN E4.flushed.cr _ = _
  rw [(flushed_counts E4).1, e, addN_addS]
 have hcw5 : ∃ k, k ≤ 3 ∧ (devC J3 E4 has (w0 has)).cw = addN D.cw k := by
  refine ⟨(w0 has ++ movB J3 has (w0 has)).length, by rw [List.length_append]; omega, ?_⟩
  show addN E4.flushed.cw _ = _
  rw [(flushed_counts E4).2.1, hcw4]
 have hcf5 : (devC J3 E4 has (w0 has)).cf = addN D.cf 2 := by
  show E4.flushed.cf = _
  rw [(flushed_counts E4).2.2.1, hcf4]; rfl
 have hs5 : (devC J3 E4 has (w0 has)).sec.length = P + 1 := (flushed_counts E4).2.2.2.trans hs4
 have hA5 : ArTo o o5 := hA4.trans ⟨x1, x2, x3⟩
 have hstill : ∀ K, Still n P (B + 2) (superE n P) (Dev.again (devC J3 E4 has (w0 has)) K) has := fun K => still_mid hmid hM4 hP2 hB1 (by omega)
 have hsq5 : (J3.done (w0 has ++ movB J3 has (w0 has)) (J3.cleaned (w0 has).length)).sq = J.sq + 1 := by show J3.sq + 1 = _; rw [hsqJ]
 generalize J3.done (w0 has ++ movB J3 has (w0 has)) (J3.cleaned (w0 has).length) = J5 at h11 hcS hsq5
 generalize devC J3 E4 has (w0 has) = E5 at h11 hcS hcr5 hcw5 hcf5 hs5 hstill
 have H11 : Sat w11 (stoA s j d n P J5 * (devA S' d (E5.wth o5) * (pool S' * (pt wb (.cells #[.int .i64 0, .slice va 480 vc] 57 (0, 0)) * (bs 5 (.slice va 480 vc) (rdH has 0) * G))))) := h11.to (by unfold stoA; ac_rfl)
 have D11 := D9.trans d11
 have hyes := fun w => must_yes w
 have hsy := sync_any w11 S' s j d n P J5 (E5.wth o5) _ H11 (wth_ok hcS.jt.inv.dok hA5.ok)
 have hfa := flush_armed hcS.jt.inv hA5.ok
 clear h11 D9 d11 H11 hmid hcr4 hcw4 hcf4 hs4 hA4 hM4 x1 x2 x3 hw4 hbt hml hlw hsqJ
 go_wp2_with fail
 (with_reducible refine (hyes _).mono ?_)
 rintro e w12 ⟨rfl, rfl⟩
 go_wp2_with fail
 (with_reducible refine hsy.mono ?_)
 rintro e w13 ⟨rfl, h13, d13⟩
 clear hsy
 rcases hfa with ⟨hh5, hR⟩ | ⟨hh5, hR⟩
 case inr =>
  rw [hR] at h13
  rw [hA5.K] at h13
  have hne : o ≠ none := fun e => arHit_ne hh5 (hA5.none e)
  have H13 := SL.hid h13; have D13 := SL.hid (D11.trans d13)
  have hno := fun w => must_no w 2 (by decide)
  clear h13 D11 d13 hyes
  rw [hR]
  clear hR
  go_wp2_with fail
  (with_reducible refine (hno _).mono ?_)
  rintro e w14 ⟨rfl, rfl⟩
  exact Fail2.out _ _ _ _ _ rfl rfl hE (H13.out.to (by ac_rfl : _ = (stoA s j d n P { J5 with br := true } * (pt wb (.cells #[.int .i64 0, .slice va 480 vc] 57 (0, 0)) * bs 5 (.slice va 480 vc) (rdH has 0))) * (devA S' d (E5.crash (arK o)) * (pool S' * G)))) D13.out (hstill _) hne (hs5.trans Hs.out.symm)
 rw [hR] at h13
 rw [hR]
 clear hR
 have D13 := D11.trans d13
 have hM6 : Sj n P (B + 2) (superE n P) J5 E5.flushed (updB has (w0 has)) := hcS.flushed
 have hcr6 : ∃ k, k ≤ P + 4 ∧ E5.flushed.cr = addN D.cr k := by rw [(flushed_counts E5).1]; exact hcr5
 have hcw6 : ∃ k, k ≤ 3 ∧ E5.flushed.cw = addN D.cw k := by rw [(flushed_counts E5).2.1]; exact hcw5
 have hcf6 : E5.flushed.cf = addN D.cf 3 := by rw [(flushed_counts E5).2.2.1, hcf5]; rfl
 have hs6 : E5.flushed.sec.length = D.sec.length := by rw [(flushed_counts E5).2.2.2, hs5, Hs.out]
 have hMt : MtOk n P B (superE n P) J D has o J5 E5.flushed (updB has (w0 has)) (arDec o5) := ⟨hM6, w0_same has, hsq5, rfl, hs6, hcr6, hcw6, hcf6, hA5.trans (ArTo.dec hA5.ok)⟩
 have HMt := SL.hid hMt
 have h13' : Sat w13 (pt ab (.cells #[.pointer none] 29 (0, 0)) * (pt eb (.cells #[.int .i64 0] 25 (0, 0)) * ((pt wb (.cells #[.int .i64 0, .slice va 480 vc] 57 (0, 0)) * (bs 5 (.slice va 480 vc) (rdH has 0) * flA fb d)) * (stoA s j d n P J5 * (devA S' d (E5.flushed.wth (arDec o5)) * (pool S' * F)))))) := h13.to (by rw [hG]; ac_rfl)
 have a0 := h13'.cell 0; have b0 := h13'.front2.cell 0
 have fa := h13'.frozen 0; have fb' := h13'.front2.frozen 0
 have hne : ab ≠ eb := Sat.ne h13'
 have HK := SL.hid ((h13'.setCell 0 (ptV s)).front2.setCell 0 (.int .i64 0))
 have HDK := SL.hid ((D13.setCell ⟨ab, 0, none⟩ (ptV s)).setCell ⟨eb, 0, none⟩ (.int .i64 0))
 clear h13 h13' D11 d13 D13 hMt hM6 hcr6 hcw6 hcf6 hs6 hcr5 hcw5 hcf5 hs5 hcS hstill hsq5 hA5
 go_wp2_with fail
 (with_reducible refine (hyes _).mono ?_)
 rintro e w14 ⟨rfl, rfl⟩
 clear hyes
 go_wp2_with fail
 exact doorM_ret rfl rfl (HK.out.front2.cell 0) (HK.out.cell 0) (.inr ⟨s, j, S', J5, _, _, _, hE, rfl, HK.out.right.right.right, HDK.out, HMt.out⟩)
end Go.Proofs.YtdafdidmbeecfaaGreatDoor.Su
end
section
namespace Go.Proofs.YtdafdidmbeecfaaGreatDoor
set_option linter.unusedVariables false
set_option linter.unusedSimpArgs false
open Go.RowKit Go.SL Go.Proofs.YtdafdidmbeecfaaGreatDoor.Su
def noH : Has := fun _ => none
def Zero (P : Nat) (D : Dev) : Prop := ∀ p : Nat, p < P → D.tells ((p : Int) + 1) = (0, zs 512)
section
variable {n P B : Nat} {D E : Dev} {K : List Int}
theorem zero_tells (h : Zero P D) : tellsT P D = fun _ => none := by
 funext p
 unfold tellsT
 split
 ·rename_i hc
  rw [h p hc.1, decodeF_zs]; rfl
 ·rfl
theorem truth_none (hP : 1 ≤ P) (hn : n ≤ P) : Truth n P (fun _ => none) 0 0 (fun _ => none) :=
 ⟨by omega, hn, Int.le_refl _, fun _ => rfl, fun p t _ h => (by cases h), fun p t _ h => (by cases h), fun id p h => (by cases h), fun h => absurd h (by decide), fun e => ⟨1, 0, by decide, by decide, fun p t _ h => (by cases h)⟩⟩
theorem zero_jt (hz : Zero P D) (hok : D.Ok) (hc : D.Calm) (hs : P + 1 ≤ D.sec.length) (hP : 1 ≤ P) (hP2 : P ≤ 19999) (h0 : 1 ≤ n) (h1 : n ≤ 3840) (hn : n ≤ P) : JT n (J0 P n) D noH := by
 have h := fresh_inv (P := P) (n := n) hP hP2 h0 h1
 refine ⟨⟨h.ok, h.nums, hok, h.br, hc, by show (P : Int) + 1 ≤ _; omega, h.con, h.rm, h.win, fun id p hp => ?_, h.non⟩, J0_n P n, ?_⟩
 ·rw [J0_T, (Tb.fresh_told n P id).1] at hp; cases hp
 ·have e : atOf (J0 P n) = fun _ => none := by
   funext id
   unfold atOf
   rw [J0_T, (Tb.fresh_told n P id).1]; rfl
  show Run n P (tellsT P D) 0 0 (atOf (J0 P n)) 1 1
  rw [zero_tells hz, e]
  exact (truth_none hP hn).run fun p t _ h => by cases h
theorem zero_sj (hz : Zero P D) (hok : D.Ok) (hc : D.Calm) (hs : P + 1 ≤ D.sec.length) (hg : geoOk n P = true) (h0 : D.tells 0 = (0, superE n P)) : Sj n P 1 (superE n P) (J0 P n) D noH := by
 have hG := geoOk_iff.1 hg
 exact ⟨zero_jt hz hok hc hs (by omega) (by omega) (by omega) (by omega) (by omega), fresh_bound P n, rfl, by show (0 : Int) ≤ _; omega, by show (1 : Int) ≤ _; omega, h0⟩
def F1 (D : Dev) : Dev := { D with cw := i64w (D.cw + 1), wait := D.wait ++ [((0 : Int), zs 512)] }
def zW (k : Nat) : List (Int × List UInt8) := (List.range k).map fun i : Nat => ((i : Int) + 1, zs 512)
def FZ (D : Dev) (k : Nat) : Dev := { D with cw := addN D.cw k, wait := zW k }
def FS (n P : Nat) (D : Dev) : Dev := { D with cw := i64w (D.cw + 1), wait := [((0 : Int), superE n P)] }
theorem zW_succ (k : Nat) : zW (k + 1) = zW k ++ [((k : Int) + 1, zs 512)] := by simp [zW, List.range_succ]
theorem zs_len (n : Nat) : (zs n).length = n := List.length_replicate
theorem newest_zW (a : Int) (k : Nat) : newest (zW k) a = if 1 ≤ a ∧ a ≤ (k : Int) then some (zs 512) else none := by
 induction k with
 | zero => rw [if_neg (by omega)]; rfl
 | succ k ih =>
  rw [zW_succ, newest_snoc, ih]
  by_cases h : (k : Int) + 1 = a
  ·rw [if_pos h, if_pos (by omega)]
  ·rw [if_neg h]
   by_cases h2 : 1 ≤ a ∧ a ≤ (k : Int)
   ·rw [if_pos h2, if_pos (by omega)]
   ·rw [if_neg h2, if_neg (by omega)]
theorem F1_ok (h : D.Ok) (hm : D.wait.length ≤ 1000) (hs : 1 ≤ D.sec.length) : (F1 D).Ok := by
 refine ⟨h.n, fun x hx => ?_, by show (D.wait ++ [((0 : Int), zs 512)]).length ≤ _; rw [List.length_append]; simp; omega, h.keep⟩
 rcases List.mem_append.1 hx with hx | hx
 ·exact h.wait x hx
 ·obtain rfl : x = ((0 : Int), zs 512) := by simpa using hx
  exact ⟨Int.le_refl _, by show (0 : Int) < (D.sec.length : Int); omega⟩
theorem F1_calm (h : D.Calm) : (F1 D).Calm := ⟨h.down, h.armed⟩
theorem F1_tells : (F1 D).tells 0 = (0, zs 512) := by
 unfold Dev.tells
 show (match newest (D.wait ++ [((0 : Int), zs 512)]) 0 with | some l => _ | none => _) = _
 rw [newest_snoc, if_pos rfl]
 show ((0 : Int), padTo 512 (zs 512)) = _
 rw [padTo_self (zs_len 512)]
theorem FZ_ok (h : D.Ok) {k : Nat} (hk : k + 1 ≤ D.sec.length) : (FZ D k).Ok := by
 have := h.n
 refine ⟨h.n, fun x hx => ?_, by show (zW k).length ≤ _; simp [zW]; omega, h.keep⟩
 obtain ⟨i, hi, rfl⟩ := List.mem_map.1 (show x ∈ zW k from hx)
 have := List.mem_range.1 hi
 exact ⟨by show (0 : Int) ≤ (i : Int) + 1; omega, by show (i : Int) + 1 < (D.sec.length : Int); omega⟩
theorem FZ_calm (h : D.Calm) (k : Nat) : (FZ D k).Calm := ⟨h.down, h.armed⟩
theorem FZ_zero (D : Dev) (P : Nat) : Zero P (FZ D P) := by
 intro p hp
 unfold Dev.tells
 show (match newest (zW P) _ with | some l => _ | none => _) = _
 rw [newest_zW, if_pos (by omega)]
 show ((0 : Int), padTo 512 (zs 512)) = _
 rw [padTo_self (zs_len 512)]
theorem FZ_tells0 (hw : D.wait = []) (k : Nat) : (FZ D k).tells 0 = D.tells 0 := by
 unfold Dev.tells
 show (match newest (zW k) 0 with | some l => _ | none => _) = match newest D.wait 0 with | some l => _ | none => _
 rw [newest_zW, if_neg (by omega), hw]
 rfl
theorem dry_eq (hw : D.wait = []) (a : Int) : (Dev.dry D).tells a = D.tells a := by
 rw [dry_tells]
 unfold Dev.tells
 rw [hw]; rfl
theorem FZ_again (h : D.Ok) (hw : D.wait = []) {k : Nat} (hk : k + 1 ≤ D.sec.length) : (Dev.again (FZ D k) K).tells 0 = D.tells 0 := by
 have hok := FZ_ok h hk
 have hget : ∀ (i : Nat) (hi : i < (FZ D k).wait.length), (FZ D k).wait[i] = ((i : Int) + 1, zs 512) := fun i hi => by
  show (zW k)[i]'hi = _
  simp [zW]
 have hnd : ((FZ D k).wait.map Prod.fst).Nodup := by
  rw [List.Nodup, List.pairwise_iff_getElem]
  intro i j hi hj hij
  rw [List.length_map] at hi hj
  rw [List.getElem_map, List.getElem_map, hget i hi, hget j hj]
  show ¬ ((i : Int) + 1 = (j : Int) + 1)
  omega
 rw [again_tells, (fates_tells (FZ D k) K hok.wait hnd 0 ⟨Int.le_refl _, by show (0 : Int) < (D.sec.length : Int); omega⟩ _ (Nat.le_refl _)).2 fun i hi _ => by
  rw [hget i hi]
  show ¬ ((0 : Int) = (i : Int) + 1)
  omega]
 have : (Dev.dry (FZ D k)).tells 0 = (Dev.dry D).tells 0 := rfl
 rw [this, dry_eq hw]
theorem again_okS (h : D.Ok) : (Dev.again D K).Ok ∧ (Dev.again D K).sec.length = D.sec.length := by
 obtain ⟨h1, h2⟩ := crash_okS h K
 exact ⟨⟨h1.n, h1.wait, h1.many, h1.keep⟩, h2⟩
def Blank (D : Dev) : Prop := D.tells 0 = (0, zs 512) ∨ (D.tells 0).1 = 3
theorem FS_again (h : D.Ok) (hc : D.Calm) (hw : D.wait = []) (hz : Zero P D) (h0 : D.tells 0 = (0, zs 512)) (hs : P + 1 ≤ D.sec.length) (hg : geoOk n P = true) :
    Blank (Dev.again (FS n P D) K) ∨ Sj n P 1 (superE n P) (J0 P n) (Dev.again (FS n P D) K) noH := by
  have hok : (FS n P D).Ok := ⟨h.n, fun x hx => (by obtain rfl : x = ((0 : Int), superE n P) := by simpa [FS] using hx
                                                    exact ⟨Int.le_refl _, by show (0 : Int) < (D.sec.length : Int); omega⟩), by show [((0 : Int), superE n P)].length ≤ _; simp, h.keep⟩
  have hlen : (FS n P D).wait.length = 1 := rfl
  have hnd : ((FS n P D).wait.map Prod.fst).Nodup := by simp [FS]
  have hd : ∀ a, (Dev.dry (FS n P D)).tells a = D.tells a := fun a => (show (Dev.dry (FS n P D)).tells a = (Dev.dry D).tells a from rfl).trans (dry_eq hw a)
  have ht0 := (fates_tells (FS n P D) K hok.wait hnd 0 ⟨Int.le_refl _, by show (0 : Int) < (D.sec.length : Int); omega⟩ _ (Nat.le_refl _)).1 0 (by rw [hlen]; decide) (by rw [hlen]; decide) rfl
  have htp : ∀ p : Nat, p < P → (Dev.again (FS n P D) K).tells ((p : Int) + 1) = (0, zs 512) := fun p hp => by
    rw [again_tells, (fates_tells (FS n P D) K hok.wait hnd ((p : Int) + 1) ⟨by omega, by show (p : Int) + 1 < (D.sec.length : Int); omega⟩ _ (Nat.le_refl _)).2 fun i hi _ => by
      obtain rfl : i = 0 := by rw [hlen] at hi; omega
      show ¬ ((p : Int) + 1 = 0)
      omega]
    rw [hd, hz p hp]
  rw [hd, h0] at ht0
  rw [← again_tells] at ht0
  obtain ⟨o1, o2⟩ := again_okS (K := K) hok
  by_cases k1 : K.getD 0 0 = 1
  · rw [if_pos k1] at ht0
    refine .inr (zero_sj htp o1 (again_calm _ _) (by rw [o2]; exact hs) hg (ht0.trans ?_))
    show ((0 : Int), padTo 512 (superE n P)) = _
    rw [padTo_self (superE_length n P)]
  · rw [if_neg k1] at ht0
    by_cases k2 : K.getD 0 0 = 2
    · rw [if_pos k2] at ht0
      exact .inl (.inr (by rw [ht0]))
    · rw [if_neg k2] at ht0
      exact .inl (.inl ht0)
end
end Go.Proofs.YtdafdidmbeecfaaGreatDoor
end
section
namespace Go.Proofs.YtdafdidmbeecfaaGreatDoor.Su
set_option linter.unusedVariables false
set_option linter.unusedSimpArgs false
open Go.RowKit Go.SL Go.Proofs.YtdafdidmbeecfaaGreatDoor Go.Proofs.YtdafdidmbeecfaaGreatDoor.Ba Go.Proofs.YtdafdidmbeecfaaGreatDoor.Fs
def clA (cd ca cb d : Nat) (a : Int) (bv : Value) : Assn := pt cd (.cells #[ptV d] 24 (0, 0)) * (pt ca (.cells #[.int .i64 a] 3 (0, 0)) * pt cb (.cells #[bv] 22 (0, 0)))
set_option maxRecDepth 100000 in
theorem wr1_any (w : World) (S : Hp) (d : Nat) (D : Dev) (cd ca cb : Nat) (a : Int) (bv : Value) (l : List UInt8) (F : Assn) (h : Sat w (devA S d D * (pool S * (clA cd ca cb d a bv * F)))) (hD : D.Ok) (hr : ∀ w' D', Sat w' (devA S d D' * (pool S * (clA cd ca cb d a bv * F))) → Rd w' bv l) (hl : l.length = 512) :
  Calls Tryz.prog 73 #[ptV cd, ptV ca, ptV cb] w (WriteQ S d (D.write a l).2 (.int .i64 (D.write a l).1) (clA cd ca cb d a bv * F) w) := by
 have hr0 := hr w D h
 have hw := write_any w S d D a bv l _ h hD hr0 hr (by rw [hl]; decide)
 have h1 := h
 unfold clA at h1
 have c0 : w.cell? ⟨cd, 0, none⟩ = some (ptV d) := (h1.to (by ac_rfl : _ = pt cd (.cells #[ptV d] 24 (0, 0)) * (pt ca (.cells #[.int .i64 a] 3 (0, 0)) * (pt cb (.cells #[bv] 22 (0, 0)) * (devA S d D * (pool S * F)))))).cell 0
 have c1 : w.cell? ⟨ca, 0, none⟩ = some (.int .i64 a) := (h1.to (by ac_rfl : _ = pt ca (.cells #[.int .i64 a] 3 (0, 0)) * (pt cd (.cells #[ptV d] 24 (0, 0)) * (pt cb (.cells #[bv] 22 (0, 0)) * (devA S d D * (pool S * F)))))).cell 0
 have c2 : w.cell? ⟨cb, 0, none⟩ = some bv := (h1.to (by ac_rfl : _ = pt cb (.cells #[bv] 22 (0, 0)) * (pt cd (.cells #[ptV d] 24 (0, 0)) * (pt ca (.cells #[.int .i64 a] 3 (0, 0)) * (devA S d D * (pool S * F)))))).cell 0
 obtain ⟨ba, bc, rfl⟩ := hr0.shape
 clear h h1 hr hr0
 rw [hl] at hw c2 ⊢
 clear hl
 go_enter Tryz.func73, Tryz.ntmps73
 go_wp2_with fail
 (with_reducible refine hw.mono ?_)
 rintro e w2 ⟨S', hE, rfl, h2, d2⟩
 have H2 := SL.hid h2; have D2 := SL.hid d2
 clear hw h2 d2 c0 c1 c2
 go_wp2_with fail
 go_ret
 exact ⟨S', hE, rfl, H2.out, D2.out⟩
def opsN (ops : Nat → Dev → Int × Dev) (D : Dev) : Nat → Int × Dev
 | 0 => (0, D)
 | k + 1 => if (opsN ops D k).1 = 0 then ops k (opsN ops D k).2 else opsN ops D k
theorem opsN_stay (ops : Nat → Dev → Int × Dev) (D : Dev) {k : Nat} (h : (opsN ops D k).1 ≠ 0) : ∀ m, k ≤ m → opsN ops D m = opsN ops D k := by
  intro m hm
  induction m with
  | zero => obtain rfl : k = 0 := by omega
            rfl
  | succ m ih =>
    by_cases h1 : k = m + 1
    · rw [h1]
    · have := ih (by omega)
      rw [opsN, this, if_neg h]
def RunLQ (S : Hp) (d : Nat) (R : Int × Dev) (Q : Assn) (w : World) (e : Ending) (w' : World) : Prop :=
 (R.1 = 0 ∧ e = .returned (.tuple #[]) ∨ R.1 ≠ 0 ∧ e = .panicked (erP 2)) ∧ ∃ S', Ext S S' ∧ Sat w' (devA S' d R.2 * (pool S' * Q)) ∧ Side w w'
theorem runL_any (m : Nat) (fs : Nat → FuncId × Array Value × Array Value) (ops : Nat → Dev → Int × Dev) (S : Hp) (d g : Nat) (D : Dev) (Q : Assn) (hm : m ≤ 10)
  (hc : ∀ w' X k, Sat w' (X * Q) → k < m → w'.cell? ⟨g, k, none⟩ = some (.func (.func (fs k).1) (fs k).2.1 (fs k).2.2))
  (he : ∀ k, k < m → ∀ (args : Array Value) (w : World), (callFunc (fs k).1 args).run Tryz.prog w = .ok (.enter (fs k).1 args) w)
  (hs : ∀ k, k < m → ∀ w' S' D', Ext S S' → D'.Ok → Sat w' (devA S' d D' * (pool S' * Q)) → Calls Tryz.prog (fs k).1 ((fs k).2.1 ++ (fs k).2.2) w' (WriteQ S' d (ops k D').2 (.int .i64 (ops k D').1) Q w'))
  (hok : ∀ k, k < m → (opsN ops D k).1 = 0 → (opsN ops D k).2.Ok) (w : World) (h : Sat w (devA S d D * (pool S * Q))) :
  Calls Tryz.prog 40 #[.slice (some ⟨g, 0, none⟩) m m] w (RunLQ S d (opsN ops D m) Q w) := by
 refine (run_any m fs (fun k w' => (opsN ops D k).1 = 0 ∧ ∃ S', Ext S S' ∧ Sat w' (devA S' d (opsN ops D k).2 * (pool S' * Q)) ∧ Side w w') (fun w' => (opsN ops D m).1 ≠ 0 ∧ ∃ S', Ext S S' ∧ Sat w' (devA S' d (opsN ops D m).2 * (pool S' * Q)) ∧ Side w w') g hm ?_ ?_ w ⟨rfl, S, Ext.refl S, h, Side.refl w⟩).mono ?_
 ·rintro i k w' hi ⟨_, S', _, h', _⟩ hk
  exact hc w' _ k (h'.to (by ac_rfl : _ = (devA S' d (opsN ops D i).2 * pool S') * Q)) hk
 ·intro k hk
  refine ⟨he k hk, ?_⟩
  rintro w' ⟨h0, S', hE, h', d'⟩
  refine (hs k hk w' S' _ hE (hok k hk h0) h').mono ?_
  rintro e w2 ⟨S2, hE2, rfl, h2, d2⟩
  have e1 : opsN ops D (k + 1) = ops k (opsN ops D k).2 := by rw [opsN, if_pos h0]
  refine ⟨_, rfl, ?_⟩
  by_cases hz : (ops k (opsN ops D k).2).1 = 0
  ·exact .inl ⟨hz, by rw [e1]; exact hz, S2, hE.trans hE2, by rw [e1]; exact h2, d'.trans d2⟩
  ·have hz' : (opsN ops D (k + 1)).1 ≠ 0 := by rw [e1]; exact hz
   have e2 := opsN_stay ops D hz' m (by omega)
   exact .inr ⟨hz, by rw [e2]; exact hz', S2, hE.trans hE2, by rw [e2, e1]; exact h2, d'.trans d2⟩
 ·rintro e w2 (⟨rfl, h1, h2⟩ | ⟨rfl, h1, h2⟩)
  ·exact ⟨.inl ⟨h1, rfl⟩, h2⟩
  ·exact ⟨.inr ⟨h1, rfl⟩, h2⟩
end Go.Proofs.YtdafdidmbeecfaaGreatDoor.Su
end
section
namespace Go.Proofs.YtdafdidmbeecfaaGreatDoor.Su
set_option linter.unusedVariables false
set_option linter.unusedSimpArgs false
open Go.RowKit Go.SL Go.Proofs.YtdafdidmbeecfaaGreatDoor Go.Proofs.YtdafdidmbeecfaaGreatDoor.Ba Go.Proofs.YtdafdidmbeecfaaGreatDoor.Fs
def fill1 (m k : Nat) : List Int := List.replicate k (-1) ++ List.replicate (m - k) 0
theorem fill1_len {m k : Nat} (h : k ≤ m) : (fill1 m k).length = m := by simp [fill1]; omega
theorem fill1_set {m k : Nat} (h : k < m) : (fill1 m k).set k (-1) = fill1 m (k + 1) := by
 unfold fill1
 rw [List.set_append_right _ _ (by simp), List.length_replicate, Nat.sub_self, show m - k = (m - (k + 1)) + 1 by omega, List.replicate_succ, List.replicate_succ', List.append_assoc]
 rfl
def Fill1Rel (m hb : Nat) (X : Assn) (w : World) (u : Value) (wr : World) : Prop :=
 ∃ k : Nat, k ≤ m ∧ u = .int .i64 (k : Int) ∧ Sat wr (pt hb (.cells (ints (fill1 m k)) 3 (0, 0)) * X) ∧ Side w wr
section
variable {D : Dev} {o : Ar} {n P k : Nat} {K : List Int}
def opsA (k : Nat) (D : Dev) : Int × Dev := if k = 0 then D.write 0 (zs 512) else D.flush
def opsB (a : Int) (_ : Nat) (D : Dev) : Int × Dev := D.write a (zs 512)
def opsC (n P k : Nat) (D : Dev) : Int × Dev := if k = 1 then D.write 0 (superE n P) else D.flush
theorem write_armedD (h : D.Calm) (ho : arOk o) {a : Int} (ha : D.has a) {l : List UInt8} (hl : l.length = 512) :
  (¬ arHit o ∧ (D.wth o).write a l = (0, ({ D with cw := i64w (D.cw + 1), wait := D.wait ++ [(a, l)] } : Dev).wth (arDec o))) ∨ (arHit o ∧ (D.wth o).write a l = (2, D.crash (arK o))) := by
 by_cases hh : arHit o
 ·exact .inr ⟨hh, wth_write_hit h hh ha hl⟩
 ·exact .inl ⟨hh, wth_write_go h ho hh ha hl⟩
theorem flush_armedC (h : D.Calm) (ho : arOk o) : (¬ arHit o ∧ (D.wth o).flush = (0, D.flushed.wth (arDec o))) ∨ (arHit o ∧ (D.wth o).flush = (2, D.crash (arK o))) := by
 by_cases hh : arHit o
 ·exact .inr ⟨hh, wth_flush_hit h hh⟩
 ·exact .inl ⟨hh, wth_flush_go h ho hh⟩
theorem opsN_one (ops : Nat → Dev → Int × Dev) (D : Dev) : opsN ops D 1 = ops 0 D := by rw [opsN, opsN]; rfl
theorem stageA (h : D.Calm) (hok : D.Ok) (hm : D.wait.length ≤ 1000) (ho : arOk o) (h0 : D.has 0) :
  ((∃ K', o = some (0, K') ∧ opsN opsA (D.wth o) 2 = (2, D.crash (arK o))) ∨ (∃ K', o = some (1, K') ∧ opsN opsA (D.wth o) 2 = (2, (F1 D).crash (arK o))) ∨ (∃ o', ArTo o o' ∧ opsN opsA (D.wth o) 2 = (0, (F1 D).flushed.wth o'))) ∧
  (∀ k, k < 2 → (opsN opsA (D.wth o) k).1 = 0 → (opsN opsA (D.wth o) k).2.Ok) := by
 have hF1 := F1_ok hok hm (by have := h0.2; omega)
 have e1 : opsN opsA (D.wth o) 1 = (D.wth o).write 0 (zs 512) := opsN_one _ _
 have e2 : opsN opsA (D.wth o) 2 = if (opsN opsA (D.wth o) 1).1 = 0 then (opsN opsA (D.wth o) 1).2.flush else opsN opsA (D.wth o) 1 := rfl
 rcases write_armedD h ho h0 (zs_len 512) with ⟨hh, hw⟩ | ⟨hh, hw⟩
 ·have hF : ({ D with cw := i64w (D.cw + 1), wait := D.wait ++ [((0 : Int), zs 512)] } : Dev) = F1 D := rfl
  rw [hF] at hw
  rw [hw] at e1
  refine ⟨?_, fun k hk h1 => ?_⟩
  ·rw [e2, e1, if_pos rfl]
   show _ ∨ (∃ K', o = some (1, K') ∧ ((F1 D).wth (arDec o)).flush = _) ∨ ∃ o', _ ∧ ((F1 D).wth (arDec o)).flush = _
   rcases flush_armedC (F1_calm h) ho.dec with ⟨hh2, hf⟩ | ⟨hh2, hf⟩
   ·exact .inr (.inr ⟨_, (ArTo.dec ho).trans (ArTo.dec ho.dec), hf⟩)
   ·refine .inr (.inl ?_)
    rw [hf, arK_dec]
    obtain ⟨K', hK⟩ := hh2
    cases o with
    | none => cases hK
    | some x =>
     obtain ⟨N, K2⟩ := x
     injection hK with hK; injection hK with e3 e4
     have : N ≠ 0 := fun e => hh ⟨K2, by rw [e]⟩
     simp only at e3 e4
     exact ⟨K2, by rw [show N = 1 by omega], rfl⟩
  ·cases k with
   | zero => exact wth_ok hok ho
   | succ k =>
    obtain rfl : k = 0 := by omega
    rw [e1]
    exact wth_ok hF1 ho.dec
 ·rw [hw] at e1
  have hne : ¬ (2 : Int) = 0 := by decide
  refine ⟨.inl ?_, fun k hk h1 => ?_⟩
  ·obtain ⟨K', hK⟩ := hh
   exact ⟨K', hK, by rw [e2, e1, if_neg hne]⟩
  ·cases k with
   | zero => exact wth_ok hok ho
   | succ k =>
    obtain rfl : k = 0 := by omega
    rw [e1] at h1
    exact absurd h1 hne
theorem stageB (h : D.Calm) (ho : arOk o) (hs : k + 1 < D.sec.length) :
  (∃ o', ArTo o o' ∧ opsN (opsB ((k : Int) + 1)) ((FZ D k).wth o) 1 = (0, (FZ D (k + 1)).wth o')) ∨ (arHit o ∧ opsN (opsB ((k : Int) + 1)) ((FZ D k).wth o) 1 = (2, (FZ D k).crash (arK o))) := by
 rw [opsN_one]
 show (∃ o', _ ∧ ((FZ D k).wth o).write ((k : Int) + 1) (zs 512) = _) ∨ (_ ∧ ((FZ D k).wth o).write ((k : Int) + 1) (zs 512) = _)
 rcases write_armedD (FZ_calm h k) ho (a := (k : Int) + 1) ⟨by omega, by show (k : Int) + 1 < (D.sec.length : Int); omega⟩ (zs_len 512) with ⟨hh, hw⟩ | ⟨hh, hw⟩
 ·refine .inl ⟨_, ArTo.dec ho, ?_⟩
  have : ({ FZ D k with cw := i64w ((FZ D k).cw + 1), wait := (FZ D k).wait ++ [((k : Int) + 1, zs 512)] } : Dev) = FZ D (k + 1) := by
   show ({ D with cw := i64w (addN D.cw k + 1), wait := zW k ++ [((k : Int) + 1, zs 512)] } : Dev) = _
   rw [← zW_succ]; rfl
  rw [hw, this]
 ·exact .inr ⟨hh, hw⟩
theorem stageC (h : D.Calm) (hok : D.Ok) (ho : arOk o) (h0 : D.has 0) :
  ((∃ o', ArTo o o' ∧ opsN (opsC n P) (D.wth o) 3 = (0, (FS n P D.flushed).flushed.wth o')) ∨ (o ≠ none ∧ ∃ E, (E = D ∨ E = D.flushed ∨ E = FS n P D.flushed) ∧ opsN (opsC n P) (D.wth o) 3 = (2, E.crash (arK o)))) ∧
  (∀ k, k < 3 → (opsN (opsC n P) (D.wth o) k).1 = 0 → (opsN (opsC n P) (D.wth o) k).2.Ok) := by
 have hfk := Dev.flush_keeps hok
 rw [h.flush] at hfk
 have hfok : D.flushed.Ok := hfk.ok hok (by have := hok.many; omega)
 have hfc : D.flushed.Calm := flushed_calm h
 have hfs : D.flushed.sec.length = D.sec.length := (flushed_counts D).2.2.2
 have hf0 : D.flushed.has 0 := ⟨Int.le_refl _, by rw [hfs]; exact h0.2⟩
 have hSw : ∀ x ∈ (FS n P D.flushed).wait, (FS n P D.flushed).has x.1 := by
  intro x hx
  obtain rfl : x = ((0 : Int), superE n P) := by simpa [FS] using hx
  exact hf0
 have hSok : (FS n P D.flushed).Ok := ⟨hfok.n, hSw, by show [((0 : Int), superE n P)].length ≤ _; simp, hfok.keep⟩
 have e1 : opsN (opsC n P) (D.wth o) 1 = (D.wth o).flush := opsN_one _ _
 have e2 : opsN (opsC n P) (D.wth o) 2 = if (opsN (opsC n P) (D.wth o) 1).1 = 0 then (opsN (opsC n P) (D.wth o) 1).2.write 0 (superE n P) else opsN (opsC n P) (D.wth o) 1 := rfl
 have e3 : opsN (opsC n P) (D.wth o) 3 = if (opsN (opsC n P) (D.wth o) 2).1 = 0 then (opsN (opsC n P) (D.wth o) 2).2.flush else opsN (opsC n P) (D.wth o) 2 := rfl
 have hne : ¬ (2 : Int) = 0 := by decide
 rcases flush_armedC h ho with ⟨hh, hf⟩ | ⟨hh, hf⟩
 ·rw [hf] at e1
  rw [e1, if_pos rfl] at e2
  rcases write_armedD hfc ho.dec hf0 (superE_length n P) with ⟨hh2, hw⟩ | ⟨hh2, hw⟩
  ·have hF : ({ D.flushed with cw := i64w (D.flushed.cw + 1), wait := D.flushed.wait ++ [((0 : Int), superE n P)] } : Dev) = FS n P D.flushed := rfl
   rw [hF] at hw
   rw [hw] at e2
   rw [e2, if_pos rfl] at e3
   refine ⟨?_, fun k hk h1 => ?_⟩
   ·rcases flush_armedC (D := FS n P D.flushed) ⟨hfc.down, hfc.armed⟩ ho.dec.dec with ⟨hh3, hf3⟩ | ⟨hh3, hf3⟩
    ·exact .inl ⟨_, ((ArTo.dec ho).trans (ArTo.dec ho.dec)).trans (ArTo.dec ho.dec.dec), e3.trans hf3⟩
    ·refine .inr ⟨fun e => arHit_ne hh3 (arDec_none (arDec_none e)), _, .inr (.inr rfl), e3.trans (hf3.trans ?_)⟩
     rw [arK_dec, arK_dec]
   ·match k, hk with
    | 0, _ => exact wth_ok hok ho
    | 1, _ => rw [e1]; exact wth_ok hfok ho.dec
    | 2, _ => rw [e2]; exact wth_ok hSok ho.dec.dec
  ·rw [hw] at e2
   rw [e2, if_neg hne] at e3
   refine ⟨.inr ⟨fun e => arHit_ne hh2 (arDec_none e), _, .inr (.inl rfl), e3.trans (by rw [arK_dec])⟩, fun k hk h1 => ?_⟩
   match k, hk with
   | 0, _ => exact wth_ok hok ho
   | 1, _ => rw [e1]; exact wth_ok hfok ho.dec
   | 2, _ => rw [e2] at h1; exact absurd h1 hne
 ·rw [hf] at e1
  rw [e1, if_neg hne] at e2
  rw [e2, if_neg hne] at e3
  refine ⟨.inr ⟨arHit_ne hh, _, .inl rfl, e3⟩, fun k hk h1 => ?_⟩
  match k, hk with
  | 0, _ => exact wth_ok hok ho
  | 1, _ => rw [e1] at h1; exact absurd h1 hne
  | 2, _ => rw [e2] at h1; exact absurd h1 hne
end
set_option maxRecDepth 100000 in
set_option maxHeartbeats 1000000 in
theorem fmtD_ret (w : World) (pa pe : Addr) :
    CallsD Tryz.prog 46 #[.pointer (some pa), .pointer (some pe)] .returning w fun e u w' => e = .returned (.tuple #[]) ∧ u = .returning ∧ w = w' := by
  refine callsD_of_wpS Tryz.func46 rfl fun c₀ cs hu => ?_
  apply wpS_seq
  apply wpS_region
  simp only [Tryz.ntmps46, List.size_toArray, List.length_cons, List.length_nil, Nat.reduceAdd, Nat.reduceSub, Array.replicate_succ,
     Array.replicate_zero, List.push_toArray, List.append_toArray, List.nil_append, List.cons_append]
  simp [wpOpsS, go_sem, recoverD, hu, Exit.thenS]
  refine wpS_of_wp ?_
  go_wp2
  cases c₀
  simp_all [bodyPostS, results, Tryz.results46]
set_option maxRecDepth 100000 in
set_option maxHeartbeats 1000000 in
theorem fmtD_pan (w : World) (ab eb : Nat) (c z : Int) (p : Value) (older : List PanicEntry) (h0 : w.cell? ⟨ab, 0, none⟩ = some p) (he : w.cell? ⟨eb, 0, none⟩ = some (.int .i64 z))
    (f0 : w.frozen? ⟨ab, 0, none⟩ = false) (fe : w.frozen? ⟨eb, 0, none⟩ = false) (hne : ab ≠ eb) :
    CallsD Tryz.prog 46 #[.pointer (some ⟨ab, 0, none⟩), .pointer (some ⟨eb, 0, none⟩)] (.panicking ({ v := .iface 25 (.int .i64 c), recovered := false } :: older)) w fun e u w' =>
      e = .returned (.tuple #[]) ∧ u = .panicking ({ v := .iface 25 (.int .i64 c), recovered := true } :: older) ∧ w' = (w.setCell ⟨ab, 0, none⟩ (.pointer none)).setCell ⟨eb, 0, none⟩ (.int .i64 c) := by
  have hr := reason_any w c
  refine callsD_of_wpS Tryz.func46 rfl fun c₀ cs hu => ?_
  apply wpS_seq
  apply wpS_region
  simp only [Tryz.ntmps46, List.size_toArray, List.length_cons, List.length_nil, Nat.reduceAdd, Nat.reduceSub, Array.replicate_succ,
     Array.replicate_zero, List.push_toArray, List.append_toArray, List.nil_append, List.cons_append]
  simp [wpOpsS, go_sem, recoverD, hu, Exit.thenS]
  refine wpS_of_wp ?_
  go_wp2_with fail
  (with_reducible refine hr.mono ?_)
  rintro e w2 ⟨rfl, rfl⟩
  go_wp2
  exact ⟨rfl, _, rfl, _, results_none rfl _ _ _, rfl, rfl, rfl⟩
theorem fmt_results {w : World} {tmps : Array Value} {a b : Nat} {x e : Value} (h2 : tmps[4]? = some (ptV a)) (h3 : tmps[5]? = some (ptV b)) (ha : w.cell? ⟨a, 0, none⟩ = some x) (hb : w.cell? ⟨b, 0, none⟩ = some e) :
  (results Tryz.f14 tmps).run Tryz.prog w = .ok (.tuple #[x, e]) w := by
 simp [results, Tryz.results14, go_sem, h2, h3, ha, hb]
theorem doorF_pan {w : World} {tmps : Array Value} {ab eb : Nat} {z c : Int} {p : Value} {X : Assn} {R : Ending → World → Prop} (h2 : tmps[4]? = some (ptV ab)) (h3 : tmps[5]? = some (ptV eb))
  (h : Sat w (pt ab (.cells #[p] 29 (0, 0)) * (pt eb (.cells #[.int .i64 z] 25 (0, 0)) * X))) (hR : ∀ w', Sat w' X → Side w w' → R (.returned (.tuple #[.pointer none, .int .i64 c])) w') :
  bodyPostD Tryz.prog Tryz.f14 R (Exit.panic (erP c)) { tmps := tmps, defers := [{ target := .fn (.func 46) #[.pointer (some ⟨ab, 0, none⟩), .pointer (some ⟨eb, 0, none⟩)], args := #[] }] } w := by
 have hne : ab ≠ eb := Sat.ne h
 refine leaves_cons (f := 46) (args := #[.pointer (some ⟨ab, 0, none⟩), .pointer (some ⟨eb, 0, none⟩)]) (by simp) (by simp [go_sem]) ?_
 refine (fmtD_pan w ab eb c z p [] (h.cell 0) (h.front2.cell 0) (h.frozen 0) (h.front2.frozen 0) hne).mono ?_
 rintro e u w7 ⟨rfl, rfl, rfl⟩
 have h11 := ((h.setCell 0 (.pointer none)).front2.setCell 0 (.int .i64 c))
 exact ⟨_, fmt_results h2 h3 (h11.front2.cell 0) (h11.cell 0), hR _ h11.right.right (((Side.refl w).setCell _ _).setCell _ _)⟩
theorem doorF_ret {w : World} {tmps : Array Value} {ab eb : Nat} {x z : Value} {R : Ending → World → Prop} (h2 : tmps[4]? = some (ptV ab)) (h3 : tmps[5]? = some (ptV eb))
  (ha : w.cell? ⟨ab, 0, none⟩ = some x) (hb : w.cell? ⟨eb, 0, none⟩ = some z) (hR : R (.returned (.tuple #[x, z])) w) :
  bodyPostD Tryz.prog Tryz.f14 R Exit.ret { tmps := tmps, defers := [{ target := .fn (.func 46) #[.pointer (some ⟨ab, 0, none⟩), .pointer (some ⟨eb, 0, none⟩)], args := #[] }] } w := by
 refine leaves_cons (f := 46) (args := #[.pointer (some ⟨ab, 0, none⟩), .pointer (some ⟨eb, 0, none⟩)]) (by simp) (by simp [go_sem]) ?_
 refine (fmtD_ret w ⟨ab, 0, none⟩ ⟨eb, 0, none⟩).mono ?_
 rintro e u w7 ⟨rfl, rfl, rfl⟩
 exact ⟨_, fmt_results h2 h3 ha hb, hR⟩
end Go.Proofs.YtdafdidmbeecfaaGreatDoor.Su
end

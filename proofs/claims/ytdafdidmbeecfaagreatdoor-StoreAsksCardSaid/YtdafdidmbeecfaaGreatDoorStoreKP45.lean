/- Steps towards the statement StoreK. -/
import Derived.Test.YtdafdidmbeecfaaGreatDoorStoreKP41
import Derived.Test.YtdafdidmbeecfaaGreatDoorStoreKP44
import Derived.Test.YtdafdidmbeecfaaGreatDoorStoreKP39
import Derived.Test.YtdafdidmbeecfaaGreatDoorStoreKP42
import Derived.Test.YtdafdidmbeecfaaGreatDoorStoreKP40
section
namespace Go.Proofs.YtdafdidmbeecfaaGreatDoor.Su
set_option linter.unusedVariables false
set_option linter.unusedSimpArgs false
open Go.RowKit Go.SL Go.ChangeShapes Go.WideShapes Go.ChangeAt Go.Proofs.YtdafdidmbeecfaaGreatDoor
structure StV where
 kd : Int
 dt : Int
 nn : Int
 ia : Option Addr
 il : Nat
 ic : Nat
 iz : List Int
 ka : Option Addr
 kl : Nat
 kc : Nat
 kz : List Int
structure StAt (w : World) (b o : Nat) (s : StV) : Prop where
 c0 : w.cell? ⟨b, o, none⟩ = some (.int .i64 s.kd)
 c1 : w.cell? ⟨b, o + 1, none⟩ = some (.int .i64 s.dt)
 c2 : w.cell? ⟨b, o + 2, none⟩ = some (.int .i64 s.nn)
 c3 : w.cell? ⟨b, o + 3, none⟩ = some (.slice s.ia s.il s.ic)
 c4 : w.cell? ⟨b, o + 4, none⟩ = some (.slice s.ka s.kl s.kc)
 ids : IsInts w s.ia s.il s.ic s.iz
 keep : IsInts w s.ka s.kl s.kc s.kz
 kl : s.kl ≤ 17592186044416
def IsSts (w : World) (a : Option Addr) (len cap : Nat) (X : Nat → StV) : Prop :=
 len = 0 ∨ ∃ b off, a = some ⟨b, off, none⟩ ∧ len ≤ cap ∧ cap ≤ maxLen ∧ ∀ i, i < len → StAt w b (off + i * 5) (X i)
theorem IsSts.cell {w : World} {a : Option Addr} {len cap : Nat} {X : Nat → StV} (h : IsSts w a len cap X) {i : Nat} (hi : i < len) :
  ∃ b off, a = some ⟨b, off, none⟩ ∧ StAt w b (off + i * 5) (X i) ∧ len ≤ cap ∧ cap ≤ 9223372036854775807 := by
 rcases h with h | ⟨b, off, h1, h2, h3, h4⟩
 ·omega
 ·exact ⟨b, off, h1, h4 i hi, h2, by unfold maxLen at h3; omega⟩
theorem IsSts.len_le {w : World} {a : Option Addr} {len cap : Nat} {X : Nat → StV} (h : IsSts w a len cap X) : len ≤ 9223372036854775807 := by
 rcases h with h | ⟨b, off, h1, h2, h3, h4⟩
 ·omega
 ·unfold maxLen at h3; omega
section
variable {H : Type} {enc : TypeId × Value → H} {w : World}
set_option maxRecDepth 100000 in
theorem sts_of {fuel : Nat} {a : Option Addr} {len cap : Nat} {x : DataW H × List MemPlace} (hf : DataW.trod enc Tryz.prog w 0 (fun _ => true) true fuel 44 [.slice a len cap] = some x) (hw : ∀ n ∈ x.1.weights Tryz.prog 44, n ≤ reachBytes) :
  ∃ X, IsSts w a len cap X := by
 have hC : Tryz.prog.cellsOf 49 = 5 := by kernel_rfl
 have hC1 : Tryz.prog.cellsOf 45 = 1 := by kernel_rfl
 have hC2 : Tryz.prog.cellsOf 3 = 1 := by kernel_rfl
 have hnil : StV := ⟨0, 0, 0, none, 0, 0, [], none, 0, 0, []⟩
 rcases Go.Deep.open_slice Tryz.underlying44 hf with ⟨hcs, _⟩ | ⟨ad, l, c, m, n, D, Pl, hcs, _, hl, hm, hmm, hx, hi⟩
 ·simp at hcs
  obtain ⟨rfl, rfl, rfl⟩ := hcs
  exact ⟨fun _ => hnil, .inl rfl⟩
 ·simp at hcs
  obtain ⟨rfl, rfl, rfl⟩ := hcs
  simp only [if_true] at hmm
  rw [hC] at hi
  by_cases h0 : len = 0
  ·exact ⟨fun _ => hnil, .inl h0⟩
  have hwD : ∀ i, i < len → ∀ k ∈ (D i).weights Tryz.prog 49, k ≤ reachBytes := fun i hil k hk => hw k (by
   rw [hx]
   simp only [DataW.weights, Tryz.underlying44]
   exact List.mem_cons_of_mem _ (List.mem_append_left _ (weightsAll_mem hk (List.mem_map.2 ⟨i, List.mem_range.2 hil, rfl⟩))))
  have key : ∀ i, i < len → ∃ s : StV, (w.cell? (ad.add (i * 5)) = some (.int .i64 s.kd) ∧ w.cell? ((ad.add (i * 5)).add 1) = some (.int .i64 s.dt) ∧ w.cell? ((ad.add (i * 5)).add 2) = some (.int .i64 s.nn) ∧ w.cell? ((ad.add (i * 5)).add 3) = some (.slice s.ia s.il s.ic) ∧ w.cell? ((ad.add (i * 5)).add 4) = some (.slice s.ka s.kl s.kc)) ∧ IsInts w s.ia s.il s.ic s.iz ∧ IsInts w s.ka s.kl s.kc s.kz ∧ s.kl ≤ 17592186044416 := by
   intro i hil
   obtain ⟨cs', hc, ht⟩ := hi i (by omega)
   obtain ⟨ys, n', _, hDx, hlen, hyl, hfl⟩ := DataW.trod_struct Tryz.underlying49 ht
   obtain ⟨_, hcl, hat⟩ := World.cells?_some hc
   rw [hC] at hlen
   match cs', hlen, hat, hfl with
   | [c0, c1, c2, c3, c4], _, hat, hfl =>
    have f0 := hfl 0 _ rfl
    have f1 := hfl 1 _ rfl
    have f2 := hfl 2 _ rfl
    have f3 := hfl 3 _ rfl
    have f4 := hfl 4 _ rfl
    have hy5 : ys.length = 5 := hyl
    rw [List.getElem?_eq_getElem (by omega)] at f0 f1 f2 f3 f4
    replace f0 : DataW.trod enc Tryz.prog w 0 (fun _ => true) true n' 3 (List.take (Tryz.prog.cellsOf 3) [c0, c1, c2, c3, c4]) = some (ys[0]) := f0
    replace f1 : DataW.trod enc Tryz.prog w 0 (fun _ => true) true n' 3 (List.take (Tryz.prog.cellsOf 3) [c1, c2, c3, c4]) = some (ys[1]) := f1
    replace f2 : DataW.trod enc Tryz.prog w 0 (fun _ => true) true n' 3 (List.take (Tryz.prog.cellsOf 3) [c2, c3, c4]) = some (ys[2]) := f2
    replace f3 : DataW.trod enc Tryz.prog w 0 (fun _ => true) true n' 45 (List.take (Tryz.prog.cellsOf 45) [c3, c4]) = some (ys[3]) := f3
    replace f4 : DataW.trod enc Tryz.prog w 0 (fun _ => true) true n' 45 (List.take (Tryz.prog.cellsOf 45) [c4]) = some (ys[4]) := f4
    rw [hC1] at f3 f4
    rw [hC2] at f0 f1 f2
    have hD : D i = .agg (ys.map (·.1)) := congrArg Prod.fst hDx
    have hw4 : ∀ k ∈ (ys[4]).1.weights Tryz.prog 45, k ≤ reachBytes := fun k hk => hwD i hil k (by
     rw [hD]
     simp only [DataW.weights, Tryz.underlying49]
     exact DataW.weights_mem_each (j := 4) (by rfl) (by rw [List.getElem?_map, List.getElem?_eq_getElem (by omega)]; rfl) k hk)
    obtain ⟨v0, e0, _, _⟩ := DataW.trod_int Tryz.underlying3 f0
    obtain ⟨v1, e1, _, _⟩ := DataW.trod_int Tryz.underlying3 f1
    obtain ⟨v2, e2, _, _⟩ := DataW.trod_int Tryz.underlying3 f2
    obtain ⟨xa, xl, xc, zs, e3, hz⟩ := ints_of' f3
    obtain ⟨ya, yl, yc, zk, e4, hzk, hlz⟩ := ints_of2 f4 hw4
    simp at e0 e1 e2 e3 e4
    have g0 := hat 0 (by simp)
    have g1 := hat 1 (by simp)
    have g2 := hat 2 (by simp)
    have g3 := hat 3 (by simp)
    have g4 := hat 4 (by simp)
    simp at g0 g1 g2 g3 g4
    exact ⟨⟨v0, v1, v2, xa, xl, xc, zs, ya, yl, yc, zk⟩, ⟨by rw [← e0, ← g0]; simp [Addr.add], by rw [← e1]; exact g1, by rw [← e2]; exact g2, by rw [← e3]; exact g3, by rw [← e4]; exact g4⟩, hz, hzk, hlz⟩
  have hspot : ∃ b off, ad = ⟨b, off, none⟩ := by
   obtain ⟨s, ⟨h1, _⟩, _⟩ := key 0 (by omega)
   obtain ⟨b, off, spot⟩ := ad
   have : spot = none := by simpa [Addr.add] using World.cell?_spot h1
   exact ⟨b, off, by rw [this]⟩
  obtain ⟨b, off, rfl⟩ := hspot
  have key2 : ∀ i, ∃ s : StV, i < len → StAt w b (off + i * 5) s := by
   intro i
   by_cases hil : i < len
   ·obtain ⟨s, ⟨h0, h1, h2, h3, h4⟩, h5, h6, h7⟩ := key i hil
    rw [Addr.add_lit] at h0
    rw [Addr.add_lit, Addr.add_lit] at h1 h2 h3 h4
    exact ⟨s, fun _ => ⟨h0, h1, h2, h3, h4, h5, h6, h7⟩⟩
   ·exact ⟨hnil, fun h => absurd h hil⟩
  exact ⟨fun i => Classical.choose (key2 i), .inr ⟨b, off, rfl, hl, hm, fun i hil => Classical.choose_spec (key2 i) hil⟩⟩
end
end Go.Proofs.YtdafdidmbeecfaaGreatDoor.Su
end
section
namespace Go.Proofs.YtdafdidmbeecfaaGreatDoor.Su
set_option linter.unusedVariables false
set_option linter.unusedSimpArgs false
open Go.RowKit Go.SL Go.Proofs.YtdafdidmbeecfaaGreatDoor Go.Proofs.YtdafdidmbeecfaaGreatDoor.Ba
section
variable (w : World) (S : Hp) (s j d n P B : Nat) (J : Jr) (D : Dev) (has : Has) (F : Assn)
def CommS (v : Value) (L : Wo) (e : Ending) (w' : World) : Prop :=
 ∃ S' J' D', Ext S S' ∧ e = .returned (.int .i64 0) ∧ Sat w' (stoA s j d n P J' * (devA S' d D' * (pool S' * (wrsA v L * F)))) ∧ Side w w' ∧ LawS n P (B + 1) J' D' (updB has L.bl) ∧
  D'.cr ≤ D.cr + 2 * L.length ∧ D'.cw ≤ D.cw + 3 * L.length ∧ D'.cf = D.cf + 1 ∧ J'.sq = J.sq + 1 ∧ D.cr ≤ D'.cr ∧ D.cw ≤ D'.cw ∧
  (∀ K, (∃ J1, Mnt n P (B + 1) (superE n P) J1 (Dev.again D' K) has) ∨ ∃ J1, Mnt n P (B + 1) (superE n P) J1 (Dev.again D' K) (updB has L.bl)) ∧ D'.wait.length ≤ 100
theorem commitS_any (v : Value) (L : Wo) (h : Sat w (stoA s j d n P J * (devA S d D * (pool S * (wrsA v L * F))))) (hL : LawS n P B J D has) (hg : geoOk n P = true) (hB : B ≤ 1000000) (hW : WIn11 n v L) (h0 : 1 ≤ L.length) :
  Calls Tryz.prog 19 #[ptV j, v] w (CommS w S s j d n P B J D has F v L) := by
 have hb := hW.batch h0
 obtain ⟨J', D', hc, hs, k1, k2, k3, k4, k5, k6, k7, k8⟩ := hL.commit hg hB hb
 rw [bl_len] at k1 k2
 have := commitW_any w S j d J D (pt s (.cells #[ptV j, .int .i64 (n : Int), .int .i64 (P : Int)] 42 (0, 0)) * F) v L has (h.to (by unfold stoA; ac_rfl)) hL.sj.jt.inv hW.b480 (by have := hW.l24; omega) true ⟨fun _ => may_batch (by rw [hL.sj.jt.jn]; exact hb), fun _ => rfl⟩
 rw [hc] at this
 refine this.mono ?_
 rintro e w' ⟨S', a, b, c, dd⟩
 exact ⟨S', J', D', a, b, c.to (by unfold stoA; ac_rfl), dd, hs, k1, k2, k3, k4, k6, k7, k5, k8⟩
def MntS (e : Ending) (w' : World) : Prop :=
 ∃ s j S' J' D' has', Ext S S' ∧ e = .returned (.tuple #[ptV s, .int .i64 0]) ∧ Sat w' (stoA s j d n P J' * (devA S' d D' * (pool S' * F))) ∧ Side w w' ∧ SameH has' has ∧ J'.sq = J.sq + 1 ∧ D'.wait = [] ∧ LawS n P (B + 2) J' D' has' ∧
  D'.cr ≤ D.cr + (P + 4) ∧ D.cr ≤ D'.cr ∧ D'.cw ≤ D.cw + 3 ∧ D.cw ≤ D'.cw ∧ D'.cf = D.cf + 3
theorem mountS_any (h : Sat w (devA S d D * (pool S * F))) (hL : LawS n P B J D has) (hg : geoOk n P = true) (hB : B ≤ 999990) (hh : ∀ w' X, Sat w' (X * F) → Half w') :
  Calls Tryz.prog 12 #[ptV d] w (MntS w S d n P B J D has F) := by
 have := mount_any w S d n P B J D has none F (by rw [wth_none]; exact h) hL.sj.mnt hB hg hL.sec arOk_none hh
 refine this.mono ?_
 rintro e w' (⟨E, hne, _⟩ | ⟨s, j, S', J', D', has', o', hE, he, h2, d2, hok⟩)
 ·exact absurd rfl hne
 ·have ho := hok.ar.none rfl
  subst ho
  rw [wth_none] at h2
  have hP : P ≤ 20000 := by have := (geoOk_iff.1 hg); omega
  obtain ⟨hs, c1, c2, c3, c4, c5⟩ := LawS.mount hL.nb hL.sec hP (by omega) hok
  exact ⟨s, j, S', J', D', has', hE, he, h2, d2, hok.same, hok.sq, hok.dry, hs, c1, c2, c3, c4, c5⟩
def SyncS (e : Ending) (w' : World) : Prop :=
 ∃ D', e = .returned (.int .i64 0) ∧ Sat w' (stoA s j d n P J * (devA S d D' * F)) ∧ Side w w' ∧ LawS n P (B + 1) J D' has ∧ D'.cr = D.cr ∧ D'.cw = D.cw ∧ D'.cf = D.cf + 1 ∧ D'.wait = []
theorem syncS_any (h : Sat w (stoA s j d n P J * (devA S d D * F))) (hL : LawS n P B J D has) (hB : B ≤ 1000000) :
  Calls Tryz.prog 27 #[ptV s] w (SyncS w S s j d n P B J D has F) := by
 obtain ⟨h1, h2, h3, h4, h5, h6⟩ := hL.flush hB
 have := sync_any w S s j d n P J D F h hL.sj.jt.inv.dok
 rw [h1] at this
 refine this.mono ?_
 rintro e w' ⟨a, b, c⟩
 exact ⟨_, a, b, c, h2, h3, h4, h5, h6⟩
def FmtS (e : Ending) (w' : World) : Prop :=
 ∃ s j S' D', e = .returned (.tuple #[ptV s, .int .i64 0]) ∧ Sat w' (stoA s j d n P (J0 P n) * (devA S' d D' * (pool S' * F))) ∧ Side w w' ∧ LawS n P 1 (J0 P n) D' noH ∧ D'.wait = []
theorem formatS_any (h : Sat w (devA NoB d (Dev.fresh (P + 1)) * (pool NoB * F))) (hg : geoOk n P = true) (hh : ∀ w' X, Sat w' (X * F) → Half w') :
  Calls Tryz.prog 14 #[ptV d, .int .i64 (n : Int)] w (FmtS w d n P F) := by
 have hP : P ≤ 19999 := by have := (geoOk_iff.1 hg); omega
 have := format_any w NoB d n P (Dev.fresh (P + 1)) none F (by rw [wth_none]; exact h) (fresh_ok (P + 1) (by omega)) ⟨rfl, rfl⟩ (by simp [Dev.fresh]) hg (by rw [devLen]) arOk_none hh
 refine this.mono ?_
 rintro e w' (⟨E, hne, _⟩ | ⟨s, j, S', D', o', hE, he, h2, d2, hok⟩)
 ·exact absurd rfl hne
 ·have ho := hok.ar.none rfl
  subst ho
  rw [wth_none] at h2
  exact ⟨s, j, S', D', he, h2, d2, LawS.start (by rw [devLen]) (by omega) rfl rfl rfl hok, hok.dry⟩
end
theorem LawS.room {n P B : Nat} {J : Jr} {D : Dev} {has : Has} (h : LawS n P B J D has) (hg : geoOk n P = true) : 0 < (J.P : Int) - J.us - J.fr := by
 have hgG := geoOk_iff.1 hg
 have := h.sj.room (L := [((0 : Int), zs 480)]) (by omega) (one_batch (by omega) (by omega) (zs_len 480))
 have h1 : 1 ≤ ([((0 : Int), zs 480)] ++ movB J has [((0 : Int), zs 480)]).length := by rw [List.length_append]; simp
 omega
theorem geo_least {n : Nat} (h0 : 4 ≤ n) (h1 : n ≤ 20) : geoOk n ((5 * n + 241) / 2 : Nat) = true := by
 rw [geoOk_iff]; omega
theorem sto_cell {w : World} {s j d n P : Nat} {J : Jr} {F : Assn} (h : Sat w (stoA s j d n P J * F)) : w.cell? ⟨s, 0, none⟩ = some (ptV j) := by
 have h2 : Sat w (pt s (.cells #[ptV j, .int .i64 (n : Int), .int .i64 (P : Int)] 42 (0, 0)) * (jrA j d J * F)) := h.to (by unfold stoA; ac_rfl)
 exact h2.cell 0
theorem Lst.cast {F F' : Assn} {v : Value} {n : Nat} {X : List Int} (h : Lst F v n X) (e : F = F') : Lst F' v n X := e ▸ h
def Crs (n P B : Nat) (D : Dev) : Prop := ∀ K, ∃ J1 h1, Mnt n P B (superE n P) J1 (Dev.again D K) h1
def BatX (d n P s j B : Nat) (w : World) (uh : Value) (wr : World) : Prop :=
 ∃ (S : Hp) (J : Jr) (D : Dev) (has : Has) (X : List Int) (Y : Assn), LawS n P B J D has ∧ Lst (Y * whole w) uh n X ∧ SaysK has X n ∧ Sat wr (stoA s j d n P J * (devA S d D * (pool S * (Y * whole w)))) ∧ Side w wr
def Bat0 (d n P s j B : Nat) (w : World) (wr : World) : Prop :=
 ∃ (S : Hp) (J : Jr) (D : Dev) (has : Has) (Y : Assn), LawS n P B J D has ∧ (Crs n P B D ∧ D.wait.length ≤ 100) ∧ Sat wr (stoA s j d n P J * (devA S d D * (pool S * (Y * whole w)))) ∧ Side w wr
def BatXRel (d n P s j m : Nat) (w : World) (uh ui : Value) (wr : World) : Prop := ∃ i : Nat, i ≤ m ∧ ui = .int .i64 (i : Int) ∧ BatX d n P s j (i + 1) w uh wr
def Bat0Rel (d n P s j m : Nat) (w : World) (ui : Value) (wr : World) : Prop := ∃ i : Nat, i ≤ m ∧ ui = .int .i64 (i : Int) ∧ Bat0 d n P s j (i + 1) w wr
theorem crs_dry {n P B : Nat} {J : Jr} {D : Dev} {has : Has} (h : LawS n P B J D has) (hw : D.wait = []) : Crs n P B D := fun K => ⟨_, _, h.sj.mnt.dry hw⟩
theorem Crs.more {n P B B' : Nat} {D : Dev} (h : Crs n P B D) (hB : B ≤ B') : Crs n P B' D := fun K => by
 obtain ⟨J1, h1, a⟩ := h K
 exact ⟨J1, h1, a.more hB⟩
theorem crs_comm {n P B : Nat} {D' : Dev} {a b : Has} (h : ∀ K, (∃ J1, Mnt n P (B + 1) (superE n P) J1 (Dev.again D' K) a) ∨ ∃ J1, Mnt n P (B + 1) (superE n P) J1 (Dev.again D' K) b) : Crs n P (B + 1) D' := fun K => by
 rcases h K with ⟨J1, h1⟩ | ⟨J1, h1⟩
 ·exact ⟨J1, _, h1⟩
 ·exact ⟨J1, _, h1⟩
theorem StAt.old {w w' : World} {b o : Nat} {s : StV} {Q : Assn} (h : StAt w b o s) (hs : Sat w' (Q * whole w)) : w'.cell? ⟨b, o, none⟩ = some (.int .i64 s.kd) ∧ w'.cell? ⟨b, o + 1, none⟩ = some (.int .i64 s.dt) ∧ w'.cell? ⟨b, o + 2, none⟩ = some (.int .i64 s.nn) ∧ w'.cell? ⟨b, o + 3, none⟩ = some (.slice s.ia s.il s.ic) ∧ w'.cell? ⟨b, o + 4, none⟩ = some (.slice s.ka s.kl s.kc) :=
 ⟨hs.cellOld h.c0, hs.cellOld h.c1, hs.cellOld h.c2, hs.cellOld h.c3, hs.cellOld h.c4⟩
theorem ints_old {w w' : World} {a : Option Addr} {len cap : Nat} {zs : List Int} {Q : Assn} (h : IsInts w a len cap zs) (hs : Sat w' (Q * whole w)) : IsInts w' a len cap zs := by
 rcases h with h | ⟨x, h1, h2, h3, h4, h5, h6⟩
 ·exact .inl h
 ·exact .inr ⟨x, h1, h2, h3, h4, fun i hi => hs.cellOld (h5 i hi), h6⟩
end Go.Proofs.YtdafdidmbeecfaaGreatDoor.Su
end

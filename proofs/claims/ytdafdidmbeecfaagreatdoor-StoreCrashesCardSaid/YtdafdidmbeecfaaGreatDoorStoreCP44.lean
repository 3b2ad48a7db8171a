/- Steps towards the statement StoreC. -/
import Derived.Test.YtdafdidmbeecfaaGreatDoorStoreCP41
import Derived.Test.YtdafdidmbeecfaaGreatDoorStoreCP43
import Derived.Test.YtdafdidmbeecfaaGreatDoorStoreCP39
import Derived.Test.YtdafdidmbeecfaaGreatDoorStoreCP40
import Derived.Test.YtdafdidmbeecfaaGreatDoorStoreCP37
section
namespace Go.Proofs.YtdafdidmbeecfaaGreatDoor.Su
set_option linter.unusedVariables false
set_option linter.unusedSimpArgs false
open Go.RowKit Go.SL Go.ChangeShapes Go.WideShapes Go.ChangeAt Go.Proofs.YtdafdidmbeecfaaGreatDoor
structure StV where
 kd : Int
 dt : Int
 nn : Int
 ia : Option Addr
 il : Nat
 ic : Nat
 iz : List Int
 ka : Option Addr
 kl : Nat
 kc : Nat
 kz : List Int
structure StAt (w : World) (b o : Nat) (s : StV) : Prop where
 c0 : w.cell? ⟨b, o, none⟩ = some (.int .i64 s.kd)
 c1 : w.cell? ⟨b, o + 1, none⟩ = some (.int .i64 s.dt)
 c2 : w.cell? ⟨b, o + 2, none⟩ = some (.int .i64 s.nn)
 c3 : w.cell? ⟨b, o + 3, none⟩ = some (.slice s.ia s.il s.ic)
 c4 : w.cell? ⟨b, o + 4, none⟩ = some (.slice s.ka s.kl s.kc)
 ids : IsInts w s.ia s.il s.ic s.iz
 keep : IsInts w s.ka s.kl s.kc s.kz
 kl : s.kl ≤ 17592186044416
def IsSts (w : World) (a : Option Addr) (len cap : Nat) (X : Nat → StV) : Prop :=
 len = 0 ∨ ∃ b off, a = some ⟨b, off, none⟩ ∧ len ≤ cap ∧ cap ≤ maxLen ∧ ∀ i, i < len → StAt w b (off + i * 5) (X i)
theorem IsSts.cell {w : World} {a : Option Addr} {len cap : Nat} {X : Nat → StV} (h : IsSts w a len cap X) {i : Nat} (hi : i < len) :
  ∃ b off, a = some ⟨b, off, none⟩ ∧ StAt w b (off + i * 5) (X i) ∧ len ≤ cap ∧ cap ≤ 9223372036854775807 := by
 rcases h with h | ⟨b, off, h1, h2, h3, h4⟩
 ·omega
 ·exact ⟨b, off, h1, h4 i hi, h2, by unfold maxLen at h3; omega⟩
theorem IsSts.len_le {w : World} {a : Option Addr} {len cap : Nat} {X : Nat → StV} (h : IsSts w a len cap X) : len ≤ 9223372036854775807 := by
 rcases h with h | ⟨b, off, h1, h2, h3, h4⟩
 ·omega
 ·unfold maxLen at h3; omega
section
variable {H : Type} {enc : TypeId × Value → H} {w : World}
set_option maxRecDepth 100000 in
theorem sts_of {fuel : Nat} {a : Option Addr} {len cap : Nat} {x : DataW H × List MemPlace} (hf : DataW.trod enc Tryz.prog w 0 (fun _ => true) true fuel 44 [.slice a len cap] = some x) (hw : ∀ n ∈ x.1.weights Tryz.prog 44, n ≤ reachBytes) :
  ∃ X, IsSts w a len cap X := by
 have hC : Tryz.prog.cellsOf 49 = 5 := by kernel_rfl
 have hC1 : Tryz.prog.cellsOf 45 = 1 := by kernel_rfl
 have hC2 : Tryz.prog.cellsOf 3 = 1 := by kernel_rfl
 have hnil : StV := ⟨0, 0, 0, none, 0, 0, [], none, 0, 0, []⟩
 rcases Go.Deep.open_slice Tryz.underlying44 hf with ⟨hcs, _⟩ | ⟨ad, l, c, m, n, D, Pl, hcs, _, hl, hm, hmm, hx, hi⟩
 ·simp at hcs
  obtain ⟨rfl, rfl, rfl⟩ := hcs
  exact ⟨fun _ => hnil, .inl rfl⟩
 ·simp at hcs
  obtain ⟨rfl, rfl, rfl⟩ := hcs
  simp only [if_true] at hmm
  rw [hC] at hi
  by_cases h0 : len = 0
  ·exact ⟨fun _ => hnil, .inl h0⟩
  have hwD : ∀ i, i < len → ∀ k ∈ (D i).weights Tryz.prog 49, k ≤ reachBytes := fun i hil k hk => hw k (by
   rw [hx]
   simp only [DataW.weights, Tryz.underlying44]
   exact List.mem_cons_of_mem _ (List.mem_append_left _ (weightsAll_mem hk (List.mem_map.2 ⟨i, List.mem_range.2 hil, rfl⟩))))
  have key : ∀ i, i < len → ∃ s : StV, (w.cell? (ad.add (i * 5)) = some (.int .i64 s.kd) ∧ w.cell? ((ad.add (i * 5)).add 1) = some (.int .i64 s.dt) ∧ w.cell? ((ad.add (i * 5)).add 2) = some (.int .i64 s.nn) ∧ w.cell? ((ad.add (i * 5)).add 3) = some (.slice s.ia s.il s.ic) ∧ w.cell? ((ad.add (i * 5)).add 4) = some (.slice s.ka s.kl s.kc)) ∧ IsInts w s.ia s.il s.ic s.iz ∧ IsInts w s.ka s.kl s.kc s.kz ∧ s.kl ≤ 17592186044416 := by
   intro i hil
   obtain ⟨cs', hc, ht⟩ := hi i (by omega)
   obtain ⟨ys, n', _, hDx, hlen, hyl, hfl⟩ := DataW.trod_struct Tryz.underlying49 ht
   obtain ⟨_, hcl, hat⟩ := World.cells?_some hc
   rw [hC] at hlen
   match cs', hlen, hat, hfl with
   | [c0, c1, c2, c3, c4], _, hat, hfl =>
    have f0 := hfl 0 _ rfl
    have f1 := hfl 1 _ rfl
    have f2 := hfl 2 _ rfl
    have f3 := hfl 3 _ rfl
    have f4 := hfl 4 _ rfl
    have hy5 : ys.length = 5 := hyl
    rw [List.getElem?_eq_getElem (by omega)] at f0 f1 f2 f3 f4
    replace f0 : DataW.trod enc Tryz.prog w 0 (fun _ => true) true n' 3 (List.take (Tryz.prog.cellsOf 3) [c0, c1, c2, c3, c4]) = some (ys[0]) := f0
    replace f1 : DataW.trod enc Tryz.prog w 0 (fun _ => true) true n' 3 (List.take (Tryz.prog.cellsOf 3) [c1, c2, c3, c4]) = some (ys[1]) := f1
    replace f2 : DataW.trod enc Tryz.prog w 0 (fun _ => true) true n' 3 (List.take (Tryz.prog.cellsOf 3) [c2, c3, c4]) = some (ys[2]) := f2
    replace f3 : DataW.trod enc Tryz.prog w 0 (fun _ => true) true n' 45 (List.take (Tryz.prog.cellsOf 45) [c3, c4]) = some (ys[3]) := f3
    replace f4 : DataW.trod enc Tryz.prog w 0 (fun _ => true) true n' 45 (List.take (Tryz.prog.cellsOf 45) [c4]) = some (ys[4]) := f4
    rw [hC1] at f3 f4
    rw [hC2] at f0 f1 f2
    have hD : D i = .agg (ys.map (·.1)) := congrArg Prod.fst hDx
    have hw4 : ∀ k ∈ (ys[4]).1.weights Tryz.prog 45, k ≤ reachBytes := fun k hk => hwD i hil k (by
     rw [hD]
     simp only [DataW.weights, Tryz.underlying49]
     exact DataW.weights_mem_each (j := 4) (by rfl) (by rw [List.getElem?_map, List.getElem?_eq_getElem (by omega)]; rfl) k hk)
    obtain ⟨v0, e0, _, _⟩ := DataW.trod_int Tryz.underlying3 f0
    obtain ⟨v1, e1, _, _⟩ := DataW.trod_int Tryz.underlying3 f1
    obtain ⟨v2, e2, _, _⟩ := DataW.trod_int Tryz.underlying3 f2
    obtain ⟨xa, xl, xc, zs, e3, hz⟩ := ints_of' f3
    obtain ⟨ya, yl, yc, zk, e4, hzk, hlz⟩ := ints_of2 f4 hw4
    simp at e0 e1 e2 e3 e4
    have g0 := hat 0 (by simp)
    have g1 := hat 1 (by simp)
    have g2 := hat 2 (by simp)
    have g3 := hat 3 (by simp)
    have g4 := hat 4 (by simp)
    simp at g0 g1 g2 g3 g4
    exact ⟨⟨v0, v1, v2, xa, xl, xc, zs, ya, yl, yc, zk⟩, ⟨by rw [← e0, ← g0]; simp [Addr.add], by rw [← e1]; exact g1, by rw [← e2]; exact g2, by rw [← e3]; exact g3, by rw [← e4]; exact g4⟩, hz, hzk, hlz⟩
  have hspot : ∃ b off, ad = ⟨b, off, none⟩ := by
   obtain ⟨s, ⟨h1, _⟩, _⟩ := key 0 (by omega)
   obtain ⟨b, off, spot⟩ := ad
   have : spot = none := by simpa [Addr.add] using World.cell?_spot h1
   exact ⟨b, off, by rw [this]⟩
  obtain ⟨b, off, rfl⟩ := hspot
  have key2 : ∀ i, ∃ s : StV, i < len → StAt w b (off + i * 5) s := by
   intro i
   by_cases hil : i < len
   ·obtain ⟨s, ⟨h0, h1, h2, h3, h4⟩, h5, h6, h7⟩ := key i hil
    rw [Addr.add_lit] at h0
    rw [Addr.add_lit, Addr.add_lit] at h1 h2 h3 h4
    exact ⟨s, fun _ => ⟨h0, h1, h2, h3, h4, h5, h6, h7⟩⟩
   ·exact ⟨hnil, fun h => absurd h hil⟩
  exact ⟨fun i => Classical.choose (key2 i), .inr ⟨b, off, rfl, hl, hm, fun i hil => Classical.choose_spec (key2 i) hil⟩⟩
end
end Go.Proofs.YtdafdidmbeecfaaGreatDoor.Su
end
section
namespace Go.Proofs.YtdafdidmbeecfaaGreatDoor.Su
set_option linter.unusedVariables false
set_option linter.unusedSimpArgs false
open Go.RowKit Go.SL Go.Proofs.YtdafdidmbeecfaaGreatDoor Go.Proofs.YtdafdidmbeecfaaGreatDoor.Ba
section
variable (w : World) (S : Hp) (s j d n P B : Nat) (J : Jr) (D : Dev) (has : Has) (F : Assn)
def FmtS (e : Ending) (w' : World) : Prop :=
 ∃ s j S' D', e = .returned (.tuple #[ptV s, .int .i64 0]) ∧ Sat w' (stoA s j d n P (J0 P n) * (devA S' d D' * (pool S' * F))) ∧ Side w w' ∧ LawS n P 1 (J0 P n) D' noH ∧ D'.wait = []
theorem formatS_any (h : Sat w (devA NoB d (Dev.fresh (P + 1)) * (pool NoB * F))) (hg : geoOk n P = true) (hh : ∀ w' X, Sat w' (X * F) → Half w') :
  Calls Tryz.prog 14 #[ptV d, .int .i64 (n : Int)] w (FmtS w d n P F) := by
 have hP : P ≤ 19999 := by have := (geoOk_iff.1 hg); omega
 have := format_any w NoB d n P (Dev.fresh (P + 1)) none F (by rw [wth_none]; exact h) (fresh_ok (P + 1) (by omega)) ⟨rfl, rfl⟩ (by simp [Dev.fresh]) hg (by rw [devLen]) arOk_none hh
 refine this.mono ?_
 rintro e w' (⟨E, hne, _⟩ | ⟨s, j, S', D', o', hE, he, h2, d2, hok⟩)
 ·exact absurd rfl hne
 ·have ho := hok.ar.none rfl
  subst ho
  rw [wth_none] at h2
  exact ⟨s, j, S', D', he, h2, d2, LawS.start (by rw [devLen]) (by omega) rfl rfl rfl hok, hok.dry⟩
end
theorem LawS.room {n P B : Nat} {J : Jr} {D : Dev} {has : Has} (h : LawS n P B J D has) (hg : geoOk n P = true) : 0 < (J.P : Int) - J.us - J.fr := by
 have hgG := geoOk_iff.1 hg
 have := h.sj.room (L := [((0 : Int), zs 480)]) (by omega) (one_batch (by omega) (by omega) (zs_len 480))
 have h1 : 1 ≤ ([((0 : Int), zs 480)] ++ movB J has [((0 : Int), zs 480)]).length := by rw [List.length_append]; simp
 omega
theorem geo_least {n : Nat} (h0 : 4 ≤ n) (h1 : n ≤ 20) : geoOk n ((5 * n + 241) / 2 : Nat) = true := by
 rw [geoOk_iff]; omega
theorem sto_cell {w : World} {s j d n P : Nat} {J : Jr} {F : Assn} (h : Sat w (stoA s j d n P J * F)) : w.cell? ⟨s, 0, none⟩ = some (ptV j) := by
 have h2 : Sat w (pt s (.cells #[ptV j, .int .i64 (n : Int), .int .i64 (P : Int)] 42 (0, 0)) * (jrA j d J * F)) := h.to (by unfold stoA; ac_rfl)
 exact h2.cell 0
theorem Lst.cast {F F' : Assn} {v : Value} {n : Nat} {X : List Int} (h : Lst F v n X) (e : F = F') : Lst F' v n X := e ▸ h
def Crs (n P B : Nat) (D : Dev) : Prop := ∀ K, ∃ J1 h1, Mnt n P B (superE n P) J1 (Dev.again D K) h1
theorem Crs.more {n P B B' : Nat} {D : Dev} (h : Crs n P B D) (hB : B ≤ B') : Crs n P B' D := fun K => by
 obtain ⟨J1, h1, a⟩ := h K
 exact ⟨J1, h1, a.more hB⟩
theorem StAt.old {w w' : World} {b o : Nat} {s : StV} {Q : Assn} (h : StAt w b o s) (hs : Sat w' (Q * whole w)) : w'.cell? ⟨b, o, none⟩ = some (.int .i64 s.kd) ∧ w'.cell? ⟨b, o + 1, none⟩ = some (.int .i64 s.dt) ∧ w'.cell? ⟨b, o + 2, none⟩ = some (.int .i64 s.nn) ∧ w'.cell? ⟨b, o + 3, none⟩ = some (.slice s.ia s.il s.ic) ∧ w'.cell? ⟨b, o + 4, none⟩ = some (.slice s.ka s.kl s.kc) :=
 ⟨hs.cellOld h.c0, hs.cellOld h.c1, hs.cellOld h.c2, hs.cellOld h.c3, hs.cellOld h.c4⟩
theorem ints_old {w w' : World} {a : Option Addr} {len cap : Nat} {zs : List Int} {Q : Assn} (h : IsInts w a len cap zs) (hs : Sat w' (Q * whole w)) : IsInts w' a len cap zs := by
 rcases h with h | ⟨x, h1, h2, h3, h4, h5, h6⟩
 ·exact .inl h
 ·exact .inr ⟨x, h1, h2, h3, h4, fun i hi => hs.cellOld (h5 i hi), h6⟩
end Go.Proofs.YtdafdidmbeecfaaGreatDoor.Su
end
section
namespace Go.Proofs.YtdafdidmbeecfaaGreatDoor.Su
set_option linter.unusedVariables false
set_option linter.unusedSimpArgs false
open Go.RowKit Go.SL Go.Proofs.YtdafdidmbeecfaaGreatDoor Go.Proofs.YtdafdidmbeecfaaGreatDoor.Ba
structure FmR (P : Nat) (D : Dev) : Prop where
 ok : D.Ok
 calm : D.Calm
 wait : D.wait.length ≤ 1000
 sec : D.sec.length = P + 1
theorem FmR.flushed {P : Nat} {D : Dev} (h : FmR P D) (r : Int) : FmR P ({ D.flushed with cr := r } : Dev) := by
 have hfk := Dev.flush_keeps h.ok
 rw [h.calm.flush] at hfk
 exact ⟨cr_ok (hfk.ok h.ok (by have := h.ok.many; omega)) _, cr_calm (flushed_calm h.calm) _, by show (0 : Nat) ≤ _; omega, by show D.flushed.sec.length = _; rw [(flushed_counts _).2.2.2]; exact h.sec⟩
theorem FmR.again {P : Nat} {D : Dev} {K : List Int} (h : D.Ok) (hs : D.sec.length = P + 1) : FmR P (Dev.again D K) :=
 ⟨(again_okS h).1, again_calm _ _, by show (0 : Nat) ≤ _; omega, (again_okS h).2.trans hs⟩
theorem FmR.sj {n P B : Nat} {Sp : List UInt8} {J : Jr} {D : Dev} {has : Has} (h : Sj n P B Sp J D has) (hw : D.wait = []) (hs : D.sec.length = P + 1) : FmR P D := ⟨h.jt.inv.dok, h.jt.inv.calm, by rw [hw]; show (0 : Nat) ≤ _; omega, hs⟩
theorem FmR.disarm {P : Nat} {D : Dev} {o : Ar} (h : FmR P D) : FmR P (Dev.disarm (D.wth o)) :=
 ⟨⟨by show (D.wth o).sec.length ≤ _; rw [wth_sec]; exact h.ok.n, fun x hx => by
   have hx' : x ∈ (D.wth o).wait := hx
   rw [wth_wait] at hx'
   show 0 ≤ x.1 ∧ x.1 < ((D.wth o).sec.length : Int)
   rw [wth_sec]
   exact h.ok.wait x hx', by show (D.wth o).wait.length ≤ _; rw [wth_wait]; exact h.ok.many, by show (0 : Nat) ≤ _; omega⟩, ⟨(wth_down D o).trans h.calm.down, rfl⟩, by show (D.wth o).wait.length ≤ _; rw [wth_wait]; exact h.wait, by show (D.wth o).sec.length = _; rw [wth_sec]; exact h.sec⟩
theorem rds_ints {w : World} {a : Option Addr} {len cap : Nat} {zs : List Int} (h : IsInts w a len cap zs) : Rds w 1 (.slice a len cap) (zs.take len).length (SL.i64v (zs.take len)) ∧ (zs.take len).length = len := by
 rcases h with ⟨rfl, rfl, rfl, rfl⟩ | ⟨x, rfl, h2, h3, h4, h5, h6⟩
 ·exact ⟨⟨rfl, .inl ⟨rfl, rfl⟩⟩, rfl⟩
 ·have hl : (zs.take len).length = len := by rw [List.length_take]; omega
  refine ⟨⟨by simp [SL.i64v], .inr ⟨x, cap, by rw [hl], fun j u hu => ?_⟩⟩, hl⟩
  have hj : j < len := by
   have := (List.getElem?_eq_some_iff.1 hu).1
   simp only [SL.i64v, List.length_map, hl] at this; exact this
  rw [SL.i64v, List.getElem?_map, List.getElem?_take, if_pos hj, List.getElem?_eq_getElem (by omega)] at hu
  rw [h5 j (by omega), List.getD, List.getElem?_eq_getElem (by omega)]
  exact hu
end Go.Proofs.YtdafdidmbeecfaaGreatDoor.Su
end
section
namespace Go.Proofs.YtdafdidmbeecfaaGreatDoor.Su
set_option linter.unusedVariables false
set_option linter.unusedSimpArgs false
open Go.RowKit Go.SL Go.Proofs.YtdafdidmbeecfaaGreatDoor Go.Proofs.YtdafdidmbeecfaaGreatDoor.Ba
theorem and6 (n : Int) : bits .and .i64 n 63 = n % 64 := and_mask 6 (by decide) n 63 rfl
def RdsTo (n P B : Nat) (E : Dev) (R : Has → Prop) : Prop := ∃ J1 h1, Mnt n P B (superE n P) J1 E h1 ∧ R h1
def Or2 (n : Nat) (X Y : List Int) (h : Has) : Prop := SaysK h X n ∨ SaysK h Y n
def Or3 (n : Nat) (X Y Z : List Int) (h : Has) : Prop := SaysK h X n ∨ SaysK h Y n ∨ SaysK h Z n
theorem RdsTo.more {n P B B' : Nat} {E : Dev} {R : Has → Prop} (h : RdsTo n P B E R) (hB : B ≤ B') : RdsTo n P B' E R := by
 obtain ⟨J1, h1, a, b⟩ := h
 exact ⟨J1, h1, a.more hB, b⟩
theorem RdsTo.imp {n P B : Nat} {E : Dev} {R R' : Has → Prop} (h : RdsTo n P B E R) (hi : ∀ h, R h → R' h) : RdsTo n P B E R' := by
 obtain ⟨J1, h1, a, b⟩ := h
 exact ⟨J1, h1, a, hi _ b⟩
structure CrS (n P B : Nat) (J : Jr) (D : Dev) (has : Has) (o : Ar) (X Y : List Int) : Prop where
 sj : Sj n P B (superE n P) J D has
 sec : D.sec.length = P + 1
 ok : arOk o
 says : SaysK has X n
 crs : ∀ K, RdsTo n P B (Dev.again D K) (Or2 n X Y)
theorem CrS.more {n P B B' : Nat} {J : Jr} {D : Dev} {has : Has} {o : Ar} {X Y : List Int} (h : CrS n P B J D has o X Y) (hB : B ≤ B') : CrS n P B' J D has o X Y :=
 ⟨h.sj.more hB, h.sec, h.ok, h.says, fun K => (h.crs K).more hB⟩
theorem CrS.dry {n P B : Nat} {J : Jr} {D : Dev} {has : Has} {o : Ar} {X : List Int} (h : Sj n P B (superE n P) J D has) (hs : D.sec.length = P + 1) (ho : arOk o) (hw : D.wait = []) (hX : SaysK has X n) (Y : List Int) : CrS n P B J D has o X Y :=
 ⟨h, hs, ho, hX, fun K => ⟨J, has, h.mnt.dry hw, .inl hX⟩⟩
theorem again_sec (D : Dev) (K : List Int) : (Dev.again D K).sec.length = D.sec.length := (fates_keep D K D.wait.length).2.2
section
variable (w : World) (S : Hp) (s j d n P B : Nat) (J : Jr) (D : Dev) (has : Has) (o : Ar) (X Y : List Int) (F : Assn)
def CommA (v : Value) (L : Wo) (e : Ending) (w' : World) : Prop :=
  ∃ S', Ext S S' ∧ Side w w' ∧
    ((∃ J' D' o', e = .returned (.int .i64 0) ∧ Sat w' (stoA s j d n P J' * (devA S' d (Dev.wth D' o') * (pool S' * (wrsA v L * F)))) ∧ CrS n P (B + 1) J' D' (updB has L.bl) o' (withL X L.bl) X) ∨
     (∃ J' E K, e = .returned (.int .i64 2) ∧ Sat w' (stoA s j d n P J' * (devA S' d (E.crash K) * (pool S' * (wrsA v L * F)))) ∧ (Dev.again E K).sec.length = P + 1 ∧ RdsTo n P (B + 1) (Dev.again E K) (Or3 n (withL X L.bl) X Y)))
theorem commitA_any (v : Value) (L : Wo) (h : Sat w (stoA s j d n P J * (devA S d (D.wth o) * (pool S * (wrsA v L * F))))) (hC : CrS n P B J D has o X Y) (hX : X.length = n) (hg : geoOk n P = true) (hB : B ≤ 1000000) (hW : WIn11 n v L) (h0 : 1 ≤ L.length) :
  Calls Tryz.prog 19 #[ptV j, v] w (CommA w S s j d n P B has X Y F v L) := by
 have hb := hW.batch h0
 have hgG := geoOk_iff.1 hg
 have hP : 5 * n + 240 ≤ 2 * P := by omega
 have hI := hC.sj.jt.inv
 have hsy := says_with hX hC.says hW
 have hc := jcommit_any w S j d J (D.wth o) (wrsA v L * (pt s (.cells #[ptV j, .int .i64 (n : Int), .int .i64 (P : Int)] 42 (0, 0)) * F)) v L.wr (h.to (by unfold stoA; ac_rfl)) hI.ok hI.nums (wth_ok hI.dok hC.ok) (by have := hW.l24; simp [Wo.wr]; omega) (wrsA_reads S v L hW.b480 _) true ⟨fun _ => may_batch (by rw [hC.sj.jt.jn]; exact hb), fun _ => rfl⟩
 have e : plainW L.wr = L.bl := by
  unfold plainW Wo.wr Wo.bl
  rw [List.map_map]; rfl
 rw [e] at hc
 have hS := (hC.sj.commit hP hB hb).2
 rcases hC.sj.commitA hP hB hb hC.ok with ⟨o', x1, x2, x3, hR⟩ | ⟨E, J', hne, hmid, hR, _⟩
 ·rw [hR] at hc
  refine hc.mono ?_
  rintro e' w' ⟨S', hE, rfl, h2, d2⟩
  refine ⟨S', hE, d2, .inl ⟨_, _, o', rfl, h2.to (by unfold stoA; ac_rfl), ⟨hS, ?_, x1, hsy, fun K => ?_⟩⟩⟩
  ·show D.flushed.sec.length = _
   rw [(flushed_counts _).2.2.2]; exact hC.sec
  ·rcases mid_crash (keep := K) (mid_devC J D has L.bl) hC.sj hP hB hb with ⟨J1, h1⟩ | ⟨J1, h1⟩
   ·exact ⟨J1, _, h1, .inr hC.says⟩
   ·exact ⟨J1, _, h1, .inl hsy⟩
 ·rw [hR] at hc
  refine hc.mono ?_
  rintro e' w' ⟨S', hE, rfl, h2, d2⟩
  refine ⟨S', hE, d2, .inr ⟨J', E, arK o, rfl, h2.to (by unfold stoA; ac_rfl), ?_, ?_⟩⟩
  ·rw [again_sec]
   rcases hmid with rfl | ⟨m, hm⟩
   ·exact hC.sec
   ·rw [hm.sec, (flushed_counts D).2.2.2]; exact hC.sec
  ·rcases hmid with rfl | ⟨m, hm⟩
   ·refine ((hC.crs (arK o)).more (Nat.le_succ _)).imp fun h hh => ?_
    rcases hh with hh | hh
    ·exact .inr (.inl hh)
    ·exact .inr (.inr hh)
   ·rcases mid_crash (keep := arK o) hm hC.sj hP hB hb with ⟨J1, h1⟩ | ⟨J1, h1⟩
    ·exact ⟨J1, _, h1, .inr (.inl hC.says)⟩
    ·exact ⟨J1, _, h1, .inl hsy⟩
def SyncA (e : Ending) (w' : World) : Prop :=
  Side w w' ∧
    ((∃ D' o', e = .returned (.int .i64 0) ∧ Sat w' (stoA s j d n P J * (devA S d (Dev.wth D' o') * F)) ∧ CrS n P B J D' has o' X X) ∨
     (∃ J' E K, e = .returned (.int .i64 2) ∧ Sat w' (stoA s j d n P J' * (devA S d (E.crash K) * F)) ∧ (Dev.again E K).sec.length = P + 1 ∧ RdsTo n P B (Dev.again E K) (Or2 n X Y)))
theorem syncA_any (h : Sat w (stoA s j d n P J * (devA S d (D.wth o) * F))) (hC : CrS n P B J D has o X Y) :
  Calls Tryz.prog 27 #[ptV s] w (SyncA w S s j d n P B J has X Y F) := by
 have := sync_any w S s j d n P J (D.wth o) F h (wth_ok hC.sj.jt.inv.dok hC.ok)
 rcases flush_armed hC.sj.jt.inv hC.ok with ⟨_, hR⟩ | ⟨_, hR⟩
 ·rw [hR] at this
  refine this.mono ?_
  rintro e w' ⟨rfl, h2, d2⟩
  exact ⟨d2, .inl ⟨_, _, rfl, h2, CrS.dry hC.sj.flushed (by rw [(flushed_counts _).2.2.2]; exact hC.sec) hC.ok.dec rfl hC.says X⟩⟩
 ·rw [hR] at this
  refine this.mono ?_
  rintro e w' ⟨rfl, h2, d2⟩
  exact ⟨d2, .inr ⟨_, D, arK o, rfl, h2, by rw [again_sec]; exact hC.sec, hC.crs _⟩⟩
def MountA (e : Ending) (w' : World) : Prop :=
  ∃ S', Ext S S' ∧ Side w w' ∧
    ((∃ s j J' D' has' o', e = .returned (.tuple #[ptV s, .int .i64 0]) ∧ Sat w' (stoA s j d n P J' * (devA S' d (Dev.wth D' o') * (pool S' * F))) ∧ CrS n P (B + 2) J' D' has' o' X X) ∨
     (∃ E K, e = .returned (.tuple #[.pointer none, .int .i64 2]) ∧ Sat w' (devA S' d (E.crash K) * (pool S' * F)) ∧ (Dev.again E K).sec.length = P + 1 ∧ RdsTo n P (B + 2) (Dev.again E K) (Or2 n X Y)))
theorem mountA_any (h : Sat w (devA S d (D.wth o) * (pool S * F))) (hC : CrS n P B J D has o X Y) (hg : geoOk n P = true) (hB : B ≤ 999990) (hh : ∀ w' X, Sat w' (X * F) → Half w') :
  Calls Tryz.prog 12 #[ptV d] w (MountA w S d n P B X Y F) := by
 refine (mount_any w S d n P B J D has o F h hC.sj.mnt hB hg hC.sec hC.ok hh).mono ?_
 rintro e w' (⟨E, hne, hse, hst, S', hE, rfl, h2, d2⟩ | ⟨s, j, S', J', D', has', o', hE, rfl, h2, d2, hok⟩)
 ·refine ⟨S', hE, d2, .inr ⟨E, arK o, rfl, h2, by rw [again_sec, hse]; exact hC.sec, ?_⟩⟩
  rcases hst with ⟨_, rfl⟩ | ⟨J1, h1, hM, hs⟩
  ·exact (hC.crs _).more (by omega)
  ·exact ⟨J1, h1, hM, .inl (says_same hC.says hs)⟩
 ·exact ⟨S', hE, d2, .inl ⟨s, j, J', D', has', o', rfl, h2, CrS.dry hok.sj (hok.sec.trans hC.sec) hok.ar.ok hok.dry (says_same hC.says hok.same) X⟩⟩
def UpS (sv : Nat) (R : Has → Prop) (e : Ending) (w' : World) : Prop :=
 ∃ s j S' J' D' has', Ext S S' ∧ e = .returned (.bool true) ∧ Sat w' (pt sv (.cells #[ptV s] 29 (0, 0)) * (stoA s j d n P J' * (devA S' d D' * (pool S' * F)))) ∧ Side w w' ∧ Sj n P (B + 2) (superE n P) J' D' has' ∧ D'.sec.length = P + 1 ∧ D'.wait = [] ∧ ∃ h1, R h1 ∧ SameH has' h1
theorem up_any (sv : Nat) (R : Has → Prop) (E : Dev) (K : List Int) (ov : Value) (h : Sat w (devA S d (E.crash K) * (pool S * (pt sv (.cells #[ov] 29 (0, 0)) * F)))) (hs : (Dev.again E K).sec.length = P + 1) (hR : RdsTo n P B (Dev.again E K) R) (hg : geoOk n P = true) (hB : B ≤ 999990) (hh : ∀ w' X, Sat w' (X * F) → Half w') :
  Calls Tryz.prog 26 #[ptV d, ptV sv] w (UpS w S d n P B F sv R) := by
 obtain ⟨J1, h1, hM, hr⟩ := hR
 refine (again11_any w S d sv n P B J1 (E.crash K) (Dev.again E K) h1 ov F h rfl hM hB hg hs hh).mono ?_
 rintro e w' ⟨s, j, S', J', D', has', hE, rfl, h2, d2, hok⟩
 exact ⟨s, j, S', J', D', has', hE, rfl, h2, d2, hok.sj, hok.sec.trans hs, hok.dry, h1, hr, hok.same⟩
end
theorem disarm_sj {n P B : Nat} {Sp : List UInt8} {J : Jr} {D : Dev} {has : Has} (h : Sj n P B Sp J D has) (o : Ar) : Sj n P B Sp J (Dev.disarm (D.wth o)) has := by
 have ht : ∀ a, (Dev.disarm (D.wth o)).tells a = D.tells a := fun a => (show (Dev.disarm (D.wth o)).tells a = (D.wth o).tells a from rfl).trans (wth_tells D o a)
 have hI := h.jt.inv
 have hk : (Dev.disarm (D.wth o)).Ok := ⟨by show (D.wth o).sec.length ≤ _; rw [wth_sec]; exact hI.dok.n, fun x hx => by
   have hx' : x ∈ (D.wth o).wait := hx
   rw [wth_wait] at hx'
   show 0 ≤ x.1 ∧ x.1 < ((D.wth o).sec.length : Int)
   rw [wth_sec]
   exact hI.dok.wait x hx', by show (D.wth o).wait.length ≤ _; rw [wth_wait]; exact hI.dok.many, by show (0 : Nat) ≤ _; omega⟩
 exact h.dev (hI.dev hk ⟨(wth_down D o).trans hI.calm.down, rfl⟩ (by show (D.wth o).sec.length = _; rw [wth_sec]) fun a _ => ht a) fun a _ => ht a
theorem arm_wth (D : Dev) (o : Ar) (N : Nat) (K : List Int) : Dev.arm (D.wth o) (N : Int) K = D.wth (some (N, K)) := by cases o <;> rfl
theorem ints_take {w : World} {a : Option Addr} {len cap : Nat} {zs : List Int} (h : IsInts w a len cap zs) : (zs.take len).length = len ∧ ∀ i, i < len → (zs.take len).getD i 0 = zs.getD i 0 := by
 have hl : len ≤ zs.length := by
  rcases h with ⟨_, h, _⟩ | ⟨x, _, h1, _, h2, _⟩ <;> omega
 refine ⟨by rw [List.length_take]; omega, fun i hi => ?_⟩
 simp [List.getD, List.getElem?_take, hi]
theorem keepR_in {w : World} {a : Option Addr} {len cap : Nat} {zs : List Int} (h : IsInts w a len cap zs) (x : Dx) (S : Hp) (d : Nat) (D : Dev) (F : Assn) : KeepR x S d D (F * whole w) (.slice a len cap) (zs.take len) := by
 obtain ⟨h1, h2⟩ := ints_take h
 refine ⟨a, cap, by rw [h1], by rw [h1]; exact h.len_le, fun i hi => ?_⟩
 rw [h1] at hi
 obtain ⟨b, off, rfl, hc, _, _⟩ := h.cell hi
 refine ⟨b, off, rfl, fun w' Y D' _ hs => ?_⟩
 rw [h2 i hi]
 exact (hs.to (by ac_rfl : _ = (devX { x with Y := Y } S d D' * F) * whole w)).cellOld hc
structure UpD (n P B : Nat) (J : Jr) (D : Dev) (has : Has) : Prop where
 sj : Sj n P B (superE n P) J D has
 wait : D.wait = []
 sec : D.sec.length = P + 1
theorem UpD.cr {n P B : Nat} {J : Jr} {D : Dev} {has : Has} (h : UpD n P B J D has) (r : Int) : UpD n P B J ({ D with cr := r } : Dev) has := ⟨h.sj.cr r, h.wait, h.sec⟩
theorem UpD.crs {n P B : Nat} {J : Jr} {D : Dev} {has : Has} (h : UpD n P B J D has) {X : List Int} (hX : SaysK has X n) (Y : List Int) : CrS n P B J D has none X Y := CrS.dry h.sj h.sec arOk_none h.wait hX Y
theorem copy_run (w : World) (hv : Value) (X : List Int) (n : Nat) (hn : n ≤ 100) (hX : X.length = n) (hr : Rds w 1 hv n (SL.i64v X)) :
  ∃ v' w2, (Builtin.append_ #[45, 45] 45 #[.slice (some ⟨w.heap.size, 0, none⟩) 0 0, hv]).run Tryz.prog (w.alloc (.cells #[] 3 (0, 0))) = .ok v' w2 ∧ Sat w2 (sl 3 1 v' X.length (SL.i64v X) * whole w) ∧ Side w w2 := by
 obtain ⟨i0, hi, hz, hs0, hb0⟩ := info_parts info_int
 have h1 := (Sat.whole w).alloc (.cells #[] 3 (0, 0))
 have hsl := Sat.slOf (n := 0) (cap := 0) (sz := 1) h1 (by omega) (by unfold maxLen; omega) rfl
 obtain ⟨v', w2, hrun, hsat, hside⟩ := Sat.append (P := Tryz.prog) (ty := 45) Tryz.underlying45 hi hz hs0 hb0 rfl hsl (hr.alloc _) (by intro u hu; simp only [SL.i64v, List.mem_map] at hu; obtain ⟨k, _, rfl⟩ := hu; rfl) (by unfold maxLen; omega) (by omega)
 refine ⟨v', w2, hrun, ?_, ((Side.refl w).alloc _).trans hside⟩
 simp only [Nat.zero_add] at hsat
 rw [hX]
 exact hsat
theorem crashK_any (w0 w : World) (S : Hp) (d : Nat) (D : Dev) (o : Ar) (F : Assn) {a : Option Addr} {len cap : Nat} {zs : List Int} (hI : IsInts w0 a len cap zs) (h : Sat w (devA S d (D.wth o) * (F * whole w0))) (hD : (D.wth o).Ok) :
  Calls Tryz.prog 28 #[ptV d, .slice a len cap] w (DevQ S d (D.crash (zs.take len)) (.tuple #[]) (F * whole w0) w) := by
 obtain ⟨x, hx⟩ := h.devEx
 have := crash_any w S d (D.wth o) x (zs.take len) (.slice a len cap) (F * whole w0) hx hD (keepR_in hI x S d (D.wth o) F)
 unfold CrashQ at this
 rw [wth_crash] at this
 exact this
end Go.Proofs.YtdafdidmbeecfaaGreatDoor.Su
end

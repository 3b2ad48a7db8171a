/- file's laws: a space over rows of noughts: what its calls come to; rows, made. -/
import Derived.Test.YtaoohjeaaccnfaaGreatVp
namespace Go.SL
set_option linter.unusedVariables false
set_option linter.unusedSimpArgs false
open Go.RowKit
end Go.SL
namespace Go.Proofs.YtaoohjeaaccnfaaGreat.Fs
set_option linter.unusedVariables false
set_option linter.unusedSimpArgs false
open Go.RowKit Go.SL Go.Proofs.YtaoohjeaaccnfaaGreat.Ba
/-- A space whose batch lies at b. -/
def SpA (n b : Nat) (M : BU) : Assn := ex fun p : Hp × List (Nat × List UInt8) × Value => fact (isZ n p.2.1) * (btA (rowsC n p.2.1 p.2.2) p.1 b M * pool p.1)
theorem Sat.spOpen {w : World} {n b : Nat} {M : BU} {F : Assn} (h : Sat w (SpA n b M * F)) : ∃ S gs v, isZ n gs ∧ Sat w (btA (rowsC n gs v) S b M * (pool S * F)) := by
  obtain ⟨⟨S, gs, v⟩, h1⟩ := Sat.ex_star_iff.1 h
  obtain ⟨h2, h3⟩ := Sat.fact_iff.1 (h1.to (star_assoc _ _ _))
  exact ⟨S, gs, v, h2, h3.to (by ac_rfl)⟩
theorem Sat.spShut {w : World} {n b : Nat} {M : BU} {F : Assn} {S : Hp} {gs : List (Nat × List UInt8)} {v : Value} (hz : isZ n gs) (h : Sat w (btA (rowsC n gs v) S b M * (pool S * F))) : Sat w (SpA n b M * F) :=
  Sat.ex_star_iff.2 ⟨⟨S, gs, v⟩, (Sat.fact_iff.2 ⟨hz, h.to (star_assoc _ _ _).symm⟩ : Sat w (fact (isZ n gs) * (btA (rowsC n gs v) S b M * pool S * F))).to (star_assoc _ _ _).symm⟩
def IQ (n b : Nat) (F : Assn) (w : World) (p : Rs Nat × BU) (e : Ending) (w' : World) : Prop := e = .returned (.tuple #[natV p.1, .int .i64 p.1.code]) ∧ Side w w' ∧ Sat w' (SpA n b p.2 * F)
def DQ (n b : Nat) (F : Assn) (w : World) (p : Rs Unit × BU) (e : Ending) (w' : World) : Prop := e = .returned (.int .i64 p.1.code) ∧ Side w w' ∧ Sat w' (SpA n b p.2 * F)
def bytesOf : Rs (List UInt8) → List UInt8
  | .ok l => l
  | .bad _ => []
def BQ (n b : Nat) (F : Assn) (w : World) (p : Rs (List UInt8) × BU) (e : Ending) (w' : World) : Prop := ∃ v, e = .returned (.tuple #[v, .int .i64 p.1.code]) ∧ Side w w' ∧ Sat w' (bs 5 v (bytesOf p.1) * (SpA n b p.2 * F))
def ndV : Rs Nd → Value
  | .ok x => x.v
  | .bad _ => zeroNdV
def ndOk : Rs Nd → Prop
  | .ok x => x.dr.length = 16
  | .bad _ => True
def NQ (n b : Nat) (F : Assn) (w : World) (p : Rs Nd × BU) (e : Ending) (w' : World) : Prop := e = .returned (.tuple #[ndV p.1, .int .i64 p.1.code]) ∧ ndOk p.1 ∧ Side w w' ∧ Sat w' (SpA n b p.2 * F)
section
variable {n b : Nat} {M : BU} {w : World} {F : Assn}
theorem DQ.of {gs : List (Nat × List UInt8)} {v : Value} {S : Hp} {p : Rs Unit × BU} {e : Ending} {w' : World} (hz : isZ n gs) (h : DoQ (rowsC n gs v) b S F w p e w') : DQ n b F w p e w' := by
  obtain ⟨S', _, d, he, hs⟩ := h
  exact ⟨he, d, Sat.spShut hz hs⟩
theorem IQ.of {gs : List (Nat × List UInt8)} {v : Value} {S : Hp} {p : Rs Nat × BU} {e : Ending} {w' : World} (hz : isZ n gs) (h : SpQ (rowsC n gs v) b S F w p e w') : IQ n b F w p e w' := by
  obtain ⟨S', _, d, he, hs⟩ := h
  exact ⟨he, d, Sat.spShut hz hs⟩
variable (h4 : 4 ≤ n) (hn : n ≤ 1000)
include h4 hn
theorem x_new (kd : Int) (h : Sat w (SpA n b M * F)) : Calls Tryz.prog 15 #[spV b n, .int .i64 kd] w (IQ n b F w (wrun (wnew (zask n) n kd) M)) := by
  obtain ⟨S, gs, v, hz, h1⟩ := Sat.spOpen h
  exact (sp_new (rowsC n gs v) (rowsC_ok v hz hn) n h4 (by omega) b M w S kd F h1).mono fun e w' hq => IQ.of hz hq
theorem x_left (h : Sat w (SpA n b M * F)) : Calls Tryz.prog 13 #[spV b n] w (IQ n b F w (wrun (wleft (zask n) n) M)) := by
  obtain ⟨S, gs, v, hz, h1⟩ := Sat.spOpen h
  exact (sp_left (rowsC n gs v) (rowsC_ok v hz hn) n h4 (by omega) b M w S F h1).mono fun e w' hq => IQ.of hz hq
theorem x_need (id : Int) (h : Sat w (SpA n b M * F)) : Calls Tryz.prog 50 #[spV b n, .int .i64 id] w (IQ n b F w (wrun (wneedb (zask n) n id) M)) := by
  obtain ⟨S, gs, v, hz, h1⟩ := Sat.spOpen h
  exact (sp_need (rowsC n gs v) (rowsC_ok v hz hn) n h4 (by omega) b M w S id F h1).mono fun e w' hq => IQ.of hz hq
theorem x_format (h : Sat w (SpA n b M * F)) : Calls Tryz.prog 25 #[spV b n] w (DQ n b F w (wrun (wformat (zask n)) M)) := by
  obtain ⟨S, gs, v, hz, h1⟩ := Sat.spOpen h
  exact (sp_format (rowsC n gs v) (rowsC_ok v hz hn) n h4 (by omega) b M w S F h1).mono fun e w' hq => DQ.of hz hq
theorem x_free (id : Int) (h : Sat w (SpA n b M * F)) : Calls Tryz.prog 22 #[spV b n, .int .i64 id] w (DQ n b F w (wrun (wfree (zask n) n id) M)) := by
  obtain ⟨S, gs, v, hz, h1⟩ := Sat.spOpen h
  exact (sp_free (rowsC n gs v) (rowsC_ok v hz hn) n h4 (by omega) b M w S id F h1).mono fun e w' hq => DQ.of hz hq
theorem x_trunc (id z : Int) (h : Sat w (SpA n b M * F)) : Calls Tryz.prog 30 #[spV b n, .int .i64 id, .int .i64 z] w (DQ n b F w (wrun (wtrunc (zask n) n id z) M)) := by
  obtain ⟨S, gs, v, hz, h1⟩ := Sat.spOpen h
  exact (sp_trunc (rowsC n gs v) (rowsC_ok v hz hn) n h4 (by omega) b M w S id z F h1).mono fun e w' hq => DQ.of hz hq
theorem x_writeat (id off : Int) (l : List UInt8) (va : Option Addr) (cap : Nat) (D : Assn) (hD : ∀ W P, Sat W (D * P) → Rd W (.slice va l.length cap) l) (hcap : l.length ≤ cap) (hbig : l.length ≤ 1000000000000) (h : Sat w (SpA n b M * (D * F))) :
    Calls Tryz.prog 21 #[spV b n, .int .i64 id, .int .i64 off, .slice va l.length cap] w (DQ n b (D * F) w (wrun (wwriteAt (zask n) n id off l) M)) := by
  obtain ⟨S, gs, v, hz, h1⟩ := Sat.spOpen h
  exact (sp_writeat (rowsC n gs v) (rowsC_ok v hz hn) n h4 (by omega) b M w S id off l va cap D hD hcap hbig F h1).mono fun e w' hq => DQ.of hz hq
theorem x_readat (id off cnt : Int) (h : Sat w (SpA n b M * F)) : Calls Tryz.prog 49 #[spV b n, .int .i64 id, .int .i64 off, .int .i64 cnt] w (BQ n b F w (wrun (wreadAt (zask n) n id off cnt) M)) := by
  obtain ⟨S, gs, v, hz, h1⟩ := Sat.spOpen h
  refine (sp_readat (rowsC n gs v) (rowsC_ok v hz hn) n h4 (by omega) b M w S id off cnt F h1).mono fun e w' hq => ?_
  generalize hp : wrun (wreadAt (rowsC n gs v).ask n id off cnt) M = p at hq
  rw [show wrun (wreadAt (zask n) n id off cnt) M = p from hp]
  obtain ⟨r, M'⟩ := p
  cases r with
  | ok l =>
    obtain ⟨S', u, _, d, he, hs⟩ := hq
    exact ⟨u, he, d, (Sat.spShut hz (hs.to (by unfold bytesR; ac_rfl : _ = btA (rowsC n gs v) S' b M' * (pool S' * (bs 5 u l * F)))) : Sat w' (SpA n b M' * (bs 5 u l * F))).front2⟩
  | bad c =>
    obtain ⟨S', _, d, he, hs⟩ := hq
    exact ⟨_, he, d, (Sat.spShut hz hs : Sat w' (SpA n b M' * F)).slNil _ _⟩
theorem x_node (id : Int) (h : Sat w (SpA n b M * F)) : Calls Tryz.prog 12 #[spV b n, .int .i64 id] w (NQ n b F w (wrun (wnode (zask n) n id) M)) := by
  obtain ⟨S, gs, v, hz, h1⟩ := Sat.spOpen h
  refine (sp_node (rowsC n gs v) (rowsC_ok v hz hn) n h4 (by omega) b M w S id F h1).mono fun e w' hq => ?_
  generalize hp : wrun (wnode (rowsC n gs v).ask n id) M = p at hq
  rw [show wrun (wnode (zask n) n id) M = p from hp]
  obtain ⟨r, M'⟩ := p
  cases r with
  | ok x =>
    obtain ⟨S', u, _, d, he, hs⟩ := hq
    obtain ⟨⟨rfl, h16⟩, h2⟩ := Sat.fact_iff.1 hs
    exact ⟨he, h16, d, Sat.spShut hz h2⟩
  | bad c =>
    obtain ⟨S', _, d, he, hs⟩ := hq
    exact ⟨he, trivial, d, Sat.spShut hz hs⟩
end
def RowsQ (n : Nat) (F : Assn) (w : World) (e : Ending) (w' : World) : Prop := ∃ v gs, e = .returned v ∧ isZ n gs ∧ Sat w' (rowsR v gs * F) ∧ Side w w'
def RowsRel (n : Nat) (F : Assn) (w : World) (v i : Value) (wr : World) : Prop :=
  ∃ (k : Nat) (gs : List (Nat × List UInt8)), k ≤ n ∧ i = .int .i64 k ∧ isZ k gs ∧ Sat wr (sl 48 1 v k (rowVals gs) * (rowsA 5 gs * F)) ∧ Side w wr
set_option maxRecDepth 100000 in
set_option maxHeartbeats 1000000 in
theorem rows_any (n : Nat) (hn : n ≤ 1000) (F : Assn) (w : World) (h : Sat w F) :
    Calls Tryz.prog 51 #[.int .i64 n] w (RowsQ n F w) := by
  obtain ⟨i0, hi, hz, hs0, hb0⟩ := info_parts info_bytes
  have hn' : (n : Int) ≤ 1000 := by omega
  have hmk : ∀ w, (Instr.makeSlice 48 (.int .i64 480) (.int .i64 480)).run Tryz.prog w = .ok (.slice (some ⟨w.heap.size, 0, none⟩) 480 480) (w.alloc (.cells (u8s (zs 480)) 5 (0, 0))) := make_bytes 480 (by omega)
  obtain ⟨ZB, hZB⟩ : ∃ Z, Z = u8s (zs 480) := ⟨_, rfl⟩
  rw [← hZB] at hmk
  have HZB := SL.hid hZB
  clear hZB
  go_enter Tryz.func51, Tryz.ntmps51
  go_wp2
  go_loopw [3, 4] (fun v i wr => RowsRel n F w v i wr) (fun _ i _ => n - (intOf i).toNat)
  case atStart => exact ⟨0, [], Nat.zero_le _, rfl, rfl, (h.to (emp_star F).symm).slNil _ _, Side.refl w⟩
  case round =>
    obtain ⟨k, gs, hk, rfl, hgs, hsat, hside⟩ := hrel
    have hk' : (k : Int) ≤ 1000 := by omega
    by_cases hlt : k < n
    · have hA := (hsat.alloc (.cells ZB 5 (0, 0))).alloc (.cells #[.slice (some ⟨wr.heap.size, 0, none⟩) 480 480] 48 (0, 0))
      rw [World.size_alloc] at hA
      have hR : Rds ((wr.alloc (.cells ZB 5 (0, 0))).alloc (.cells #[.slice (some ⟨wr.heap.size, 0, none⟩) 480 480] 48 (0, 0))) 1
          (.slice (some ⟨wr.heap.size + 1, 0, none⟩) 1 1) 1 [.slice (some ⟨wr.heap.size, 0, none⟩) 480 480] :=
        ⟨rfl, .inr ⟨_, _, rfl, fun j u hu => by
          rw [Addr.add_lit, Nat.zero_add]
          exact (hA.cell j).trans (by simpa using hu)⟩⟩
      obtain ⟨v', w', hrun, hsat', hside'⟩ := Sat.append (P := Tryz.prog) (ty := 61) (F := rowsA 5 gs * (pt wr.heap.size (.cells ZB 5 (0, 0)) * F)) Tryz.underlying61 hi hz hs0 hb0 rfl (hA.right.to (by ac_rfl)) hR (by simp [Value.oneCell']) (by unfold maxLen; omega) (by omega)
      clear hA hR hi hz hs0 hb0
      have Hrun := hid hrun; clear hrun
      have Hgs := hid hgs; clear hgs
      go_wp2_with (at_builtin; refine wpList_append_run Hrun.out _ _ rfl rfl rfl rfl rfl ?_)
      go_roundw
      case rel =>
        refine ⟨k + 1, gs ++ [(wr.heap.size, zs 480)], by omega, by go_num, ?_, ?_, ?_⟩
        · unfold isZ; rw [List.map_append, Hgs.out, List.replicate_succ']; rfl
        · rw [rowVals_snoc, rowsA_snoc, length_zs, ← HZB.out]
          exact hsat'.to (by ac_rfl)
        · exact ((hside.alloc _).alloc _).trans hside'
      case measure => simp [intOf]; omega
    · have hkn : k = n := by omega
      subst hkn
      go_wp2
      go_ret
      refine ⟨u3, gs, rfl, hgs, ?_, hside⟩
      unfold rowsR
      rw [isZ_len hgs]
      exact hsat.to (star_assoc _ _ _).symm
end Go.Proofs.YtaoohjeaaccnfaaGreat.Fs

/- Steps towards the statement StoreC. -/
import Derived.Test.YtdafdidmbeecfaaGreatDoorStoreCP26
section
namespace Go.Proofs.YtdafdidmbeecfaaGreatDoor
set_option linter.unusedVariables false
set_option linter.unusedSimpArgs false
open Go.RowKit Go.SL
def CommitQ (S : Hp) (j d : Nat) (R : Int × Jr × Dev) (F : Assn) (w : World) (e : Ending) (w' : World) : Prop :=
 ∃ S', Ext S S' ∧ e = .returned (.int .i64 R.1) ∧ Sat w' (jrA j d R.2.1 * (devA S' d R.2.2 * (pool S' * F))) ∧ Side w w'
theorem rdW_at {w : World} {v : Value} {Z : List Wr} (h : RdW w v Z) : Rds w 2 v Z.length (SL.flatW Z) := by
 refine ⟨flatW_length Z, ?_⟩
 rcases h with ⟨rfl, rfl⟩ | ⟨g, o, c, rfl, _, _, hc⟩
 ·exact .inl ⟨rfl, rfl⟩
 ·refine .inr ⟨_, _, rfl, fun i u hu => ?_⟩
  have hlen := flatW_length Z
  have hi : i < Z.length * 2 := by
   rw [← hlen]; exact (List.getElem?_eq_some_iff.1 hu).1
  rw [Addr.add_lit]
  obtain ⟨k, hk⟩ : ∃ k, i = k * 2 ∨ i = k * 2 + 1 := ⟨i / 2, by omega⟩
  have hkl : k < Z.length := by omega
  obtain ⟨h1, h2⟩ := flatW_get Z k hkl
  obtain ⟨q1, q2⟩ := hc k hkl
  rw [List.getD, List.getElem?_eq_getElem hkl] at q1 q2
  rcases hk with rfl | rfl
  ·rw [h1] at hu; injection hu with hu; rw [← hu]; exact q1
  ·rw [h2] at hu; injection hu with hu; rw [← hu]; exact q2
theorem flatW_one (Z : List Wr) (h : ∀ z ∈ Z, ∃ a n c, z.2.1 = .slice a n c) : ∀ u ∈ SL.flatW Z, u.oneCell' = true := by
 intro u hu
 obtain ⟨z, hz, hu⟩ := List.mem_flatMap.1 hu
 obtain ⟨a, n, c, e⟩ := h z hz
 simp only [List.mem_cons, List.not_mem_nil, or_false] at hu
 rcases hu with rfl | rfl
 ·rfl
 ·rw [e]; rfl
theorem rdW_of_sl {w : World} {T : TypeId} {v : Value} {Z : List Wr} {F : Assn} (h : Sat w (sl T 2 v Z.length (SL.flatW Z) * F)) : RdW w v Z := by
 rcases h.slCases with ⟨rfl, h0, _, _⟩ | ⟨g, cap, cur, rfl, h3, h4, h5, h6, _⟩
 ·exact .inl ⟨rfl, List.eq_nil_of_length_eq_zero h0⟩
 ·refine .inr ⟨g, 0, cap, rfl, h3, h4, fun k hk => ?_⟩
  obtain ⟨q1, q2⟩ := h.writeCells hk
  rw [Nat.zero_add, List.getD, List.getElem?_eq_getElem hk]
  exact ⟨q1, q2⟩
theorem mayW_mem {n : Int} {Z : List Wr} (h : mayW n Z) {z : Wr} (hz : z ∈ Z) : 0 ≤ z.1 ∧ z.1 < n ∧ z.2.2.length = 480 := by
 obtain ⟨k, hk, rfl⟩ := List.getElem_of_mem hz
 have := h.ok k hk
 unfold okW at this
 rw [List.getD, List.getElem?_eq_getElem hk] at this
 exact ⟨this.1, this.2.1, this.2.2.1⟩
theorem val_shape' {T : TypeId} {S : Hp} {v : Value} {l : List UInt8} (h : Val T S v l) : ∃ a n c, v = .slice a n c := by
 rcases h.2 with ⟨rfl, _⟩ | ⟨g, cap, cur, rfl, _⟩ <;> exact ⟨_, _, _, rfl⟩
theorem flush_wait {D : Dev} (h : D.flush.1 = 0) : D.flush.2.wait = [] := by
 unfold Dev.flush at h ⊢
 split
 ·rfl
 ·rename_i h1; rw [if_neg h1] at h; exact absurd h (show (2 : Int) ≠ 0 by decide)
theorem ringGo_enters : ∀ args w, (callFunc 59 args).run Tryz.prog w = .ok (.enter 59 args) w := enters Tryz.func59 (by kernel_rfl) rfl
def PutRel (n t : Nat) (J : Jr) (L : Bl) (X : Assn) (w : World) (i : Value) (wr : World) : Prop :=
 ∃ k : Nat, k ≤ n ∧ i = .int .i64 (k : Int) ∧ Sat wr (tableA t (J.putN L k) * X) ∧ Side w wr
set_option maxRecDepth 100000 in
set_option maxHeartbeats 2000000 in
theorem jcommit_any (w : World) (S : Hp) (j d : Nat) (J : Jr) (D : Dev) (F : Assn) (v : Value) (Z : List Wr) (h : Sat w (jrA j d J * (devA S d D * (pool S * F)))) (hJ : J.Ok) (hN : J.Nums) (hD : D.Ok)
  (hl : Z.length ≤ 1000000) (hr : Reads S v Z F) (B : Bool) (hB : B = true ↔ mayW J.n Z) :
  Calls Tryz.prog 19 #[ptV j, v] w (CommitQ S j d (jcommit J D B (plainW Z)) F w) := by
 have hv := hr S (jrA j d J * devA S d D) w (Ext.refl S) (h.to (by ac_rfl))
 have hsh : ∀ z ∈ Z, ∃ a c, z.2.1 = .slice a z.2.2.length c := fun z hz => (hv.2 z hz).shape
 have hb := jbatch_any w j d J _ h v Z hv.1 hsh hl B hB
 obtain ⟨aa, ac, hav⟩ : ∃ aa ac, v = .slice aa Z.length ac := by
  rcases hv.1 with ⟨rfl, h⟩ | ⟨g, o, c, rfl, _⟩
  ·rw [h]; exact ⟨_, _, rfl⟩
  ·exact ⟨_, _, rfl⟩
 subst hav
 obtain ⟨x, hx⟩ := h.jrOpen
 obtain ⟨t, hx⟩ := hx
 have c6 : w.cell? ⟨j, 6, none⟩ = some (.int .u64 J.sq) := hx.cell 6
 clear hx hv
 obtain ⟨O, hO⟩ : ∃ O, O = jcommit J D B (plainW Z) := ⟨_, rfl⟩
 rw [← hO]
 unfold jcommit at hO
 cases B with
 | false =>
  have HR := SL.hid hr
  rw [if_pos rfl] at hO
  have HO := SL.hid hO
  clear hB hr c6 hO
  go_enter Tryz.func19, Tryz.ntmps19
  go_wp2_with fail
  (with_reducible refine hb.mono ?_)
  rintro e w1 ⟨rfl, h1, d1⟩
  have h2 := h1.keepW h
  clear hb h1
  go_wp2
  go_ret
  exact ⟨S, Ext.refl S, by rw [HO.out]; rfl, by rw [HO.out]; exact h2, d1⟩
 | true =>
  have hmay := hB.1 rfl
  rw [if_neg (by simp)] at hO
  by_cases hq : 281474976710655 ≤ J.sq
  ·rw [if_pos hq] at hO
   have HO := SL.hid hO
   have HM := SL.hid hmay; have HR := SL.hid hr
   clear hB hmay hr hO
   go_enter Tryz.func19, Tryz.ntmps19
   go_wp2_with fail
   (with_reducible refine hb.mono ?_)
   rintro e w1 ⟨m, rfl, h1, d1⟩
   have h2 := (h1.under h).right
   have c6' : w1.cell? ⟨j, 6, none⟩ = some (.int .u64 J.sq) := h1.cellOld c6
   clear hb h1 h c6
   go_wp2
   go_ret
   exact ⟨S, Ext.refl S, by rw [HO.out]; rfl, by rw [HO.out]; exact h2, d1⟩
  ·rw [if_neg hq] at hO
   have hnum := hN.numbers (by omega)
   have hZ24 : Z.length ≤ 24 := hmay.n1
   have hZ24' : (Z.length : Int) ≤ 24 := by omega
   have HM := SL.hid hmay; have HR := SL.hid hr; have HO := SL.hid hO
   clear hB hmay hr hO
   go_enter Tryz.func19, Tryz.ntmps19
   go_wp2_with fail
   (with_reducible refine hb.mono ?_)
   rintro e w1 ⟨m, rfl, h1, d1⟩
   have h2 := h1.under h
   have c6' : w1.cell? ⟨j, 6, none⟩ = some (.int .u64 J.sq) := h1.cellOld c6
   clear hb h1 h c6
   have hfl := jflush_any w1 S j d J D (pool S * (mp m (ownN Z Z.length) * F)) (h2.to (by ac_rfl)) hD
   by_cases hf0 : (J.flush D).1 = 0
   ·obtain ⟨e1, e2, hbr, hfd⟩ := jflush_ok hf0
    have hO := HO.out
    rw [if_neg (by simpa using hf0)] at hO
    clear HO
    have hD1 : (J.flush D).2.2.Ok := by rw [e2]; exact (Dev.flush_keeps hD).ok hD (by have := hD.many; omega)
    have hw1 : (J.flush D).2.2.wait = [] := by rw [e2]; exact flush_wait hfd
    have hown : ownN (wrOf (plainW Z)) (plainW Z).length = ownN Z Z.length := by rw [plain_len]; exact ownN_plain (plain_wrOf _) _
    have hcr := Jr.cleaned_range hJ.us0 Z.length
    have hus1 := hJ.us1
    have hmv := fun (w2 : World) (r t : Nat) h => moves_anyX w2 S j d r t m J (J.flush D).2.2 (ownN Z Z.length) (J.cleaned Z.length).toNat F h hJ hD1 (by omega)
    rw [Int.toNat_of_nonneg hcr.1] at hmv
    have hRf : J.flush D = (0, J, (J.flush D).2.2) := Prod.ext hf0 (Prod.ext e1 rfl)
    unfold jcommit2 jmoved at hO
    rw [hown, plain_len] at hO
    generalize (J.flush D).2.2 = D1 at *
    rw [hRf] at hfl
    have hMok := Jr.moves_ok (J := J) (D := D1) (own := ownN Z Z.length) (L := ownersN J.T J.P (Jr.tail J) (J.cleaned Z.length).toNat)
    have hMk := Jr.moves_keeps J hD1 (ownN Z Z.length) (ownersN J.T J.P (Jr.tail J) (J.cleaned Z.length).toNat)
    have hMl := Jr.moves_len (J := J) (D := D1) (own := ownN Z Z.length) (ownersN J.T J.P (Jr.tail J) (J.cleaned Z.length).toNat)
    have hMi := moved_ids hJ hN (D := D1) (own := ownN Z Z.length) (P := J.P) (first := Jr.tail J) (m := (J.cleaned Z.length).toNat)
    have hM4 := moves_480 (J := J) (D := D1) (own := ownN Z Z.length) (L := ownersN J.T J.P (Jr.tail J) (J.cleaned Z.length).toNat)
    replace hMl : (J.moves D1 (ownN Z Z.length) (ownersN J.T J.P (Jr.tail J) (J.cleaned Z.length).toNat)).1.2.length ≤ 48 := by
     have := ownersN_len J.T J.P (Jr.tail J) (J.cleaned Z.length).toNat
     omega
    generalize J.moves D1 (ownN Z Z.length) (ownersN J.T J.P (Jr.tail J) (J.cleaned Z.length).toNat) = M at *
    have hMD : M.2.2.Ok := hMk.ok hD1 (by rw [hw1]; simp)
    have hMw : M.2.2.wait.length = 0 := by have := hMk.many; rw [hw1] at this; simpa using this
    have hc : (J.us < 2 * (Z.length : Int) ∧ J.cleaned Z.length = J.us) ∨ (¬ J.us < 2 * (Z.length : Int) ∧ J.cleaned Z.length = 2 * (Z.length : Int)) := by
     unfold Jr.cleaned
     split
     ·exact .inl ⟨by assumption, rfl⟩
     ·exact .inr ⟨by assumption, rfl⟩
    have HO := SL.hid hO; have Hcr := SL.hid hcr; have HMk := SL.hid hMk; have HMl := SL.hid hMl; have HMi := SL.hid hMi; have HM4 := SL.hid hM4; have HMD := SL.hid hMD; have HMw := SL.hid hMw; have HMok := SL.hid hMok
    clear hf0 e1 e2 hfd hbr hown h2 hO hRf hcr hD1 hw1 hMk hMl hMi hM4 hMD hMw hMok
    rcases hc with ⟨hc1, hcv⟩ | ⟨hc1, hcv⟩
    all_goals
     have Hcv := SL.hid hcv
     rw [hcv] at hmv
     clear hcv
     go_wp2_with fail
     (with_reducible refine hfl.mono ?_)
     rintro e w2 ⟨rfl, h3, d2⟩
     obtain ⟨r, t, h4⟩ := h3.jrToX
     have k8 : w2.cell? ⟨j, 8, none⟩ = some (.int .i64 J.us) := h4.jrOpenX.cell 8
     have hmv1 := hmv w2 r t h4
     clear hmv hfl h3 c6' h4
     go_wp2_with fail
     (with_reducible refine hmv1.mono ?_)
     rintro e w3 ⟨S3, v3, Z3, hE3, rfl, hZ3, hV3, h5, d3⟩
     clear hmv1 k8
     by_cases hm0 : M.1.1 = 0
     ·have hMJ := HMok.out hm0
      obtain ⟨⟨mc, ml⟩, mJ, mD⟩ := M
      dsimp only at hm0 hMJ hZ3 h5 HO HMk HMl HMi HM4 HMD HMw
      subst hm0 hMJ
      have hO := HO.out
      rw [if_neg (by simp)] at hO
      obtain ⟨va, vc, rfl⟩ := sl_shape h5.front4
      have hA := h5.alloc (.cells #[.slice aa Z.length ac, .slice va Z3.length vc] 46 (0, 0))
      have dA := ((d1.trans d2).trans d3).alloc (.cells #[.slice aa Z.length ac, .slice va Z3.length vc] 46 (0, 0))
      have hrA := HR.out S3 (pt w3.heap.size (.cells #[.slice aa Z.length ac, .slice va Z3.length vc] 46 (0, 0)) * (jrX j d r t mJ * (devA S3 d mD * (sl 57 2 (.slice va Z3.length vc) Z3.length (SL.flatW Z3) * mp m (ownN Z Z.length))))) _ hE3 (hA.to (by ac_rfl))
      have hZ3l : Z3.length ≤ 48 := by have := HMl.out; rw [← hZ3, List.length_map] at this; exact this
      have hcc := concat_any (w3.alloc (.cells #[.slice aa Z.length ac, .slice va Z3.length vc] 46 (0, 0))) w3.heap.size Z.length Z3.length aa va ac vc (SL.flatW Z) (SL.flatW Z3) (hA.cell 0) (hA.cell 1) (rdW_at hrA.1) hA.front5.rds
       (flatW_one Z fun z hz => by obtain ⟨a, c, e⟩ := hsh z hz; exact ⟨a, _, c, e⟩) (flatW_one Z3 fun z hz => val_shape' (hV3 z hz)) (by omega) (by omega)
      have e5 : SL.flatW Z ++ SL.flatW Z3 = SL.flatW (Z ++ Z3) := by simp [SL.flatW]
      have e6 : plainW Z ++ ml = plainW (Z ++ Z3) := by rw [← hZ3]; simp [plainW]
      rw [e5] at hcc
      rw [e6, plain_len, Jr.writeN_plain mJ (Z := wrOf (plainW (Z ++ Z3))) (Z' := Z ++ Z3) mD (plain_wrOf _), List.length_append] at hO
      have hn5 : Z.length + Z3.length ≤ 72 := by omega
      have hids : ∀ z ∈ Z ++ Z3, 0 ≤ z.1 ∧ z.1 < 3840 ∧ z.2.2.length = 480 := by
       intro z hz
       rcases List.mem_append.1 hz with hz | hz
       ·have := mayW_mem HM.out hz
        have := hN.n1
        exact ⟨by omega, by omega, by omega⟩
       ·have hm : (z.1, z.2.2) ∈ ml := by rw [← hZ3]; exact List.mem_map.2 ⟨z, hz, rfl⟩
        have h1 := HMi.out _ hm
        exact ⟨h1.1, h1.2, HM4.out _ hm⟩
      have hrall : ∀ v5, Reads S3 v5 (Z ++ Z3) (sl 57 2 v5 (Z ++ Z3).length (SL.flatW (Z ++ Z3)) * F) := by
       intro v5 S' X w' e hs
       refine ⟨rdW_of_sl (hs.to (by ac_rfl : _ = sl 57 2 v5 (Z ++ Z3).length (SL.flatW (Z ++ Z3)) * (X * (pool S' * F)))), fun z hz => ?_⟩
       rcases List.mem_append.1 hz with hz | hz
       ·exact (HR.out S' (X * sl 57 2 v5 (Z ++ Z3).length (SL.flatW (Z ++ Z3))) w' (hE3.trans e) (hs.to (by ac_rfl))).2 z hz
       ·exact ((hV3 z hz).mono e).rd hs.front2
      have hlen5 : (Z ++ Z3).length = Z.length + Z3.length := List.length_append
      rw [hlen5] at hrall
      generalize Z ++ Z3 = Z5 at hcc hO hids hrall hlen5
      generalize Z.length + Z3.length = n5 at hcc hO hn5 hrall hlen5
      have HO2 := SL.hid hO; have Hids := SL.hid hids; have Hrall := SL.hid hrall; have Hl5 := SL.hid hlen5; have HhA := SL.hid hA
      have hn5' : (n5 : Int) ≤ 72 := by omega
      clear hO HO hrA e5 e6 hids hrall hlen5 h5 hV3 hZ3 HMk HMl HMi HM4 HMok HR HM hA hsh
      go_wp2_with fail
      (with_reducible refine hcc.mono ?_)
      rintro e w5 ⟨v5, rfl, h6, d6⟩
      have H7 : Sat w5 (jrA j d mJ * (devA S3 d mD * (pool S3 * (sl 57 2 v5 n5 (SL.flatW Z5) * F)))) :=
       ((h6.under HhA.out).to (by ac_rfl : _ = (pt w3.heap.size (.cells #[.slice aa Z.length ac, .slice va Z3.length vc] 46 (0, 0)) * (sl 57 2 (.slice va Z3.length vc) Z3.length (SL.flatW Z3) * mp m (ownN Z Z.length))) * (jrX j d r t mJ * (devA S3 d mD * (pool S3 * (sl 57 2 v5 n5 (SL.flatW Z5) * F)))))).right.jrOfX
      have D7 := dA.trans d6
      obtain ⟨ba, bc, rfl⟩ := sl_shape h6
      have hroom := room_any w5 j d mJ _ H7 hJ
      clear hcc HhA h6 d6 dA d1 d2 d3
      go_wp2_with fail
      (with_reducible refine hroom.mono ?_)
      rintro e w6 ⟨rfl, h8, d8⟩
      have H8 := h8.keepW H7
      have D8 := D7.trans d8
      clear hroom h8 d8 H7 D7
      by_cases hfull : (mJ.P : Int) - mJ.us - mJ.fr < (n5 : Int)
      ·have hO := HO2.out
       rw [if_pos hfull] at hO
       have HO3 := SL.hid hO
       have H8' := SL.hid H8
       clear hO HO2 H8
       go_wp2
       go_ret
       exact ⟨S3, hE3, by rw [HO3.out]; rfl, by rw [HO3.out]; exact (H8'.out.to (by ac_rfl : _ = sl 57 2 (.slice ba n5 bc) n5 (SL.flatW Z5) * (jrA j d mJ * (devA S3 d mD * (pool S3 * F))))).right, D8⟩
      ·have hO := HO2.out
       rw [if_neg hfull] at hO
       have hwr := jwrite_any w6 S3 j d mJ mD _ (.slice ba n5 bc) Z5 H8 hJ hnum HMD.out (by have := HMw.out; have := Hl5.out; omega) (by have := Hl5.out; omega) Hids.out (Hrall.out _)
       rw [Hl5.out] at hwr
       generalize hW : mJ.writeN mD Z5 n5 = R at hwr hO
       obtain ⟨rc, D4⟩ := R
       dsimp only at hwr hO
       have HO3 := SL.hid hO
       clear hO HO2 H8 hW
       go_wp2_with fail
       (with_reducible refine hwr.mono ?_)
       rintro e w7 ⟨S4, hE4, rfl, h9, d9⟩
       have D9 := D8.trans d9
       clear hwr d9 D8
       by_cases hrc : rc = 0
       ·have hO := HO3.out
        dsimp only at h9
        rw [if_neg (by simpa using hrc)] at hO
        rw [if_pos hrc] at h9
        subst hrc
        have hsh5 : ∀ z ∈ Z5, ∃ a c, z.2.1 = .slice a z.2.2.length c := fun z hz => ((Hrall.out _ S4 (jrA j d mJ * devA S4 d D4) w7 hE4 (h9.to (by ac_rfl))).2 z hz).shape
        obtain ⟨r4, t4, h10⟩ := h9.jrToX
        obtain ⟨REST, hREST⟩ : ∃ X, X = devA S4 d D4 * (pool S4 * F) := ⟨_, rfl⟩
        have H10 : Sat w7 (tableA t4 (mJ.putN (plainW Z5) 0) * (pt j (.cells (mJ.cells d r4 t4) 98 (0, 0)) * (ringA r4 (ringL mJ.P) * (sl 57 2 (.slice ba n5 bc) n5 (SL.flatW Z5) * REST)))) :=
         h10.jrOpenX.to (by rw [hREST]; show _ = tableA t4 mJ.T * _; ac_rfl)
        have HRE := SL.hid hREST; have Hsh5 := SL.hid hsh5
        have HO4 := SL.hid hO
        clear h9 h10 hREST hsh5 hO HO3 Hrall
        go_wp2_with fail
        go_loopw [70] (fun i wr => PutRel n5 t4 mJ (plainW Z5) (pt j (.cells (mJ.cells d r4 t4) 98 (0, 0)) * (ringA r4 (ringL mJ.P) * (sl 57 2 (.slice ba n5 bc) n5 (SL.flatW Z5) * REST))) w i wr) (fun i _ => n5 - (intOf i).toNat)
        case atStart => exact ⟨0, Nat.zero_le _, rfl, H10, D9⟩
        case round =>
         clear H10 D9
         obtain ⟨k, hk, rfl, hsat, hside⟩ := hrel
         by_cases hlt : k < n5
         ·have hlt' : (k : Int) < (n5 : Int) := by omega
          have hl5 := Hl5.out
          have hk5 : k < Z5.length := by omega
          obtain ⟨g, gc, hg⟩ := sl_addr hsat.front4 (by omega)
          obtain ⟨rfl, rfl⟩ : ba = some ⟨g, 0, none⟩ ∧ bc = gc := by injection hg with e1 e2 e3; exact ⟨e1, e3⟩
          obtain ⟨q1, q2⟩ := hsat.front4.writeCells hk5
          obtain ⟨da, dc, hd⟩ := Hsh5.out _ (List.getElem_mem hk5)
          have hpl := (plain_get Z5 k).1
          rw [List.getD, List.getElem?_eq_getElem hk5, Option.getD_some] at hpl
          have hput := Tb.put_len
          have hst : mJ.putN (plainW Z5) (k + 1) = ((mJ.putN (plainW Z5) k).put Z5[k].1 ((mJ.hd + (k : Int)) % (mJ.P : Int))).2 := by rw [hpl]; rfl
          have hTok := putN_ok hJ.T (plainW Z5) k
          generalize Z5[k] = z at q1 q2 hd hst
          obtain ⟨id, dv, db⟩ := z
          dsimp only at q1 q2 hd hst
          subst hd
          generalize db.length = dl at q2
          have hA := hsat.alloc (.cells #[.int .i64 id, .slice da dl dc] 57 (0, 0))
          have dA := hside.alloc (.cells #[.int .i64 id, .slice da dl dc] 57 (0, 0))
          have Hst := SL.hid hst; have HTok := SL.hid hTok
          clear hsat hside hst hTok hpl hput hl5 hk5 hg
          go_wp2_with fail
          generalize wr.alloc (.cells #[.int .i64 id, .slice da dl dc] 57 (0, 0)) = w8 at hA dA ⊢
          generalize wr.heap.size = bw at hA ⊢
          have s0 : w8.cell? ⟨bw, 0, none⟩ = some (.int .i64 id) := hA.cell 0
          have s1 : w8.cell? ⟨j, 1, none⟩ = some (ptV r4) := hA.front3.cell 1
          have s2 : w8.cell? ⟨j, 2, none⟩ = some (ptV t4) := hA.front3.cell 2
          have s7 : w8.cell? ⟨j, 7, none⟩ = some (.int .i64 mJ.hd) := hA.front3.cell 7
          have hAd := Sat.drew hA
          have hgo := go_any w8.drew r4 (ringL mJ.P) mJ.hd (k : Int) _ hAd.front4 (by rw [ringL_length]; exact hJ.p0) (by rw [ringL_length]; have := hJ.p1; omega)
          rw [ringL_length] at hgo
          have hpt := put_any w8.drew t4 (mJ.putN (plainW Z5) k) id ((mJ.hd + (k : Int)) % (mJ.P : Int)) _ hAd.front2 HTok.out
          rw [← Hst.out] at hpt
          generalize (mJ.hd + (k : Int)) % (mJ.P : Int) = pl at hgo hpt
          generalize ((mJ.putN (plainW Z5) k).put id pl).1 = pb at hpt
          clear hA hAd q1 q2
          go_region_held3 (fun w' => w'.cell? ⟨bw, 0, none⟩ = some (.int .i64 id) ∧ w'.cell? ⟨j, 1, none⟩ = some (ptV r4) ∧ w'.cell? ⟨j, 2, none⟩ = some (ptV t4) ∧ w'.cell? ⟨j, 7, none⟩ = some (.int .i64 mJ.hd)) (first | (with_reducible exact ⟨b0, b1, b2, b7⟩) | exact ⟨s0, s1, s2, s7⟩) (first
           | (go_at_call 59; (with_reducible refine hgo.mono ?_); rintro e w9 ⟨rfl, rfl⟩)
           | (go_at_call 58; (with_reducible refine hpt.mono ?_); rintro e w9 ⟨rfl, h9, d9⟩; have b0 : w9.cell? ⟨bw, 0, none⟩ = some (.int .i64 id) := h9.front2.cell 0; have b1 : w9.cell? ⟨j, 1, none⟩ = some (ptV r4) := h9.front3.cell 1; have b2 : w9.cell? ⟨j, 2, none⟩ = some (ptV t4) := h9.front3.cell 2; have b7 : w9.cell? ⟨j, 7, none⟩ = some (.int .i64 mJ.hd) := h9.front3.cell 7))
          have H9 := SL.hid h9.drop2
          have DD := SL.hid (dA.drew.trans d9)
          clear h9 d9 dA hgo hpt s0 s1 s2 s7 b0 b1 b2 b7
          go_wp2
          go_roundw
          case rel => exact ⟨k + 1, by omega, by go_num, H9.out, DD.out⟩
          case measure => simp [intOf]; omega
         ·obtain rfl : k = n5 := by omega
          have hB := hsat.front2
          have k6 : wr.cell? ⟨j, 6, none⟩ = some (.int .u64 mJ.sq) := hB.cell 6
          have f6 := hB.frozen 6
          have hB1 := hB.setCell 6 (.int .u64 (mJ.sq + 1))
          have dB1 := hside.setCell ⟨j, 6, none⟩ (.int .u64 (mJ.sq + 1))
          have hsq : IntKind.u64.wrap (mJ.sq + 1) = mJ.sq + 1 := by
           have := hN.sq0
           rw [IntKind.wrap_u64]; omega
          have HB1 := SL.hid hB1
          clear hsat hside hB hB1
          go_wp2_with fail
          generalize wr.setCell ⟨j, 6, none⟩ (.int .u64 (mJ.sq + 1)) = w8 at HB1 dB1 ⊢
          have hB1 := HB1.out
          have s1 : w8.cell? ⟨j, 1, none⟩ = some (ptV r4) := hB1.cell 1
          have s7 : w8.cell? ⟨j, 7, none⟩ = some (.int .i64 mJ.hd) := hB1.cell 7
          have f7 := hB1.frozen 7
          have hlt8 := hB1.lt
          have hgo := go_any w8.drew r4 (ringL mJ.P) mJ.hd (k : Int) _ (hB1.front3.drew) (by rw [ringL_length]; exact hJ.p0) (by rw [ringL_length]; have := hJ.p1; omega)
          rw [ringL_length] at hgo
          generalize hpl : (mJ.hd + (k : Int)) % (mJ.P : Int) = pl at hgo
          have hB2 := hB1.setCell 7 (.int .i64 pl)
          have s1' : (w8.setCell ⟨j, 7, none⟩ (.int .i64 pl)).cell? ⟨j, 1, none⟩ = some (ptV r4) := hB2.cell 1
          have dB2 := (dB1.setCell ⟨j, 7, none⟩ (.int .i64 pl)).drew
          have HB2 := SL.hid (Sat.drew hB2)
          have Hpl := SL.hid hpl
          clear hB1 HB1 hB2 hpl k6 f6 dB1
          go_region_law (refine step_call_run hgo ringGo_enters rfl _ _ rfl (by rfl) ?_; rintro e w9 ⟨rfl, rfl⟩; refine ⟨_, rfl, ?_⟩)
          all_goals
           clear s1 s1' s7 f7 hlt8 hgo
           generalize (w8.setCell ⟨j, 7, none⟩ (.int .i64 pl)).drew = w9 at HB2 dB2 ⊢
           have hB2 := HB2.out
           have s8 : w9.cell? ⟨j, 8, none⟩ = some (.int .i64 mJ.us) := hB2.cell 8
           have f8 := hB2.frozen 8
           have hB3 := hB2.setCell 8 (.int .i64 (mJ.us + ((k : Int) - mJ.cleaned Z.length)))
           have s9 : (w9.setCell ⟨j, 8, none⟩ (.int .i64 (mJ.us + ((k : Int) - mJ.cleaned Z.length)))).cell? ⟨j, 9, none⟩ = some (.int .i64 mJ.fr) := hB3.cell 9
           have f9 := hB3.frozen 9
           have hB4 := hB3.setCell 9 (.int .i64 (mJ.cleaned Z.length))
           have dB4 := (dB2.setCell ⟨j, 8, none⟩ (.int .i64 (mJ.us + ((k : Int) - mJ.cleaned Z.length)))).setCell ⟨j, 9, none⟩ (.int .i64 (mJ.cleaned Z.length))
           have hfin : Sat ((w9.setCell ⟨j, 8, none⟩ (.int .i64 (mJ.us + ((k : Int) - mJ.cleaned Z.length)))).setCell ⟨j, 9, none⟩ (.int .i64 (mJ.cleaned Z.length))) (jrA j d O.2.1 * (devA S4 d O.2.2 * (pool S4 * F))) := by
            rw [HO4.out]
            rw [← Hpl.out, HRE.out] at hB4
            have hL : (plainW Z5).length = k := by rw [plain_len]; exact Hl5.out
            have e : (mJ.cells d r4 t4).setIfInBounds 6 (.int .u64 (mJ.sq + 1)) = (mJ.cells d r4 t4).setIfInBounds 6 (.int .u64 (mJ.sq + 1)) := rfl
            have h1 := (hB4.to (by ac_rfl : _ = sl 57 2 (.slice ba k bc) k (SL.flatW Z5) * (pt j (.cells (((((mJ.cells d r4 t4).setIfInBounds 6 (.int .u64 (mJ.sq + 1))).setIfInBounds 7 (.int .i64 ((mJ.hd + (k : Int)) % (mJ.P : Int)))).setIfInBounds 8 (.int .i64 (mJ.us + ((k : Int) - mJ.cleaned Z.length)))).setIfInBounds 9 (.int .i64 (mJ.cleaned Z.length))) 98 (0, 0)) * (ringA r4 (ringL mJ.P) * (tableA t4 (mJ.putN (plainW Z5) k) * (devA S4 d D4 * (pool S4 * F))))))).right
            refine Sat.jrShut (r := r4) (t := t4) ?_
            unfold Jr.done
            rw [hL]
            exact h1
           have Hfin := SL.hid hfin
           have DB4 := SL.hid dB4
           rw [Hcv.out] at Hfin DB4 s9 f9
           have hP1 : (mJ.P : Int) ≤ 20000 := by have := hJ.p1; omega
           have hu0 := hJ.us0
           clear hB2 HB2 hB3 hB4 dB4 hfin
           go_wp2
           go_ret
           exact ⟨S4, hE3.trans hE4, by rw [HO4.out]; rfl, Hfin.out, DB4.out⟩
       ·have hrb : (rc == 0) = false := by simpa using hrc
        have hO := HO3.out
        dsimp only at h9
        rw [if_pos hrc] at hO
        rw [if_neg hrc] at h9
        have HO4 := SL.hid hO
        have H9' := SL.hid h9
        clear hO HO3 h9 hrc
        go_wp2
        go_ret
        exact ⟨S4, hE3.trans hE4, by rw [HO4.out]; rfl, by rw [HO4.out]; exact (H9'.out.to (by ac_rfl : _ = sl 57 2 (.slice ba n5 bc) n5 (SL.flatW Z5) * (jrA j d { mJ with br := true } * (devA S4 d D4 * (pool S4 * F))))).right, D9⟩
     ·have hmb : (M.1.1 == 0) = false := by simpa using hm0
      have hO := HO.out
      rw [if_pos hm0] at hO
      obtain ⟨⟨mc, ml⟩, mJ, mD⟩ := M
      dsimp only at hmb h5 hO
      have HO2 := SL.hid hO
      clear hm0 hO HO HMk HMl HMi HM4 HMD HMw HMok
      go_wp2
      go_ret
      exact ⟨S3, hE3, by rw [HO2.out]; rfl, by rw [HO2.out]; exact (h5.to (by ac_rfl : _ = (sl 57 2 v3 Z3.length (SL.flatW Z3) * mp m (ownN Z Z.length)) * (jrX j d r t mJ * (devA S3 d mD * (pool S3 * F))))).right.jrOfX, (d1.trans d2).trans d3⟩
   ·have hO := HO.out
    rw [if_pos hf0] at hO
    clear HO
    generalize hR : J.flush D = R at hfl hf0 hO
    have hrb : (R.1 == 0) = false := by simpa using hf0
    obtain ⟨rc, J', D'⟩ := R
    dsimp only at hfl hrb hf0
    have HO := SL.hid hO
    clear hR hf0 h2 hO
    go_wp2_with fail
    (with_reducible refine hfl.mono ?_)
    rintro e w2 ⟨rfl, h3, d2⟩
    clear hfl c6'
    go_wp2
    go_ret
    exact ⟨S, Ext.refl S, by rw [HO.out]; rfl, by rw [HO.out]; exact (h3.to (by ac_rfl : _ = mp m (ownN Z Z.length) * _)).right, d1.trans d2⟩
end Go.Proofs.YtdafdidmbeecfaaGreatDoor
end

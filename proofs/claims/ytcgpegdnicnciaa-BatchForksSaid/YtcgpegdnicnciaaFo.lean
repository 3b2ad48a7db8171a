/- BatchForks: the walk. (the steps printed by wip/mkforks.py) -/
import Derived.Test.YtcgpegdnicnciaaFm
namespace Go.Proofs.Ytcgpegdnicnciaa
set_option linter.unusedVariables false
set_option linter.unusedSimpArgs false
open Go.RowKit Go.SL
theorem putN_length (data : Int) (zs : List Int) (W : CB) : ∀ k, (putN data zs W k).length ≤ W.length + k
  | 0 => Nat.le_refl _
  | k + 1 => by
    have := putN_length data zs W k
    rw [putN, length_upd]
    split <;> omega
theorem putsW_length (data : Int) (len : Nat) (zs : List Int) (W : CB) : (putsW data len zs W).length ≤ W.length + 20 := by
  rw [putsW]
  split
  · have := putN_length data zs W len; omega
  · exact putN_length data zs W 20
theorem asc_length (W : CB) : (asc W).length = W.length := by simp only [asc, List.length_map, sorted_length]
abbrev BT (S : Hp) (b : Nat) (v : Value) (W : CB) : Assn := batchA 54 5 S b (.iface 27 v) 0 W []
theorem Mono.cons {F : Hp → Assn} (hF : Mono F) (b : Nat) (v : Value) (W : CB) : Mono fun S => BT S b v W * F S := Mono.star (Mono.batch _ _ _ _ _ _ _) hF
theorem rows12 (w : World) (F : Assn) (h : Sat w F) : Calls Try.prog 9 #[.int .i64 12] w fun e w' => ∃ v gs, e = .returned v ∧ Sat w' (rowsR v gs * F) ∧ Side w w' :=
  (rows_any 12 (by omega) F w h).mono fun e w' ⟨v, gs, he, hg, hs, hd⟩ => ⟨v, gs, he, by
    unfold rowsR; rw [rows_length hg]; exact hs.to (star_assoc _ _ _).symm, hd⟩
set_option maxRecDepth 100000 in
set_option maxHeartbeats 4000000 in
theorem forks_any (a0 a1 a2 a3 : Option Addr) (n0 n1 n2 n3 c0 c1 c2 c3 : Nat) (z0 z1 z2 z3 : List Int) (w : World) (h0 : IsInts w a0 n0 c0 z0) (h1 : IsInts w a1 n1 c1 z1) (h2 : IsInts w a2 n2 c2 z2) (h3 : IsInts w a3 n3 c3 z3) :
    Calls Try.prog 5 #[.slice a0 n0 c0, .slice a1 n1 c1, .slice a2 n2 c2, .slice a3 n3 c3] w (ShownQ w) := by
  have I0 := SL.hid h0; have I1 := SL.hid h1; have I2 := SL.hid h2; have I3 := SL.hid h3; clear h0 h1 h2 h3
  go_enter Try.func5, Try.ntmps5
  go_wp2_with fail
  refine (shown_any w).mono ?_
  rintro e w1 ⟨rfl, k1, d1⟩
  go_wp2_with fail
  refine (rows12 w1 _ k1).mono ?_
  rintro e w2 ⟨v, gs, rfl, k2, d2⟩
  go_wp2_with fail
  refine (new_any _ _ _).mono ?_
  rintro e w3 ⟨b, rfl, k3, d3⟩
  have H3 : Sat w3 (batchA 54 5 NoBlocks b (.iface 27 v) 0 [] [] * (pool NoBlocks * (rowsR v gs * whole w))) := (k3 NoBlocks).under k2.poolEmp
  have D3 := (d1.trans d2).trans d3
  clear k1 k2 k3 d1 d2 d3
  go_wp2_with fail
  refine (puts_m (F := fun _ => rowsR v gs) 100 (by decide) (by decide) I0.out (Mono.const _) H3).mono ?_
  rintro e w4 ⟨S4, rfl, H4, d4⟩
  have D4 := D3.trans d4
  clear H3 D3 d4
  go_wp2_with fail
  refine (fork_m (F := fun S => (rowsR v gs)) (Mono.const _) ⟨_, _, rfl⟩ (H4.to (by simp only [BT] <;> ac_rfl : _ = BT S4 b v (putsW 100 n0 z0 []) * ((pool S4 * (((rowsR v gs)) * whole w)))))).mono ?_
  rintro e w5 ⟨S5, x, rfl, H5, d5⟩
  have D5 := D4.trans d5
  clear H4 D4 d5
  go_wp2_with fail
  refine (fork_m (F := fun S => BT S x v (putsW 100 n0 z0 []) * ((rowsR v gs))) (Mono.cons (Mono.const _) _ _ _) ⟨_, _, rfl⟩ (H5.to (by simp only [BT] <;> ac_rfl : _ = BT S5 b v (putsW 100 n0 z0 []) * ((pool S5 * ((BT S5 x v (putsW 100 n0 z0 []) * ((rowsR v gs))) * whole w)))))).mono ?_
  rintro e w6 ⟨S6, y, rfl, H6, d6⟩
  have D6 := D5.trans d6
  clear H5 D5 d6
  go_wp2_with fail
  refine (puts_m (F := fun S => BT S b v (putsW 100 n0 z0 []) * (BT S y v (putsW 100 n0 z0 []) * ((rowsR v gs)))) 200 (by decide) (by decide) I1.out (Mono.cons (Mono.cons (Mono.const _) _ _ _) _ _ _) (H6.to (by simp only [BT] <;> ac_rfl : _ = BT S6 x v (putsW 100 n0 z0 []) * ((pool S6 * ((BT S6 b v (putsW 100 n0 z0 []) * (BT S6 y v (putsW 100 n0 z0 []) * ((rowsR v gs)))) * whole w)))))).mono ?_
  rintro e w7 ⟨S7, rfl, H7, d7⟩
  have D7 := D6.trans d7
  clear H6 D6 d7
  go_wp2_with fail
  refine (puts_m (F := fun S => BT S b v (putsW 100 n0 z0 []) * (BT S x v (putsW 200 n1 z1 (putsW 100 n0 z0 [])) * ((rowsR v gs)))) 300 (by decide) (by decide) I2.out (Mono.cons (Mono.cons (Mono.const _) _ _ _) _ _ _) (H7.to (by simp only [BT] <;> ac_rfl : _ = BT S7 y v (putsW 100 n0 z0 []) * ((pool S7 * ((BT S7 b v (putsW 100 n0 z0 []) * (BT S7 x v (putsW 200 n1 z1 (putsW 100 n0 z0 [])) * ((rowsR v gs)))) * whole w)))))).mono ?_
  rintro e w8 ⟨S8, rfl, H8, d8⟩
  have D8 := D7.trans d8
  clear H7 D7 d8
  go_wp2_with fail
  refine (puts_m (F := fun S => BT S x v (putsW 200 n1 z1 (putsW 100 n0 z0 [])) * (BT S y v (putsW 300 n2 z2 (putsW 100 n0 z0 [])) * ((rowsR v gs)))) 400 (by decide) (by decide) I3.out (Mono.cons (Mono.cons (Mono.const _) _ _ _) _ _ _) (H8.to (by simp only [BT] <;> ac_rfl : _ = BT S8 b v (putsW 100 n0 z0 []) * ((pool S8 * ((BT S8 x v (putsW 200 n1 z1 (putsW 100 n0 z0 [])) * (BT S8 y v (putsW 300 n2 z2 (putsW 100 n0 z0 [])) * ((rowsR v gs)))) * whole w)))))).mono ?_
  rintro e w9 ⟨S9, rfl, H9, d9⟩
  have D9 := D8.trans d9
  clear H8 D8 d9
  go_wp2_with fail
  refine (rows12 w9 _ H9).mono ?_
  rintro e w10 ⟨v10, gs10, rfl, H10, d10⟩
  have D10 := D9.trans d10
  clear H9 D9 d10
  go_wp2_with fail
  refine (new_any _ _ _).mono ?_
  rintro e w11 ⟨a, rfl, k11, d11⟩
  have H11 := (k11 S9).under H10
  have D11 := D10.trans d11
  clear k11 H10 D10 d11
  obtain ⟨S11, eS11⟩ : ∃ S, S = S9 := ⟨_, rfl⟩
  rw [← eS11] at H11
  clear eS11
  go_wp2_with fail
  refine (rows12 w11 _ H11).mono ?_
  rintro e w12 ⟨v12, gs12, rfl, H12, d12⟩
  have D12 := D11.trans d12
  clear H11 D11 d12
  go_wp2_with fail
  refine (new_any _ _ _).mono ?_
  rintro e w13 ⟨c, rfl, k13, d13⟩
  have H13 := (k13 S11).under H12
  have D13 := D12.trans d13
  clear k13 H12 D12 d13
  obtain ⟨S13, eS13⟩ : ∃ S, S = S11 := ⟨_, rfl⟩
  rw [← eS13] at H13
  clear eS13
  go_wp2_with fail
  refine (rows12 w13 _ H13).mono ?_
  rintro e w14 ⟨v14, gs14, rfl, H14, d14⟩
  have D14 := D13.trans d14
  clear H13 D13 d14
  go_wp2_with fail
  refine (new_any _ _ _).mono ?_
  rintro e w15 ⟨d, rfl, k15, d15⟩
  have H15 := (k15 S13).under H14
  have D15 := D14.trans d15
  clear k15 H14 D14 d15
  obtain ⟨S15, eS15⟩ : ∃ S, S = S13 := ⟨_, rfl⟩
  rw [← eS15] at H15
  clear eS15
  go_wp2_with fail
  refine (puts_m (F := fun S => BT S b v (putsW 400 n3 z3 (putsW 100 n0 z0 [])) * (BT S x v (putsW 200 n1 z1 (putsW 100 n0 z0 [])) * (BT S y v (putsW 300 n2 z2 (putsW 100 n0 z0 [])) * (BT S c v12 [] * (BT S d v14 [] * (((rowsR v gs) * (rowsR v10 gs10) * (rowsR v12 gs12) * (rowsR v14 gs14)))))))) 100 (by decide) (by decide) I0.out (Mono.cons (Mono.cons (Mono.cons (Mono.cons (Mono.cons (Mono.const _) _ _ _) _ _ _) _ _ _) _ _ _) _ _ _) (H15.to (by simp only [BT] <;> ac_rfl : _ = BT S15 a v10 [] * ((pool S15 * ((BT S15 b v (putsW 400 n3 z3 (putsW 100 n0 z0 [])) * (BT S15 x v (putsW 200 n1 z1 (putsW 100 n0 z0 [])) * (BT S15 y v (putsW 300 n2 z2 (putsW 100 n0 z0 [])) * (BT S15 c v12 [] * (BT S15 d v14 [] * (((rowsR v gs) * (rowsR v10 gs10) * (rowsR v12 gs12) * (rowsR v14 gs14)))))))) * whole w)))))).mono ?_
  rintro e w16 ⟨S16, rfl, H16, d16⟩
  have D16 := D15.trans d16
  clear H15 D15 d16
  go_wp2_with fail
  refine (puts_m (F := fun S => BT S b v (putsW 400 n3 z3 (putsW 100 n0 z0 [])) * (BT S x v (putsW 200 n1 z1 (putsW 100 n0 z0 [])) * (BT S y v (putsW 300 n2 z2 (putsW 100 n0 z0 [])) * (BT S c v12 [] * (BT S d v14 [] * (((rowsR v gs) * (rowsR v10 gs10) * (rowsR v12 gs12) * (rowsR v14 gs14)))))))) 200 (by decide) (by decide) I1.out (Mono.cons (Mono.cons (Mono.cons (Mono.cons (Mono.cons (Mono.const _) _ _ _) _ _ _) _ _ _) _ _ _) _ _ _) (H16.to (by simp only [BT] <;> ac_rfl : _ = BT S16 a v10 (putsW 100 n0 z0 []) * ((pool S16 * ((BT S16 b v (putsW 400 n3 z3 (putsW 100 n0 z0 [])) * (BT S16 x v (putsW 200 n1 z1 (putsW 100 n0 z0 [])) * (BT S16 y v (putsW 300 n2 z2 (putsW 100 n0 z0 [])) * (BT S16 c v12 [] * (BT S16 d v14 [] * (((rowsR v gs) * (rowsR v10 gs10) * (rowsR v12 gs12) * (rowsR v14 gs14)))))))) * whole w)))))).mono ?_
  rintro e w17 ⟨S17, rfl, H17, d17⟩
  have D17 := D16.trans d17
  clear H16 D16 d17
  go_wp2_with fail
  refine (puts_m (F := fun S => BT S b v (putsW 400 n3 z3 (putsW 100 n0 z0 [])) * (BT S x v (putsW 200 n1 z1 (putsW 100 n0 z0 [])) * (BT S y v (putsW 300 n2 z2 (putsW 100 n0 z0 [])) * (BT S a v10 (putsW 200 n1 z1 (putsW 100 n0 z0 [])) * (BT S d v14 [] * (((rowsR v gs) * (rowsR v10 gs10) * (rowsR v12 gs12) * (rowsR v14 gs14)))))))) 100 (by decide) (by decide) I0.out (Mono.cons (Mono.cons (Mono.cons (Mono.cons (Mono.cons (Mono.const _) _ _ _) _ _ _) _ _ _) _ _ _) _ _ _) (H17.to (by simp only [BT] <;> ac_rfl : _ = BT S17 c v12 [] * ((pool S17 * ((BT S17 b v (putsW 400 n3 z3 (putsW 100 n0 z0 [])) * (BT S17 x v (putsW 200 n1 z1 (putsW 100 n0 z0 [])) * (BT S17 y v (putsW 300 n2 z2 (putsW 100 n0 z0 [])) * (BT S17 a v10 (putsW 200 n1 z1 (putsW 100 n0 z0 [])) * (BT S17 d v14 [] * (((rowsR v gs) * (rowsR v10 gs10) * (rowsR v12 gs12) * (rowsR v14 gs14)))))))) * whole w)))))).mono ?_
  rintro e w18 ⟨S18, rfl, H18, d18⟩
  have D18 := D17.trans d18
  clear H17 D17 d18
  go_wp2_with fail
  refine (puts_m (F := fun S => BT S b v (putsW 400 n3 z3 (putsW 100 n0 z0 [])) * (BT S x v (putsW 200 n1 z1 (putsW 100 n0 z0 [])) * (BT S y v (putsW 300 n2 z2 (putsW 100 n0 z0 [])) * (BT S a v10 (putsW 200 n1 z1 (putsW 100 n0 z0 [])) * (BT S d v14 [] * (((rowsR v gs) * (rowsR v10 gs10) * (rowsR v12 gs12) * (rowsR v14 gs14)))))))) 300 (by decide) (by decide) I2.out (Mono.cons (Mono.cons (Mono.cons (Mono.cons (Mono.cons (Mono.const _) _ _ _) _ _ _) _ _ _) _ _ _) _ _ _) (H18.to (by simp only [BT] <;> ac_rfl : _ = BT S18 c v12 (putsW 100 n0 z0 []) * ((pool S18 * ((BT S18 b v (putsW 400 n3 z3 (putsW 100 n0 z0 [])) * (BT S18 x v (putsW 200 n1 z1 (putsW 100 n0 z0 [])) * (BT S18 y v (putsW 300 n2 z2 (putsW 100 n0 z0 [])) * (BT S18 a v10 (putsW 200 n1 z1 (putsW 100 n0 z0 [])) * (BT S18 d v14 [] * (((rowsR v gs) * (rowsR v10 gs10) * (rowsR v12 gs12) * (rowsR v14 gs14)))))))) * whole w)))))).mono ?_
  rintro e w19 ⟨S19, rfl, H19, d19⟩
  have D19 := D18.trans d19
  clear H18 D18 d19
  go_wp2_with fail
  refine (puts_m (F := fun S => BT S b v (putsW 400 n3 z3 (putsW 100 n0 z0 [])) * (BT S x v (putsW 200 n1 z1 (putsW 100 n0 z0 [])) * (BT S y v (putsW 300 n2 z2 (putsW 100 n0 z0 [])) * (BT S a v10 (putsW 200 n1 z1 (putsW 100 n0 z0 [])) * (BT S c v12 (putsW 300 n2 z2 (putsW 100 n0 z0 [])) * (((rowsR v gs) * (rowsR v10 gs10) * (rowsR v12 gs12) * (rowsR v14 gs14)))))))) 100 (by decide) (by decide) I0.out (Mono.cons (Mono.cons (Mono.cons (Mono.cons (Mono.cons (Mono.const _) _ _ _) _ _ _) _ _ _) _ _ _) _ _ _) (H19.to (by simp only [BT] <;> ac_rfl : _ = BT S19 d v14 [] * ((pool S19 * ((BT S19 b v (putsW 400 n3 z3 (putsW 100 n0 z0 [])) * (BT S19 x v (putsW 200 n1 z1 (putsW 100 n0 z0 [])) * (BT S19 y v (putsW 300 n2 z2 (putsW 100 n0 z0 [])) * (BT S19 a v10 (putsW 200 n1 z1 (putsW 100 n0 z0 [])) * (BT S19 c v12 (putsW 300 n2 z2 (putsW 100 n0 z0 [])) * (((rowsR v gs) * (rowsR v10 gs10) * (rowsR v12 gs12) * (rowsR v14 gs14)))))))) * whole w)))))).mono ?_
  rintro e w20 ⟨S20, rfl, H20, d20⟩
  have D20 := D19.trans d20
  clear H19 D19 d20
  go_wp2_with fail
  refine (puts_m (F := fun S => BT S b v (putsW 400 n3 z3 (putsW 100 n0 z0 [])) * (BT S x v (putsW 200 n1 z1 (putsW 100 n0 z0 [])) * (BT S y v (putsW 300 n2 z2 (putsW 100 n0 z0 [])) * (BT S a v10 (putsW 200 n1 z1 (putsW 100 n0 z0 [])) * (BT S c v12 (putsW 300 n2 z2 (putsW 100 n0 z0 [])) * (((rowsR v gs) * (rowsR v10 gs10) * (rowsR v12 gs12) * (rowsR v14 gs14)))))))) 400 (by decide) (by decide) I3.out (Mono.cons (Mono.cons (Mono.cons (Mono.cons (Mono.cons (Mono.const _) _ _ _) _ _ _) _ _ _) _ _ _) _ _ _) (H20.to (by simp only [BT] <;> ac_rfl : _ = BT S20 d v14 (putsW 100 n0 z0 []) * ((pool S20 * ((BT S20 b v (putsW 400 n3 z3 (putsW 100 n0 z0 [])) * (BT S20 x v (putsW 200 n1 z1 (putsW 100 n0 z0 [])) * (BT S20 y v (putsW 300 n2 z2 (putsW 100 n0 z0 [])) * (BT S20 a v10 (putsW 200 n1 z1 (putsW 100 n0 z0 [])) * (BT S20 c v12 (putsW 300 n2 z2 (putsW 100 n0 z0 [])) * (((rowsR v gs) * (rowsR v10 gs10) * (rowsR v12 gs12) * (rowsR v14 gs14)))))))) * whole w)))))).mono ?_
  rintro e w21 ⟨S21, rfl, H21, d21⟩
  have D21 := D20.trans d21
  clear H20 D20 d21
  go_wp2_with fail
  refine (list_m (F := fun S => BT S b v (putsW 400 n3 z3 (putsW 100 n0 z0 [])) * (BT S y v (putsW 300 n2 z2 (putsW 100 n0 z0 [])) * (BT S a v10 (putsW 200 n1 z1 (putsW 100 n0 z0 [])) * (BT S c v12 (putsW 300 n2 z2 (putsW 100 n0 z0 [])) * (BT S d v14 (putsW 400 n3 z3 (putsW 100 n0 z0 [])) * (((rowsR v gs) * (rowsR v10 gs10) * (rowsR v12 gs12) * (rowsR v14 gs14)))))))) (Mono.cons (Mono.cons (Mono.cons (Mono.cons (Mono.cons (Mono.const _) _ _ _) _ _ _) _ _ _) _ _ _) _ _ _) (by have e1 := putsW_length 100 n0 z0 []; have e2 := putsW_length 200 n1 z1 (putsW 100 n0 z0 []); have e3 := putsW_length 300 n2 z2 (putsW 100 n0 z0 []); have e4 := putsW_length 400 n3 z3 (putsW 100 n0 z0 []); simp only [List.length_nil] at e1; omega) (H21.to (by simp only [BT] <;> ac_rfl : _ = BT S21 x v (putsW 200 n1 z1 (putsW 100 n0 z0 [])) * ((pool S21 * ((BT S21 b v (putsW 400 n3 z3 (putsW 100 n0 z0 [])) * (BT S21 y v (putsW 300 n2 z2 (putsW 100 n0 z0 [])) * (BT S21 a v10 (putsW 200 n1 z1 (putsW 100 n0 z0 [])) * (BT S21 c v12 (putsW 300 n2 z2 (putsW 100 n0 z0 [])) * (BT S21 d v14 (putsW 400 n3 z3 (putsW 100 n0 z0 [])) * (((rowsR v gs) * (rowsR v10 gs10) * (rowsR v12 gs12) * (rowsR v14 gs14)))))))) * whole w)))))).mono ?_
  rintro e w22 ⟨S22, lx, rfl, H22, d22⟩
  have D22 := D21.trans d22
  clear H21 D21 d22
  go_wp2_with fail
  refine (list_m (F := fun S => BT S b v (putsW 400 n3 z3 (putsW 100 n0 z0 [])) * (BT S x v (putsW 200 n1 z1 (putsW 100 n0 z0 [])) * (BT S y v (putsW 300 n2 z2 (putsW 100 n0 z0 [])) * (BT S c v12 (putsW 300 n2 z2 (putsW 100 n0 z0 [])) * (BT S d v14 (putsW 400 n3 z3 (putsW 100 n0 z0 [])) * (writesA 61 5 S lx (asc (putsW 200 n1 z1 (putsW 100 n0 z0 []))) * (((rowsR v gs) * (rowsR v10 gs10) * (rowsR v12 gs12) * (rowsR v14 gs14))))))))) (Mono.cons (Mono.cons (Mono.cons (Mono.cons (Mono.cons (Mono.star (Mono.writes _ _ _ _) (Mono.const _)) _ _ _) _ _ _) _ _ _) _ _ _) _ _ _) (by have e1 := putsW_length 100 n0 z0 []; have e2 := putsW_length 200 n1 z1 (putsW 100 n0 z0 []); have e3 := putsW_length 300 n2 z2 (putsW 100 n0 z0 []); have e4 := putsW_length 400 n3 z3 (putsW 100 n0 z0 []); simp only [List.length_nil] at e1; omega) (H22.to (by simp only [BT] <;> ac_rfl : _ = BT S22 a v10 (putsW 200 n1 z1 (putsW 100 n0 z0 [])) * ((pool S22 * ((BT S22 b v (putsW 400 n3 z3 (putsW 100 n0 z0 [])) * (BT S22 x v (putsW 200 n1 z1 (putsW 100 n0 z0 [])) * (BT S22 y v (putsW 300 n2 z2 (putsW 100 n0 z0 [])) * (BT S22 c v12 (putsW 300 n2 z2 (putsW 100 n0 z0 [])) * (BT S22 d v14 (putsW 400 n3 z3 (putsW 100 n0 z0 [])) * (writesA 61 5 S22 lx (asc (putsW 200 n1 z1 (putsW 100 n0 z0 []))) * (((rowsR v gs) * (rowsR v10 gs10) * (rowsR v12 gs12) * (rowsR v14 gs14))))))))) * whole w)))))).mono ?_
  rintro e w23 ⟨S23, la, rfl, H23, d23⟩
  have D23 := D22.trans d23
  clear H22 D22 d23
  go_wp2_with fail
  have Hh23 := H23.to (by simp only [BT] <;> ac_rfl : _ = writesA 61 5 S23 lx (asc (putsW 200 n1 z1 (putsW 100 n0 z0 []))) * (writesA 61 5 S23 la (asc (putsW 200 n1 z1 (putsW 100 n0 z0 []))) * (pool S23 * ((BT S23 b v (putsW 400 n3 z3 (putsW 100 n0 z0 [])) * (BT S23 x v (putsW 200 n1 z1 (putsW 100 n0 z0 [])) * (BT S23 y v (putsW 300 n2 z2 (putsW 100 n0 z0 [])) * (BT S23 a v10 (putsW 200 n1 z1 (putsW 100 n0 z0 [])) * (BT S23 c v12 (putsW 300 n2 z2 (putsW 100 n0 z0 [])) * (BT S23 d v14 (putsW 400 n3 z3 (putsW 100 n0 z0 [])) * (((rowsR v gs) * (rowsR v10 gs10) * (rowsR v12 gs12) * (rowsR v14 gs14))))))))) * whole w))))
  refine (same_yes w23 S23 lx la _ _ (by rw [asc_length]; have e1 := putsW_length 100 n0 z0 []; have e2 := putsW_length 200 n1 z1 (putsW 100 n0 z0 []); have e3 := putsW_length 300 n2 z2 (putsW 100 n0 z0 []); have e4 := putsW_length 400 n3 z3 (putsW 100 n0 z0 []); simp only [List.length_nil] at e1; omega) Hh23).mono ?_
  rintro e w24 ⟨rfl, k24, d24⟩
  obtain ⟨S24, eS24⟩ : ∃ S, S = S23 := ⟨_, rfl⟩
  have H24 := (k24 _ Hh23).drop2.right
  rw [← eS24] at H24
  have D24 := D23.trans d24
  clear H23 Hh23 D23 d24 k24 eS24
  go_wp2_with fail
  refine (list_m (F := fun S => BT S b v (putsW 400 n3 z3 (putsW 100 n0 z0 [])) * (BT S x v (putsW 200 n1 z1 (putsW 100 n0 z0 [])) * (BT S a v10 (putsW 200 n1 z1 (putsW 100 n0 z0 [])) * (BT S c v12 (putsW 300 n2 z2 (putsW 100 n0 z0 [])) * (BT S d v14 (putsW 400 n3 z3 (putsW 100 n0 z0 [])) * (((rowsR v gs) * (rowsR v10 gs10) * (rowsR v12 gs12) * (rowsR v14 gs14)))))))) (Mono.cons (Mono.cons (Mono.cons (Mono.cons (Mono.cons (Mono.const _) _ _ _) _ _ _) _ _ _) _ _ _) _ _ _) (by have e1 := putsW_length 100 n0 z0 []; have e2 := putsW_length 200 n1 z1 (putsW 100 n0 z0 []); have e3 := putsW_length 300 n2 z2 (putsW 100 n0 z0 []); have e4 := putsW_length 400 n3 z3 (putsW 100 n0 z0 []); simp only [List.length_nil] at e1; omega) (H24.to (by simp only [BT] <;> ac_rfl : _ = BT S24 y v (putsW 300 n2 z2 (putsW 100 n0 z0 [])) * ((pool S24 * ((BT S24 b v (putsW 400 n3 z3 (putsW 100 n0 z0 [])) * (BT S24 x v (putsW 200 n1 z1 (putsW 100 n0 z0 [])) * (BT S24 a v10 (putsW 200 n1 z1 (putsW 100 n0 z0 [])) * (BT S24 c v12 (putsW 300 n2 z2 (putsW 100 n0 z0 [])) * (BT S24 d v14 (putsW 400 n3 z3 (putsW 100 n0 z0 [])) * (((rowsR v gs) * (rowsR v10 gs10) * (rowsR v12 gs12) * (rowsR v14 gs14)))))))) * whole w)))))).mono ?_
  rintro e w25 ⟨S25, ly, rfl, H25, d25⟩
  have D25 := D24.trans d25
  clear H24 D24 d25
  go_wp2_with fail
  refine (list_m (F := fun S => BT S b v (putsW 400 n3 z3 (putsW 100 n0 z0 [])) * (BT S x v (putsW 200 n1 z1 (putsW 100 n0 z0 [])) * (BT S y v (putsW 300 n2 z2 (putsW 100 n0 z0 [])) * (BT S a v10 (putsW 200 n1 z1 (putsW 100 n0 z0 [])) * (BT S d v14 (putsW 400 n3 z3 (putsW 100 n0 z0 [])) * (writesA 61 5 S ly (asc (putsW 300 n2 z2 (putsW 100 n0 z0 []))) * (((rowsR v gs) * (rowsR v10 gs10) * (rowsR v12 gs12) * (rowsR v14 gs14))))))))) (Mono.cons (Mono.cons (Mono.cons (Mono.cons (Mono.cons (Mono.star (Mono.writes _ _ _ _) (Mono.const _)) _ _ _) _ _ _) _ _ _) _ _ _) _ _ _) (by have e1 := putsW_length 100 n0 z0 []; have e2 := putsW_length 200 n1 z1 (putsW 100 n0 z0 []); have e3 := putsW_length 300 n2 z2 (putsW 100 n0 z0 []); have e4 := putsW_length 400 n3 z3 (putsW 100 n0 z0 []); simp only [List.length_nil] at e1; omega) (H25.to (by simp only [BT] <;> ac_rfl : _ = BT S25 c v12 (putsW 300 n2 z2 (putsW 100 n0 z0 [])) * ((pool S25 * ((BT S25 b v (putsW 400 n3 z3 (putsW 100 n0 z0 [])) * (BT S25 x v (putsW 200 n1 z1 (putsW 100 n0 z0 [])) * (BT S25 y v (putsW 300 n2 z2 (putsW 100 n0 z0 [])) * (BT S25 a v10 (putsW 200 n1 z1 (putsW 100 n0 z0 [])) * (BT S25 d v14 (putsW 400 n3 z3 (putsW 100 n0 z0 [])) * (writesA 61 5 S25 ly (asc (putsW 300 n2 z2 (putsW 100 n0 z0 []))) * (((rowsR v gs) * (rowsR v10 gs10) * (rowsR v12 gs12) * (rowsR v14 gs14))))))))) * whole w)))))).mono ?_
  rintro e w26 ⟨S26, lc, rfl, H26, d26⟩
  have D26 := D25.trans d26
  clear H25 D25 d26
  go_wp2_with fail
  have Hh26 := H26.to (by simp only [BT] <;> ac_rfl : _ = writesA 61 5 S26 ly (asc (putsW 300 n2 z2 (putsW 100 n0 z0 []))) * (writesA 61 5 S26 lc (asc (putsW 300 n2 z2 (putsW 100 n0 z0 []))) * (pool S26 * ((BT S26 b v (putsW 400 n3 z3 (putsW 100 n0 z0 [])) * (BT S26 x v (putsW 200 n1 z1 (putsW 100 n0 z0 [])) * (BT S26 y v (putsW 300 n2 z2 (putsW 100 n0 z0 [])) * (BT S26 a v10 (putsW 200 n1 z1 (putsW 100 n0 z0 [])) * (BT S26 c v12 (putsW 300 n2 z2 (putsW 100 n0 z0 [])) * (BT S26 d v14 (putsW 400 n3 z3 (putsW 100 n0 z0 [])) * (((rowsR v gs) * (rowsR v10 gs10) * (rowsR v12 gs12) * (rowsR v14 gs14))))))))) * whole w))))
  refine (same_yes w26 S26 ly lc _ _ (by rw [asc_length]; have e1 := putsW_length 100 n0 z0 []; have e2 := putsW_length 200 n1 z1 (putsW 100 n0 z0 []); have e3 := putsW_length 300 n2 z2 (putsW 100 n0 z0 []); have e4 := putsW_length 400 n3 z3 (putsW 100 n0 z0 []); simp only [List.length_nil] at e1; omega) Hh26).mono ?_
  rintro e w27 ⟨rfl, k27, d27⟩
  obtain ⟨S27, eS27⟩ : ∃ S, S = S26 := ⟨_, rfl⟩
  have H27 := (k27 _ Hh26).drop2.right
  rw [← eS27] at H27
  have D27 := D26.trans d27
  clear H26 Hh26 D26 d27 k27 eS27
  go_wp2_with fail
  refine (list_m (F := fun S => BT S x v (putsW 200 n1 z1 (putsW 100 n0 z0 [])) * (BT S y v (putsW 300 n2 z2 (putsW 100 n0 z0 [])) * (BT S a v10 (putsW 200 n1 z1 (putsW 100 n0 z0 [])) * (BT S c v12 (putsW 300 n2 z2 (putsW 100 n0 z0 [])) * (BT S d v14 (putsW 400 n3 z3 (putsW 100 n0 z0 [])) * (((rowsR v gs) * (rowsR v10 gs10) * (rowsR v12 gs12) * (rowsR v14 gs14)))))))) (Mono.cons (Mono.cons (Mono.cons (Mono.cons (Mono.cons (Mono.const _) _ _ _) _ _ _) _ _ _) _ _ _) _ _ _) (by have e1 := putsW_length 100 n0 z0 []; have e2 := putsW_length 200 n1 z1 (putsW 100 n0 z0 []); have e3 := putsW_length 300 n2 z2 (putsW 100 n0 z0 []); have e4 := putsW_length 400 n3 z3 (putsW 100 n0 z0 []); simp only [List.length_nil] at e1; omega) (H27.to (by simp only [BT] <;> ac_rfl : _ = BT S27 b v (putsW 400 n3 z3 (putsW 100 n0 z0 [])) * ((pool S27 * ((BT S27 x v (putsW 200 n1 z1 (putsW 100 n0 z0 [])) * (BT S27 y v (putsW 300 n2 z2 (putsW 100 n0 z0 [])) * (BT S27 a v10 (putsW 200 n1 z1 (putsW 100 n0 z0 [])) * (BT S27 c v12 (putsW 300 n2 z2 (putsW 100 n0 z0 [])) * (BT S27 d v14 (putsW 400 n3 z3 (putsW 100 n0 z0 [])) * (((rowsR v gs) * (rowsR v10 gs10) * (rowsR v12 gs12) * (rowsR v14 gs14)))))))) * whole w)))))).mono ?_
  rintro e w28 ⟨S28, lb, rfl, H28, d28⟩
  have D28 := D27.trans d28
  clear H27 D27 d28
  go_wp2_with fail
  refine (list_m (F := fun S => BT S b v (putsW 400 n3 z3 (putsW 100 n0 z0 [])) * (BT S x v (putsW 200 n1 z1 (putsW 100 n0 z0 [])) * (BT S y v (putsW 300 n2 z2 (putsW 100 n0 z0 [])) * (BT S a v10 (putsW 200 n1 z1 (putsW 100 n0 z0 [])) * (BT S c v12 (putsW 300 n2 z2 (putsW 100 n0 z0 [])) * (writesA 61 5 S lb (asc (putsW 400 n3 z3 (putsW 100 n0 z0 []))) * (((rowsR v gs) * (rowsR v10 gs10) * (rowsR v12 gs12) * (rowsR v14 gs14))))))))) (Mono.cons (Mono.cons (Mono.cons (Mono.cons (Mono.cons (Mono.star (Mono.writes _ _ _ _) (Mono.const _)) _ _ _) _ _ _) _ _ _) _ _ _) _ _ _) (by have e1 := putsW_length 100 n0 z0 []; have e2 := putsW_length 200 n1 z1 (putsW 100 n0 z0 []); have e3 := putsW_length 300 n2 z2 (putsW 100 n0 z0 []); have e4 := putsW_length 400 n3 z3 (putsW 100 n0 z0 []); simp only [List.length_nil] at e1; omega) (H28.to (by simp only [BT] <;> ac_rfl : _ = BT S28 d v14 (putsW 400 n3 z3 (putsW 100 n0 z0 [])) * ((pool S28 * ((BT S28 b v (putsW 400 n3 z3 (putsW 100 n0 z0 [])) * (BT S28 x v (putsW 200 n1 z1 (putsW 100 n0 z0 [])) * (BT S28 y v (putsW 300 n2 z2 (putsW 100 n0 z0 [])) * (BT S28 a v10 (putsW 200 n1 z1 (putsW 100 n0 z0 [])) * (BT S28 c v12 (putsW 300 n2 z2 (putsW 100 n0 z0 [])) * (writesA 61 5 S28 lb (asc (putsW 400 n3 z3 (putsW 100 n0 z0 []))) * (((rowsR v gs) * (rowsR v10 gs10) * (rowsR v12 gs12) * (rowsR v14 gs14))))))))) * whole w)))))).mono ?_
  rintro e w29 ⟨S29, ld, rfl, H29, d29⟩
  have D29 := D28.trans d29
  clear H28 D28 d29
  go_wp2_with fail
  have Hh29 := H29.to (by simp only [BT] <;> ac_rfl : _ = writesA 61 5 S29 lb (asc (putsW 400 n3 z3 (putsW 100 n0 z0 []))) * (writesA 61 5 S29 ld (asc (putsW 400 n3 z3 (putsW 100 n0 z0 []))) * (pool S29 * ((BT S29 b v (putsW 400 n3 z3 (putsW 100 n0 z0 [])) * (BT S29 x v (putsW 200 n1 z1 (putsW 100 n0 z0 [])) * (BT S29 y v (putsW 300 n2 z2 (putsW 100 n0 z0 [])) * (BT S29 a v10 (putsW 200 n1 z1 (putsW 100 n0 z0 [])) * (BT S29 c v12 (putsW 300 n2 z2 (putsW 100 n0 z0 [])) * (BT S29 d v14 (putsW 400 n3 z3 (putsW 100 n0 z0 [])) * (((rowsR v gs) * (rowsR v10 gs10) * (rowsR v12 gs12) * (rowsR v14 gs14))))))))) * whole w))))
  refine (same_yes w29 S29 lb ld _ _ (by rw [asc_length]; have e1 := putsW_length 100 n0 z0 []; have e2 := putsW_length 200 n1 z1 (putsW 100 n0 z0 []); have e3 := putsW_length 300 n2 z2 (putsW 100 n0 z0 []); have e4 := putsW_length 400 n3 z3 (putsW 100 n0 z0 []); simp only [List.length_nil] at e1; omega) Hh29).mono ?_
  rintro e w30 ⟨rfl, k30, d30⟩
  obtain ⟨S30, eS30⟩ : ∃ S, S = S29 := ⟨_, rfl⟩
  have H30 := (k30 _ Hh29).drop2.right
  rw [← eS30] at H30
  have D30 := D29.trans d30
  clear H29 Hh29 D29 d30 k30 eS30
  go_wp2_with fail
  refine (join_m (F := fun S => BT S y v (putsW 300 n2 z2 (putsW 100 n0 z0 [])) * (BT S a v10 (putsW 200 n1 z1 (putsW 100 n0 z0 [])) * (BT S c v12 (putsW 300 n2 z2 (putsW 100 n0 z0 [])) * (BT S d v14 (putsW 400 n3 z3 (putsW 100 n0 z0 [])) * (((rowsR v gs) * (rowsR v10 gs10) * (rowsR v12 gs12) * (rowsR v14 gs14))))))) (Mono.cons (Mono.cons (Mono.cons (Mono.cons (Mono.const _) _ _ _) _ _ _) _ _ _) _ _ _) ⟨_, _, rfl⟩ (H30.to (by simp only [BT] <;> ac_rfl : _ = BT S30 b v (putsW 400 n3 z3 (putsW 100 n0 z0 [])) * (BT S30 x v (putsW 200 n1 z1 (putsW 100 n0 z0 [])) * ((pool S30 * ((BT S30 y v (putsW 300 n2 z2 (putsW 100 n0 z0 [])) * (BT S30 a v10 (putsW 200 n1 z1 (putsW 100 n0 z0 [])) * (BT S30 c v12 (putsW 300 n2 z2 (putsW 100 n0 z0 [])) * (BT S30 d v14 (putsW 400 n3 z3 (putsW 100 n0 z0 [])) * (((rowsR v gs) * (rowsR v10 gs10) * (rowsR v12 gs12) * (rowsR v14 gs14))))))) * whole w))))))).mono ?_
  rintro e w31 ⟨S31, rfl, H31, d31⟩
  have D31 := D30.trans d31
  clear H30 D30 d31
  go_wp2_with fail
  refine (puts_m (F := fun S => BT S b v (putsW 200 n1 z1 (putsW 100 n0 z0 [])) * (BT S y v (putsW 300 n2 z2 (putsW 100 n0 z0 [])) * (BT S a v10 (putsW 200 n1 z1 (putsW 100 n0 z0 [])) * (BT S c v12 (putsW 300 n2 z2 (putsW 100 n0 z0 [])) * (BT S d v14 (putsW 400 n3 z3 (putsW 100 n0 z0 [])) * (((rowsR v gs) * (rowsR v10 gs10) * (rowsR v12 gs12) * (rowsR v14 gs14)))))))) 500 (by decide) (by decide) I2.out (Mono.cons (Mono.cons (Mono.cons (Mono.cons (Mono.cons (Mono.const _) _ _ _) _ _ _) _ _ _) _ _ _) _ _ _) (H31.to (by simp only [BT] <;> ac_rfl : _ = BT S31 x v (putsW 200 n1 z1 (putsW 100 n0 z0 [])) * ((pool S31 * ((BT S31 b v (putsW 200 n1 z1 (putsW 100 n0 z0 [])) * (BT S31 y v (putsW 300 n2 z2 (putsW 100 n0 z0 [])) * (BT S31 a v10 (putsW 200 n1 z1 (putsW 100 n0 z0 [])) * (BT S31 c v12 (putsW 300 n2 z2 (putsW 100 n0 z0 [])) * (BT S31 d v14 (putsW 400 n3 z3 (putsW 100 n0 z0 [])) * (((rowsR v gs) * (rowsR v10 gs10) * (rowsR v12 gs12) * (rowsR v14 gs14)))))))) * whole w)))))).mono ?_
  rintro e w32 ⟨S32, rfl, H32, d32⟩
  have D32 := D31.trans d32
  clear H31 D31 d32
  go_wp2_with fail
  refine (list_m (F := fun S => BT S x v (putsW 500 n2 z2 (putsW 200 n1 z1 (putsW 100 n0 z0 []))) * (BT S y v (putsW 300 n2 z2 (putsW 100 n0 z0 [])) * (BT S a v10 (putsW 200 n1 z1 (putsW 100 n0 z0 [])) * (BT S c v12 (putsW 300 n2 z2 (putsW 100 n0 z0 [])) * (BT S d v14 (putsW 400 n3 z3 (putsW 100 n0 z0 [])) * (((rowsR v gs) * (rowsR v10 gs10) * (rowsR v12 gs12) * (rowsR v14 gs14)))))))) (Mono.cons (Mono.cons (Mono.cons (Mono.cons (Mono.cons (Mono.const _) _ _ _) _ _ _) _ _ _) _ _ _) _ _ _) (by have e1 := putsW_length 100 n0 z0 []; have e2 := putsW_length 200 n1 z1 (putsW 100 n0 z0 []); have e3 := putsW_length 300 n2 z2 (putsW 100 n0 z0 []); have e4 := putsW_length 400 n3 z3 (putsW 100 n0 z0 []); simp only [List.length_nil] at e1; omega) (H32.to (by simp only [BT] <;> ac_rfl : _ = BT S32 b v (putsW 200 n1 z1 (putsW 100 n0 z0 [])) * ((pool S32 * ((BT S32 x v (putsW 500 n2 z2 (putsW 200 n1 z1 (putsW 100 n0 z0 []))) * (BT S32 y v (putsW 300 n2 z2 (putsW 100 n0 z0 [])) * (BT S32 a v10 (putsW 200 n1 z1 (putsW 100 n0 z0 [])) * (BT S32 c v12 (putsW 300 n2 z2 (putsW 100 n0 z0 [])) * (BT S32 d v14 (putsW 400 n3 z3 (putsW 100 n0 z0 [])) * (((rowsR v gs) * (rowsR v10 gs10) * (rowsR v12 gs12) * (rowsR v14 gs14)))))))) * whole w)))))).mono ?_
  rintro e w33 ⟨S33, lb2, rfl, H33, d33⟩
  have D33 := D32.trans d33
  clear H32 D32 d33
  go_wp2_with fail
  refine (list_m (F := fun S => BT S b v (putsW 200 n1 z1 (putsW 100 n0 z0 [])) * (BT S x v (putsW 500 n2 z2 (putsW 200 n1 z1 (putsW 100 n0 z0 []))) * (BT S y v (putsW 300 n2 z2 (putsW 100 n0 z0 [])) * (BT S c v12 (putsW 300 n2 z2 (putsW 100 n0 z0 [])) * (BT S d v14 (putsW 400 n3 z3 (putsW 100 n0 z0 [])) * (writesA 61 5 S lb2 (asc (putsW 200 n1 z1 (putsW 100 n0 z0 []))) * (((rowsR v gs) * (rowsR v10 gs10) * (rowsR v12 gs12) * (rowsR v14 gs14))))))))) (Mono.cons (Mono.cons (Mono.cons (Mono.cons (Mono.cons (Mono.star (Mono.writes _ _ _ _) (Mono.const _)) _ _ _) _ _ _) _ _ _) _ _ _) _ _ _) (by have e1 := putsW_length 100 n0 z0 []; have e2 := putsW_length 200 n1 z1 (putsW 100 n0 z0 []); have e3 := putsW_length 300 n2 z2 (putsW 100 n0 z0 []); have e4 := putsW_length 400 n3 z3 (putsW 100 n0 z0 []); simp only [List.length_nil] at e1; omega) (H33.to (by simp only [BT] <;> ac_rfl : _ = BT S33 a v10 (putsW 200 n1 z1 (putsW 100 n0 z0 [])) * ((pool S33 * ((BT S33 b v (putsW 200 n1 z1 (putsW 100 n0 z0 [])) * (BT S33 x v (putsW 500 n2 z2 (putsW 200 n1 z1 (putsW 100 n0 z0 []))) * (BT S33 y v (putsW 300 n2 z2 (putsW 100 n0 z0 [])) * (BT S33 c v12 (putsW 300 n2 z2 (putsW 100 n0 z0 [])) * (BT S33 d v14 (putsW 400 n3 z3 (putsW 100 n0 z0 [])) * (writesA 61 5 S33 lb2 (asc (putsW 200 n1 z1 (putsW 100 n0 z0 []))) * (((rowsR v gs) * (rowsR v10 gs10) * (rowsR v12 gs12) * (rowsR v14 gs14))))))))) * whole w)))))).mono ?_
  rintro e w34 ⟨S34, la2, rfl, H34, d34⟩
  have D34 := D33.trans d34
  clear H33 D33 d34
  go_wp2_with fail
  have Hh34 := H34.to (by simp only [BT] <;> ac_rfl : _ = writesA 61 5 S34 lb2 (asc (putsW 200 n1 z1 (putsW 100 n0 z0 []))) * (writesA 61 5 S34 la2 (asc (putsW 200 n1 z1 (putsW 100 n0 z0 []))) * (pool S34 * ((BT S34 b v (putsW 200 n1 z1 (putsW 100 n0 z0 [])) * (BT S34 x v (putsW 500 n2 z2 (putsW 200 n1 z1 (putsW 100 n0 z0 []))) * (BT S34 y v (putsW 300 n2 z2 (putsW 100 n0 z0 [])) * (BT S34 a v10 (putsW 200 n1 z1 (putsW 100 n0 z0 [])) * (BT S34 c v12 (putsW 300 n2 z2 (putsW 100 n0 z0 [])) * (BT S34 d v14 (putsW 400 n3 z3 (putsW 100 n0 z0 [])) * (((rowsR v gs) * (rowsR v10 gs10) * (rowsR v12 gs12) * (rowsR v14 gs14))))))))) * whole w))))
  refine (same_yes w34 S34 lb2 la2 _ _ (by rw [asc_length]; have e1 := putsW_length 100 n0 z0 []; have e2 := putsW_length 200 n1 z1 (putsW 100 n0 z0 []); have e3 := putsW_length 300 n2 z2 (putsW 100 n0 z0 []); have e4 := putsW_length 400 n3 z3 (putsW 100 n0 z0 []); simp only [List.length_nil] at e1; omega) Hh34).mono ?_
  rintro e w35 ⟨rfl, k35, d35⟩
  obtain ⟨S35, eS35⟩ : ∃ S, S = S34 := ⟨_, rfl⟩
  have H35 := (k35 _ Hh34).drop2.right
  rw [← eS35] at H35
  have D35 := D34.trans d35
  clear H34 Hh34 D34 d35 k35 eS35
  go_wp2
  go_ret
  exact ⟨rfl, H35.right.right, D35⟩
theorem forks_walk (a0 : Option Addr) (n0 c0 : Nat) (z0 : List Int) (a1 : Option Addr) (n1 c1 : Nat) (z1 : List Int) (a2 : Option Addr) (n2 c2 : Nat) (z2 : List Int) (a3 : Option Addr) (n3 c3 : Nat) (z3 : List Int) (w : World) (h0 : IsInts w a0 n0 c0 z0) (h1 : IsInts w a1 n1 c1 z1) (h2 : IsInts w a2 n2 c2 z2) (h3 : IsInts w a3 n3 c3 z3) :
    Calls Try.prog 5 #[.slice a0 n0 c0, .slice a1 n1 c1, .slice a2 n2 c2, .slice a3 n3 c3] w fun e w' => e = .returned (.bool true) ∧ Below w.heap.size w w' :=
  (forks_any a0 a1 a2 a3 n0 n1 n2 n3 c0 c1 c2 c3 z0 z1 z2 z3 w h0 h1 h2 h3).mono fun _ _ h => shown_below h
end Go.Proofs.Ytcgpegdnicnciaa

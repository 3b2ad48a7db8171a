/- Steps towards the statement StoreC. -/
import Derived.Test.YtdafdidmbeecfaaGreatDoorStoreCP11
import Derived.Test.YtdafdidmbeecfaaGreatDoorStoreCP14
import Derived.Test.YtdafdidmbeecfaaGreatDoorStoreCP15
section
namespace Go.Proofs.YtdafdidmbeecfaaGreatDoor.Su
set_option linter.unusedVariables false
set_option linter.unusedSimpArgs false
open Go.RowKit Go.SL Go.Proofs.YtdafdidmbeecfaaGreatDoor Go.Proofs.YtdafdidmbeecfaaGreatDoor.Ba Go.Proofs.YtdafdidmbeecfaaGreatDoor.Fs
def stoA (s j d : Nat) (n P : Nat) (J : Jr) : Assn := pt s (.cells #[ptV j, .int .i64 (n : Int), .int .i64 (P : Int)] 42 (0, 0)) * jrA j d J
def OpenQ (d n P : Nat) (J : Jr) (w : World) (e : Ending) (w' : World) : Prop := ∃ s j, e = .returned (ptV s) ∧ Sat w' (stoA s j d n P J * whole w) ∧ Side w w'
set_option maxRecDepth 100000 in
set_option maxHeartbeats 4000000 in
theorem open_any (w : World) (S : Hp) (d : Nat) (D : Dev) (F : Assn) (hd : Sat w (devA S d D * F)) (n P : Nat) (s : Js) (a : Value) (ha : RdI w a s.at_) (hP0 : 1 ≤ P) (hP : P ≤ 20000) (hPs : P + 1 ≤ D.sec.length) (hDn : D.sec.length ≤ 20000) (hq : 0 ≤ s.sq) (hr : s.Right P) (hn : n ≤ 3840) :
  Calls Tryz.prog 45 #[ptV d, geV n P, s.v a] w (OpenQ d n P (Jr.ofS P s) w) := by
 obtain ⟨aa, an, ac, hav⟩ : ∃ aa an ac, a = .slice aa an ac := by
  rcases ha with ⟨_, _, rfl, h⟩ | ⟨g, o, c, rfl, _⟩
  ·exact ⟨_, _, _, rfl⟩
  ·exact ⟨_, _, _, rfl⟩
 have h1 := ((Sat.whole w).alloc (.cells #[.int .i64 (n : Int), .int .i64 (P : Int)] 35 (0, 0))).alloc (.cells #[.int .u32 s.ep, .int .u64 s.st, .int .u64 s.sq, .int .i64 s.hd, .int .i64 s.us, a] 86 (0, 0))
 have d1 := ((Side.refl w).alloc (.cells #[.int .i64 (n : Int), .int .i64 (P : Int)] 35 (0, 0))).alloc (.cells #[.int .u32 s.ep, .int .u64 s.st, .int .u64 s.sq, .int .i64 s.hd, .int .i64 s.us, a] 86 (0, 0))
 rw [World.size_alloc] at h1
 have hnew := fun (w1 : World) (X : Assn) (h : Sat w1 (X * whole w)) => jnew_any w1 S d D _ ((h.under hd).right) P s a (ha.under h) hP0 hP hPs hDn hq hr
 have hyes := fun w => must_yes w
 have Hn := SL.hid hnew
 clear hd ha hP0 hP hPs hDn hq hr hnew
 subst hav
 unfold geV Js.v at *
 go_enter Tryz.func45, Tryz.ntmps45
 go_wp2_with fail
 generalize ((w.alloc (.cells #[.int .i64 (n : Int), .int .i64 (P : Int)] 35 (0, 0))).alloc (.cells #[.int .u32 s.ep, .int .u64 s.st, .int .u64 s.sq, .int .i64 s.hd, .int .i64 s.us, .slice aa an ac] 86 (0, 0))) = w1 at h1 d1 ⊢
 generalize w.heap.size + 1 = qb at h1 ⊢
 generalize w.heap.size = gb at h1 ⊢
 have h1' : Sat w1 ((pt qb (.cells #[.int .u32 s.ep, .int .u64 s.st, .int .u64 s.sq, .int .i64 s.hd, .int .i64 s.us, .slice aa an ac] 86 (0, 0)) * pt gb (.cells #[.int .i64 (n : Int), .int .i64 (P : Int)] 35 (0, 0))) * whole w) := h1.to (by ac_rfl)
 have hnw := Hn.out w1 _ h1'
 have c0 : w1.cell? ⟨qb, 0, none⟩ = some (.int .u32 s.ep) := h1.cell 0
 have c1 : w1.cell? ⟨qb, 1, none⟩ = some (.int .u64 s.st) := h1.cell 1
 have c2 : w1.cell? ⟨qb, 2, none⟩ = some (.int .u64 s.sq) := h1.cell 2
 have c3 : w1.cell? ⟨qb, 3, none⟩ = some (.int .i64 s.hd) := h1.cell 3
 have c4 : w1.cell? ⟨qb, 4, none⟩ = some (.int .i64 s.us) := h1.cell 4
 have c5 : w1.cell? ⟨qb, 5, none⟩ = some (.slice aa an ac) := h1.cell 5
 have b0 : w1.cell? ⟨gb, 0, none⟩ = some (.int .i64 (n : Int)) := h1.front2.cell 0
 have b1 : w1.cell? ⟨gb, 1, none⟩ = some (.int .i64 (P : Int)) := h1.front2.cell 1
 have H1 := SL.hid h1'
 clear h1 h1' Hn
 go_wp2_with fail
 (with_reducible refine hnw.mono ?_)
 rintro e w2 ⟨j, rfl, h2, d2⟩
 have H2 := h2.under H1.out
 have D2 := d1.trans d2
 have hx : Sat w2 (pt gb (.cells #[.int .i64 (n : Int), .int .i64 (P : Int)] 35 (0, 0)) * (pt qb (.cells #[.int .u32 s.ep, .int .u64 s.st, .int .u64 s.sq, .int .i64 s.hd, .int .i64 s.us, .slice aa an ac] 86 (0, 0)) * (jrA j d (Jr.ofS P s) * whole w))) := H2.to (by ac_rfl)
 have g0 : w2.cell? ⟨gb, 0, none⟩ = some (.int .i64 (n : Int)) := hx.cell 0
 have g1 : w2.cell? ⟨gb, 1, none⟩ = some (.int .i64 (P : Int)) := hx.cell 1
 have hy := hyes w2
 have HH := SL.hid H2; have HD := SL.hid D2
 clear hnw h2 d2 d1 hx H1 H2 D2 hyes c0 c1 c2 c3 c4 c5 b0 b1
 go_wp2_with fail
 (with_reducible refine hy.mono ?_)
 rintro e w3 ⟨rfl, rfl⟩
 have h3 := (HH.out).alloc (.cells #[ptV j, .int .i64 (n : Int), .int .i64 (P : Int)] 42 (0, 0))
 have d3 := HD.out.alloc (.cells #[ptV j, .int .i64 (n : Int), .int .i64 (P : Int)] 42 (0, 0))
 have H3 := SL.hid h3; have D3 := SL.hid d3
 clear hy h3 d3 HH HD
 go_wp2_with fail
 go_ret
 refine ⟨_, j, rfl, ?_, D3.out⟩
 unfold stoA
 exact (H3.out.to (by ac_rfl : _ = (pt qb (.cells #[.int .u32 s.ep, .int .u64 s.st, .int .u64 s.sq, .int .i64 s.hd, .int .i64 s.us, .slice aa an ac] 86 (0, 0)) * pt gb (.cells #[.int .i64 (n : Int), .int .i64 (P : Int)] 35 (0, 0))) * ((pt w2.heap.size (.cells #[ptV j, .int .i64 (n : Int), .int .i64 (P : Int)] 42 (0, 0)) * jrA j d (Jr.ofS P s)) * whole w))).right
end Go.Proofs.YtdafdidmbeecfaaGreatDoor.Su
end
section
namespace Go.Proofs.YtdafdidmbeecfaaGreatDoor.Su
set_option linter.unusedVariables false
set_option linter.unusedSimpArgs false
open Go.RowKit Go.SL Go.Proofs.YtdafdidmbeecfaaGreatDoor Go.Proofs.YtdafdidmbeecfaaGreatDoor.Ba Go.Proofs.YtdafdidmbeecfaaGreatDoor.Fs
set_option maxRecDepth 100000 in
theorem reason_any (w : World) (c : Int) : Calls Tryz.prog 39 #[.iface 25 (.int .i64 c)] w fun e w' => e = .returned (.int .i64 c) ∧ w = w' := by
 have hta : ∀ (v : Value) (w : World), (Instr.typeAssert (.iface 25 v) 20 25 true).run Tryz.prog w = .ok (.tuple #[v, .bool true]) w := fun v w => by kernel_rfl
 go_enter Tryz.func39, Tryz.ntmps39
 go_wp2
 go_ret
 exact ⟨rfl, rfl⟩
def SFlushQ (S : Hp) (s j d n P : Nat) (R : Int × Jr × Dev) (F : Assn) (w : World) (e : Ending) (w' : World) : Prop :=
 e = .returned (.int .i64 R.1) ∧ Sat w' (stoA s j d n P R.2.1 * (devA S d R.2.2 * F)) ∧ Side w w'
set_option maxRecDepth 100000 in
theorem sync_any (w : World) (S : Hp) (s j d n P : Nat) (J : Jr) (D : Dev) (F : Assn) (h : Sat w (stoA s j d n P J * (devA S d D * F))) (hD : D.Ok) :
  Calls Tryz.prog 27 #[ptV s] w (SFlushQ S s j d n P (J.flush D) F w) := by
 unfold stoA SFlushQ stoA at *
 have c0 : w.cell? ⟨s, 0, none⟩ = some (ptV j) := (h.to (SL.star_assoc _ _ _)).cell 0
 have hf := jflush_any w S j d J D _ (h.to (by ac_rfl : _ = jrA j d J * (devA S d D * (pt s (.cells #[ptV j, .int .i64 (n : Int), .int .i64 (P : Int)] 42 (0, 0)) * F)))) hD
 clear h
 go_enter Tryz.func27, Tryz.ntmps27
 go_wp2_with fail
 (with_reducible refine hf.mono ?_)
 rintro e w2 ⟨rfl, h2, d2⟩
 have H2 := SL.hid h2; have D2 := SL.hid d2
 clear hf h2 d2
 go_wp2_with fail
 go_ret
 exact ⟨rfl, H2.out.to (by ac_rfl), D2.out⟩
def SeqQ (s j d n P : Nat) (J : Jr) (F : Assn) (w : World) (e : Ending) (w' : World) : Prop :=
 e = .returned (.int .u64 J.sq) ∧ Sat w' (stoA s j d n P J * F) ∧ Side w w'
set_option maxRecDepth 100000 in
theorem seq_any (w : World) (s j d n P : Nat) (J : Jr) (F : Assn) (h : Sat w (stoA s j d n P J * F)) (hJ : J.Ok) :
  Calls Tryz.prog 16 #[ptV s] w (SeqQ s j d n P J F w) := by
 unfold stoA SeqQ stoA at *
 have c0 : w.cell? ⟨s, 0, none⟩ = some (ptV j) := (h.to (SL.star_assoc _ _ _)).cell 0
 have hf := state_any w j d J _ (h.to (by ac_rfl : _ = jrA j d J * (pt s (.cells #[ptV j, .int .i64 (n : Int), .int .i64 (P : Int)] 42 (0, 0)) * F))) hJ
 unfold StateQ Js.v at hf
 have hsq : (Jr.js J).sq = J.sq := rfl
 rw [hsq] at hf
 have hfd : ∀ (a b c d e f : Value) (w : World), (Instr.field 86 (.agg #[a, b, c, d, e, f]) 2).run Tryz.prog w = .ok c w := fun a b c d e f w => by kernel_rfl
 clear h hsq
 go_enter Tryz.func16, Tryz.ntmps16
 go_wp2_with fail
 (with_reducible refine hf.mono ?_)
 rintro e w2 ⟨g, rfl, h2, d2⟩
 have H2 := SL.hid h2; have D2 := SL.hid d2
 clear hf h2 d2
 go_wp2_with fail
 go_ret
 exact ⟨rfl, (H2.out.right).to (by ac_rfl), D2.out⟩
def GeomQ (n P : Nat) (w : World) (e : Ending) (w' : World) : Prop := e = .returned (geV n P) ∧ Sat w' (whole w) ∧ Side w w'
set_option maxRecDepth 100000 in
theorem geom_any (w : World) (s j d n P : Nat) (J : Jr) (F : Assn) (h : Sat w (stoA s j d n P J * F)) :
  Calls Tryz.prog 15 #[ptV s] w (GeomQ n P w) := by
 unfold stoA at *
 have hx := h.to (SL.star_assoc _ _ _)
 have c1 : w.cell? ⟨s, 1, none⟩ = some (.int .i64 (n : Int)) := hx.cell 1
 have c2 : w.cell? ⟨s, 2, none⟩ = some (.int .i64 (P : Int)) := hx.cell 2
 have hlt : s < w.heap.size := hx.lt
 have h1 := (Sat.whole w).alloc (.cells #[.int .i64 (n : Int), .int .i64 (P : Int)] 35 (0, 0))
 have d1 := (Side.refl w).alloc (.cells #[.int .i64 (n : Int), .int .i64 (P : Int)] 35 (0, 0))
 clear h hx
 go_enter Tryz.func15, Tryz.ntmps15
 go_wp2_with fail
 refine bodyPost_ret (results_cell_row rfl _ _ _ 35 _ (0, 0) _ rfl h1.heap Tryz.underlying35 rfl (info_geo _ rfl)) rfl ⟨rfl, h1.right, d1⟩
set_option maxRecDepth 100000 in
set_option maxHeartbeats 1000000 in
theorem mntD_ret (w : World) (pa pe : Addr) :
    CallsD Tryz.prog 38 #[.pointer (some pa), .pointer (some pe)] .returning w fun e u w' => e = .returned (.tuple #[]) ∧ u = .returning ∧ w = w' := by
  refine callsD_of_wpS Tryz.func38 rfl fun c₀ cs hu => ?_
  apply wpS_seq
  apply wpS_region
  simp only [Tryz.ntmps38, List.size_toArray, List.length_cons, List.length_nil, Nat.reduceAdd, Nat.reduceSub, Array.replicate_succ,
     Array.replicate_zero, List.push_toArray, List.append_toArray, List.nil_append, List.cons_append]
  simp [wpOpsS, go_sem, recoverD, hu, Exit.thenS]
  refine wpS_of_wp ?_
  go_wp2
  cases c₀
  simp_all [bodyPostS, results, Tryz.results38]
set_option maxRecDepth 100000 in
set_option maxHeartbeats 1000000 in
theorem mntD_pan (w : World) (ab eb : Nat) (c z : Int) (p : Value) (older : List PanicEntry) (h0 : w.cell? ⟨ab, 0, none⟩ = some p) (he : w.cell? ⟨eb, 0, none⟩ = some (.int .i64 z))
    (f0 : w.frozen? ⟨ab, 0, none⟩ = false) (fe : w.frozen? ⟨eb, 0, none⟩ = false) (hne : ab ≠ eb) :
    CallsD Tryz.prog 38 #[.pointer (some ⟨ab, 0, none⟩), .pointer (some ⟨eb, 0, none⟩)] (.panicking ({ v := .iface 25 (.int .i64 c), recovered := false } :: older)) w fun e u w' =>
      e = .returned (.tuple #[]) ∧ u = .panicking ({ v := .iface 25 (.int .i64 c), recovered := true } :: older) ∧ w' = (w.setCell ⟨ab, 0, none⟩ (.pointer none)).setCell ⟨eb, 0, none⟩ (.int .i64 c) := by
  have hr := reason_any w c
  refine callsD_of_wpS Tryz.func38 rfl fun c₀ cs hu => ?_
  apply wpS_seq
  apply wpS_region
  simp only [Tryz.ntmps38, List.size_toArray, List.length_cons, List.length_nil, Nat.reduceAdd, Nat.reduceSub, Array.replicate_succ,
     Array.replicate_zero, List.push_toArray, List.append_toArray, List.nil_append, List.cons_append]
  simp [wpOpsS, go_sem, recoverD, hu, Exit.thenS]
  refine wpS_of_wp ?_
  go_wp2_with fail
  (with_reducible refine hr.mono ?_)
  rintro e w2 ⟨rfl, rfl⟩
  go_wp2
  exact ⟨rfl, _, rfl, _, results_none rfl _ _ _, rfl, rfl, rfl⟩
theorem mnt_results {w : World} {tmps : Array Value} {a b : Nat} {x e : Value} (h2 : tmps[2]? = some (ptV a)) (h3 : tmps[3]? = some (ptV b)) (ha : w.cell? ⟨a, 0, none⟩ = some x) (hb : w.cell? ⟨b, 0, none⟩ = some e) :
  (results Tryz.f12 tmps).run Tryz.prog w = .ok (.tuple #[x, e]) w := by
 simp [results, Tryz.results12, go_sem, h2, h3, ha, hb]
theorem doorM_pan {w : World} {tmps : Array Value} {ab eb : Nat} {z c : Int} {p : Value} {X : Assn} {R : Ending → World → Prop} (h2 : tmps[2]? = some (ptV ab)) (h3 : tmps[3]? = some (ptV eb))
  (h : Sat w (pt ab (.cells #[p] 29 (0, 0)) * (pt eb (.cells #[.int .i64 z] 25 (0, 0)) * X))) (hR : ∀ w', Sat w' X → Side w w' → R (.returned (.tuple #[.pointer none, .int .i64 c])) w') :
  bodyPostD Tryz.prog Tryz.f12 R (Exit.panic (erP c)) { tmps := tmps, defers := [{ target := .fn (.func 38) #[.pointer (some ⟨ab, 0, none⟩), .pointer (some ⟨eb, 0, none⟩)], args := #[] }] } w := by
 have hne : ab ≠ eb := Sat.ne h
 refine leaves_cons (f := 38) (args := #[.pointer (some ⟨ab, 0, none⟩), .pointer (some ⟨eb, 0, none⟩)]) (by simp) (by simp [go_sem]) ?_
 refine (mntD_pan w ab eb c z p [] (h.cell 0) (h.front2.cell 0) (h.frozen 0) (h.front2.frozen 0) hne).mono ?_
 rintro e u w7 ⟨rfl, rfl, rfl⟩
 have h11 := ((h.setCell 0 (.pointer none)).front2.setCell 0 (.int .i64 c))
 exact ⟨_, mnt_results h2 h3 (h11.front2.cell 0) (h11.cell 0), hR _ h11.right.right (((Side.refl w).setCell _ _).setCell _ _)⟩
theorem doorM_ret {w : World} {tmps : Array Value} {ab eb : Nat} {x z : Value} {R : Ending → World → Prop} (h2 : tmps[2]? = some (ptV ab)) (h3 : tmps[3]? = some (ptV eb))
  (ha : w.cell? ⟨ab, 0, none⟩ = some x) (hb : w.cell? ⟨eb, 0, none⟩ = some z) (hR : R (.returned (.tuple #[x, z])) w) :
  bodyPostD Tryz.prog Tryz.f12 R Exit.ret { tmps := tmps, defers := [{ target := .fn (.func 38) #[.pointer (some ⟨ab, 0, none⟩), .pointer (some ⟨eb, 0, none⟩)], args := #[] }] } w := by
 refine leaves_cons (f := 38) (args := #[.pointer (some ⟨ab, 0, none⟩), .pointer (some ⟨eb, 0, none⟩)]) (by simp) (by simp [go_sem]) ?_
 refine (mntD_ret w ⟨ab, 0, none⟩ ⟨eb, 0, none⟩).mono ?_
 rintro e u w7 ⟨rfl, rfl, rfl⟩
 exact ⟨_, mnt_results h2 h3 ha hb, hR⟩
end Go.Proofs.YtdafdidmbeecfaaGreatDoor.Su
end

/- batch: what it makes, clones, books, Write. -/
import Derived.Test.YtaoohjeaaccnfaaGreatSl
import Derived.Test.YtaoohjeaaccnfaaGreatRows
import Derived.Test.YtaoohjeaaccnfaaGreatMp
import Derived.Deep.LoopGhost
import Derived.Test.YtaoohjeaaccnfaaGreatLe
import Derived.Deep.RegionHeld3
namespace Go.Proofs.YtaoohjeaaccnfaaGreat.Ba
set_option linter.unusedVariables false
set_option linter.unusedSimpArgs false
open Go.RowKit Go.SL
theorem info_u8 : (Tryz.prog.info? 5).map (fun i => (i.zero, i.size, i.bytes)) = some (some (.int .u8 0), 1, 1) := by kernel_rfl
theorem info_bytes : (Tryz.prog.info? 48).map (fun i => (i.zero, i.size, i.bytes)) = some (some (.slice none 0 0), 1, 24) := by kernel_rfl
theorem make_bytes (n : Nat) (hn : n ≤ 281474976710656) (w : World) : (Instr.makeSlice 48 (.int .i64 n) (.int .i64 n)).run Tryz.prog w =
    .ok (.slice (some ⟨w.heap.size, 0, none⟩) n n) (w.alloc (.cells (u8s (zs n)) 5 (0, 0))) := by
  obtain ⟨i, hi, hz, hs, hb⟩ := info_parts info_u8
  have := run_make (P := Tryz.prog) w 48 5 i _ Tryz.underlying48 hi hz .i64 .i64 n n (by omega) (by omega) (by rw [hb]; omega) (by omega)
  rw [this, hs]
  simp only [Int.toNat_natCast]
  rw [madeCells_u8]
/-- Blocks of bytes, all apart. -/
def rowsA (T : TypeId) (gs : List (Nat × List UInt8)) : Assn := gs.foldr (fun p A => pt p.1 (.cells (u8s p.2) T (0, 0)) * A) emp
theorem rowsA_snoc (T : TypeId) (gs : List (Nat × List UInt8)) (g : Nat) (l : List UInt8) : rowsA T (gs ++ [(g, l)]) = pt g (.cells (u8s l) T (0, 0)) * rowsA T gs := by
  induction gs with
  | nil => rfl
  | cons p gs ih =>
    show pt p.1 _ * rowsA T (gs ++ [(g, l)]) = _
    rw [ih, star_left_comm]; rfl
def rowVals (gs : List (Nat × List UInt8)) : List Value := gs.map fun p => .slice (some ⟨p.1, 0, none⟩) p.2.length p.2.length
theorem rowVals_snoc (gs : List (Nat × List UInt8)) (g : Nat) (l : List UInt8) : rowVals (gs ++ [(g, l)]) = rowVals gs ++ [.slice (some ⟨g, 0, none⟩) l.length l.length] := by simp [rowVals]
end Go.Proofs.YtaoohjeaaccnfaaGreat.Ba
namespace Go.Proofs.YtaoohjeaaccnfaaGreat.Ba
set_option linter.unusedVariables false
set_option linter.unusedSimpArgs false
open Go.RowKit Go.SL
def CloneQ (w : World) (l : List UInt8) (e : Ending) (w' : World) : Prop := ∃ v, e = .returned v ∧ Sat w' (bs 5 v l * whole w) ∧ Side w w'
set_option maxHeartbeats 400000 in
theorem clone_any (w : World) (v : Value) (l : List UInt8) (hr : Rd w v l) (hl : l.length ≤ 1000000000) :
    Calls Tryz.prog 92 #[v] w (CloneQ w l) := by
  obtain ⟨i0, hi, hz, hs0, hb0⟩ := info_parts info_u8
  obtain ⟨hlen, hr⟩ := hr
  rcases hr with ⟨rfl, h0⟩ | ⟨a, c, rfl, ha⟩
  · have : l = [] := List.eq_nil_of_length_eq_zero h0
    subst this
    have hq := fun w => Lib.run_eql_slice_nil (P := Tryz.prog) w 48 5 none 0 0 0 0 Tryz.underlying48
    clear hl
    go_enter Tryz.func92, Tryz.ntmps92
    go_wp2
    go_ret
    exact ⟨_, rfl, (Sat.whole w).slNil _ _, Side.refl w⟩
  · have hR : Rds (w.alloc (.cells #[] 5 (0, 0))) 1 (.slice (some a) l.length c) l.length (l.map u8) :=
      Rds.alloc ⟨hlen, .inr ⟨a, c, rfl, ha⟩⟩ _
    have hA := (Sat.whole w).alloc (.cells #[] 5 (0, 0))
    have hA' := Sat.slOf (n := 0) (cap := 0) (sz := 1) hA (Nat.le_refl _) (by decide) rfl
    obtain ⟨v', w', hrun, hsat', hside'⟩ := Sat.append (P := Tryz.prog) (ty := 48) Tryz.underlying48 hi hz hs0 hb0 rfl hA' hR (by simp [u8, Value.oneCell']) (by unfold maxLen; omega) (by omega)
    have Hrun := hid hrun; clear hrun hA hA' hR hi hz hs0 hb0 hl
    have hq := fun w => Lib.run_eql_slice_nil (P := Tryz.prog) w 48 5 (some a) l.length c 0 0 Tryz.underlying48
    go_enter Tryz.func92, Tryz.ntmps92
    go_wp2_with (at_builtin; refine wpList_append_run Hrun.out _ _ rfl rfl rfl rfl rfl ?_)
    go_ret
    refine ⟨v', rfl, hsat'.to ?_, ((Side.refl w).alloc _).trans hside'⟩
    simp [bs]
def CopiedQ (w : World) (M : KV) (e : Ending) (w' : World) : Prop := ∃ c D, e = .returned (.map (some c)) ∧ D.Perm M ∧ Sat w' (mp c D * whole w) ∧ Side w w'
def CopiedRel (w : World) (b : Nat) (o : Obj) (M : KV) (k : Nat) (wr : World) : Prop :=
  ∃ D it, M.length ≤ D.length + k ∧ Iter b o M D it ∧ Sat wr (pt (w.heap.size + 1) it * (mp w.heap.size D * whole w)) ∧ Side w wr
set_option maxRecDepth 100000 in
set_option maxHeartbeats 1000000 in
theorem copied_any (w : World) (v : Value) (M : KV) (hr : RdM w v M) :
    Calls Tryz.prog 89 #[v] w (CopiedQ w M) := by
  have hmm := @run_makeMap_some Tryz.prog _ _ _ Tryz.underlying108
  rcases hr with ⟨rfl, rfl⟩ | ⟨b, o, rfl, hb, hm⟩
  · have hrg : ∀ w, (Instr.range 108 (.map none)).run Tryz.prog w = .ok (.pointer (some ⟨w.heap.size, 0, none⟩)) (w.alloc (.mapIter none 0 #[] 0)) := by
      intro w; simp [Instr.range, run_underlying Tryz.underlying108]
    have hnx : ∀ ty, (Instr.next (.pointer (some ⟨w.heap.size + 1, 0, none⟩)) false ty).run Tryz.prog ((w.alloc (.map #[] 0)).alloc (.mapIter none 0 #[] 0)) = .ok (.tuple #[.bool false]) ((w.alloc (.map #[] 0)).alloc (.mapIter none 0 #[] 0)) := by
      intro ty
      have := (Sat.whole (w.alloc (.map #[] 0))).alloc (.mapIter none 0 #[] 0)
      have h := this.heap
      rw [World.size_alloc] at h
      simp only [Instr.next, getObj, Sem.run_bind, Sem.run, h, Result.andThen]
      rfl
    go_enter Tryz.func89, Tryz.ntmps89
    go_wp2
    refine wp_loop_rounds 1 ?_; rw [rounds_succ]
    go_wp2
    go_ret
    exact ⟨_, [], rfl, List.Perm.refl _, (((Sat.whole w).alloc (.map #[] 0)).mpOf isMap_empty |>.alloc (.mapIter none 0 #[] 0)).right, ((Side.refl w).alloc _).alloc _⟩
  · have hA := ((Sat.whole w).alloc (.map #[] 0)).mpOf isMap_empty
    have hb1 : (w.alloc (.map #[] 0)).heap[b]? = some o := hA.heapOld hb
    obtain ⟨it, hrg, hit⟩ := run_range_int (P := Tryz.prog) Tryz.underlying108 hb1 hm
    rw [World.size_alloc] at hrg
    have hln := run_lenM (P := Tryz.prog) hb hm Tryz.underlying108 3
    have H1 := hid hb1; clear hb1
    go_enter Tryz.func89, Tryz.ntmps89
    go_wp2
    go_loopg [] M.length (fun k wr => CopiedRel w b o M k wr)
    case atStart =>
      have h2 := hA.alloc it
      rw [World.size_alloc] at h2
      exact ⟨[], it, by simp, hit, h2, ((Side.refl w).alloc _).alloc _⟩
    case round =>
      obtain ⟨D, it', hlen, hit', hsat, hside⟩ := hrel
      clear hrg hmm hln
      have hbr : wr.heap[b]? = some o := (hsat.to (star_assoc _ _ _).symm).heapOld hb
      rcases hsat.next (P := Tryz.prog) hbr hit' with ⟨hperm, hnx⟩ | ⟨p, it2, w2, hp, hpD, hnx, hsat2, hit2, hside2, hb2, hen⟩
      · have Hp := hid hperm; clear hperm
        go_wp2
        go_ret
        exact ⟨_, D, rfl, Hp.out, hsat.right, hside⟩
      · obtain ⟨w3, hup, hsat3, hside3, _⟩ := Sat.mapUpdate (P := Tryz.prog) Tryz.underlying108 Tryz.underlying3 (hsat2.to (star_left_comm _ _ _)) p.1 p.2
        clear hbr
        go_wp2
        have hle := iter_le hit2
        rw [List.length_append, List.length_singleton] at hle
        go_roundg (gk - 1)
        case measure => omega
        case rel =>
          refine ⟨D ++ [p], it2, by simp; omega, hit2, ?_, (hside.trans hside2).trans hside3⟩
          rw [upd_new hpD] at hsat3
          exact hsat3.to (star_left_comm _ _ _)
end Go.Proofs.YtaoohjeaaccnfaaGreat.Ba
namespace Go.SL
set_option linter.unusedVariables false
set_option linter.unusedSimpArgs false
open Go.RowKit
/-- Numbers and bytes. -/
abbrev CB := List (Int × List UInt8)
/-- A book: its map's value, whether it is shared, what it has. -/
def bookA (T : TypeId) (S : Hp) (v : Value) (sh : Bool) (C : CB) : Assn := fun h => ∃ Z : List (Int × Value × List UInt8),
  (Z.map fun z => (z.1, z.2.2)).Perm C ∧ (Z.map Prod.fst).Nodup ∧ (∀ z ∈ Z, Val T S z.2.1 z.2.2) ∧
  ((v = .map none ∧ Z = [] ∧ h = fun _ => none) ∨
   (∃ m o, v = .map (some m) ∧ sh = true ∧ S m = some o ∧ IsMap o (Z.map fun z => (z.1, z.2.1)) ∧ h = fun _ => none) ∨
   (∃ m, v = .map (some m) ∧ sh = false ∧ mp m (Z.map fun z => (z.1, z.2.1)) h))
theorem bookA_mono {T : TypeId} {S S' : Hp} {v : Value} {sh : Bool} {C : CB} (e : Ext S S') (h : Hp) (b : bookA T S v sh C h) : bookA T S' v sh C h := by
  obtain ⟨Z, h1, h2, h3, h4⟩ := b
  refine ⟨Z, h1, h2, fun z hz => (h3 z hz).mono e, ?_⟩
  rcases h4 with h4 | ⟨m, o, h5, h6, h7, h8⟩ | h4
  · exact .inl h4
  · exact .inr (.inl ⟨m, o, h5, h6, e _ _ h7, h8⟩)
  · exact .inr (.inr h4)
theorem bookA_nil (T : TypeId) (S : Hp) (sh : Bool) : bookA T S (.map none) sh [] (fun _ => none) := ⟨[], List.Perm.refl _, List.nodup_nil, by simp, .inl ⟨rfl, rfl, rfl⟩⟩
theorem bookA_perm {T : TypeId} {S : Hp} {v : Value} {sh : Bool} {C D : CB} (e : C.Perm D) (h : Hp) (b : bookA T S v sh C h) : bookA T S v sh D h := by
  obtain ⟨Z, h1, r⟩ := b
  exact ⟨Z, h1.trans e, r⟩
/-- What a book is: its three cases, out of what holds. -/
theorem Sat.bookCases {T : TypeId} {w : World} {S : Hp} {v : Value} {sh : Bool} {C : CB} {F : Assn} (h : Sat w (bookA T S v sh C * (pool S * F))) :
    ∃ Z : List (Int × Value × List UInt8), (Z.map fun z => (z.1, z.2.2)).Perm C ∧ (Z.map Prod.fst).Nodup ∧ (∀ z ∈ Z, Val T S z.2.1 z.2.2) ∧
      RdM w v (Z.map fun z => (z.1, z.2.1)) ∧
      ((v = .map none ∧ Sat w (pool S * F)) ∨ (sh = true ∧ Sat w (pool S * F)) ∨
       (∃ m, v = .map (some m) ∧ sh = false ∧ Sat w (mp m (Z.map fun z => (z.1, z.2.1)) * (pool S * F)))) := by
  obtain ⟨k, a, h1, h2, ⟨Z, z1, z2, z3, z4⟩, f, d, rfl⟩ := h
  have hr : Sat w (pool S * F) := ⟨h2, fun b o hb => a b o (by rcases d b with e | e <;> simp_all [join]), f⟩
  refine ⟨Z, z1, z2, z3, ?_, ?_⟩
  · rcases z4 with ⟨rfl, rfl, _⟩ | ⟨m, o, rfl, _, hm, ho, _⟩ | ⟨m, rfl, _, hm⟩
    · exact .inl ⟨rfl, rfl⟩
    · exact .inr ⟨m, o, rfl, hr.poolGet hm, ho⟩
    · obtain ⟨o, ho, rfl⟩ := hm
      exact .inr ⟨m, o, rfl, a m o (by simp [join, one]), ho⟩
  · rcases z4 with ⟨rfl, rfl, _⟩ | ⟨m, o, rfl, rfl, hm, ho, _⟩ | ⟨m, rfl, rfl, hm⟩
    · exact .inl ⟨rfl, hr⟩
    · exact .inr (.inl ⟨rfl, hr⟩)
    · exact .inr (.inr ⟨m, rfl, rfl, _, a, h1, h2, hm, f, d, rfl⟩)
/-- A map of one's own is a book. -/
theorem Sat.bookOf {T : TypeId} {w : World} {S : Hp} {C : CB} {F : Assn} {m : Nat} {Z : List (Int × Value × List UInt8)} (h : Sat w (mp m (Z.map fun z => (z.1, z.2.1)) * F))
    (h1 : (Z.map fun z => (z.1, z.2.2)).Perm C) (h2 : (Z.map Prod.fst).Nodup) (h3 : ∀ z ∈ Z, Val T S z.2.1 z.2.2) : Sat w (bookA T S (.map (some m)) false C * F) :=
  h.weak fun k hk => ⟨Z, h1, h2, h3, .inr (.inr ⟨m, rfl, rfl, hk⟩)⟩
/-- What a batch's struct holds besides its reader and its error. -/
structure Bx where
  wv : Value
  ws : Bool
  tv : Value
  ts : Bool
  av : Value
/-- Blocks that are asked for: none. -/
def askA (av : Value) : Assn := fun h => (av = .map none ∧ h = fun _ => none) ∨ ∃ m, av = .map (some m) ∧ mp m [] h
def Bx.cells (x : Bx) (rd : Value) (err : Int) : Array Value := #[rd, .int .i64 err, x.wv, .bool x.ws, x.tv, .bool x.ts, x.av]
/-- A batch: its struct's block, what its reader is, its error, its books. -/
def batchA (TB T : TypeId) (S : Hp) (b : Nat) (rd : Value) (err : Int) (W D : CB) : Assn :=
  ex fun x : Bx => pt b (.cells (x.cells rd err) TB (0, 0)) * (bookA T S x.wv x.ws W * (bookA T S x.tv x.ts D * askA x.av))
theorem Sat.batchOpen {w : World} {TB T : TypeId} {S : Hp} {b : Nat} {rd : Value} {err : Int} {W D : CB} {F : Assn} (h : Sat w (batchA TB T S b rd err W D * F)) :
    ∃ x : Bx, Sat w (pt b (.cells (x.cells rd err) TB (0, 0)) * (bookA T S x.wv x.ws W * (bookA T S x.tv x.ts D * (askA x.av * F)))) := by
  obtain ⟨x, h⟩ := Sat.ex_star_iff.1 h
  exact ⟨x, h.to (by ac_rfl)⟩
theorem Sat.batchShut {w : World} {TB T : TypeId} {S : Hp} {b : Nat} {rd : Value} {err : Int} {W D : CB} {F : Assn} (x : Bx)
    (h : Sat w (pt b (.cells (x.cells rd err) TB (0, 0)) * (bookA T S x.wv x.ws W * (bookA T S x.tv x.ts D * (askA x.av * F))))) : Sat w (batchA TB T S b rd err W D * F) :=
  Sat.ex_star_iff.2 ⟨x, h.to (by ac_rfl)⟩
theorem batchA_mono {TB T : TypeId} {S S' : Hp} {b : Nat} {rd : Value} {err : Int} {W D : CB} (e : Ext S S') (h : Hp) (p : batchA TB T S b rd err W D h) : batchA TB T S' b rd err W D h := by
  obtain ⟨x, h1, h2, p1, ⟨h3, h4, p3, ⟨h5, h6, p5, p6, d6, j6⟩, d4, j4⟩, d2, j2⟩ := p
  exact ⟨x, h1, h2, p1, ⟨h3, h4, bookA_mono e _ p3, ⟨h5, h6, bookA_mono e _ p5, p6, d6, j6⟩, d4, j4⟩, d2, j2⟩
theorem batchA_perm {TB T : TypeId} {S : Hp} {b : Nat} {rd : Value} {err : Int} {W D W' D' : CB} (eW : W.Perm W') (eD : D.Perm D') (h : Hp) (p : batchA TB T S b rd err W D h) : batchA TB T S b rd err W' D' h := by
  obtain ⟨x, h1, h2, p1, ⟨h3, h4, p3, ⟨h5, h6, p5, p6, d6, j6⟩, d4, j4⟩, d2, j2⟩ := p
  exact ⟨x, h1, h2, p1, ⟨h3, h4, bookA_perm eW _ p3, ⟨h5, h6, bookA_perm eD _ p5, p6, d6, j6⟩, d4, j4⟩, d2, j2⟩
/-- Bytes that were made beside a batch go into its pool. -/
theorem Sat.addVal {w w1 : World} {T : TypeId} {S : Hp} {b : Nat} {o : Obj} {x : Bx} {W D : CB} {F : Assn} {v : Value} {l : List UInt8}
    (hx : Sat w (pt b o * (bookA T S x.wv x.ws W * (bookA T S x.tv x.ts D * (askA x.av * (pool S * F))))))
    (hs : Sat w1 (bs T v l * SL.whole w)) (hl : small l) :
    ∃ S', Ext S S' ∧ Val T S' v l ∧ Sat w1 (pt b o * (bookA T S' x.wv x.ws W * (pool S' * (bookA T S' x.tv x.ts D * (askA x.av * F))))) ∧
      Sat w1 (pt b o * (bookA T S' x.tv x.ts D * (pool S' * (bookA T S' x.wv x.ws W * (askA x.av * F))))) := by
  have h1 := hs.under hx
  obtain ⟨S', hE, hV, h2⟩ := Sat.poolBs (S := S) (F := pt b o * (bookA T S x.wv x.ws W * (bookA T S x.tv x.ts D * (askA x.av * F)))) (h1.to (by ac_rfl)) hl
  refine ⟨S', hE, hV, ?_⟩
  have h3 : Sat w1 (bookA T S x.wv x.ws W * (pt b o * (bookA T S x.tv x.ts D * (askA x.av * (pool S' * F))))) := h2.to (by ac_rfl)
  have h4 := h3.weak (bookA_mono hE)
  have h5 : Sat w1 (bookA T S x.tv x.ts D * (pt b o * (bookA T S' x.wv x.ws W * (askA x.av * (pool S' * F))))) := h4.to (by ac_rfl)
  have h6 := h5.weak (bookA_mono hE)
  exact ⟨h6.to (by ac_rfl), h6.to (by ac_rfl)⟩
/-- A lookup in a map that reads so. -/
theorem run_lookupM {P : Program} {w : World} {t kt e : TypeId} {k : IntKind} (ht : P.underlying t = some (.map kt e)) (hk : P.underlying kt = some (.int k)) {z : Value} (hz : (zeroValue e).run P w = .ok z w)
    {v : Value} {M : KV} (h : RdM w v M) (x : Int) (ok : Bool) :
    (Instr.lookup t v (.int .i64 x) ok).run P w = .ok (if ok then .tuple #[(kget M x).getD z, .bool (kget M x).isSome] else (kget M x).getD z) w := by
  rcases h with ⟨rfl, rfl⟩ | ⟨b, o, rfl, hb, hm⟩
  · rw [run_lookup_int_nil ht hk hz]; rfl
  · exact run_lookup_int ht hk hz hb hm x ok
theorem Sat.bookLook {P : Program} {T : TypeId} {w : World} {S : Hp} {v : Value} {sh : Bool} {C : CB} {F : Assn} (h : Sat w (bookA T S v sh C * (pool S * F)))
    {t kt e : TypeId} {k : IntKind} (ht : P.underlying t = some (.map kt e)) (hk : P.underlying kt = some (.int k)) (hz : (zeroValue e).run P w = .ok (.slice none 0 0) w) (id : Int) :
    (kget C id = none → (Instr.lookup t v (.int .i64 id) true).run P w = .ok (.tuple #[.slice none 0 0, .bool false]) w) ∧
    (∀ l, kget C id = some l → ∃ dv, (Instr.lookup t v (.int .i64 id) true).run P w = .ok (.tuple #[dv, .bool true]) w ∧ Val T S dv l) := by
  obtain ⟨Z, z1, z2, z3, hrd, _⟩ := h.bookCases
  have hC : kget C id = (kget Z id).map fun z => z.2 := by
    rw [← look_perm z1 (by rw [List.map_map]; exact z2), look_map (fun z : Value × List UInt8 => z.2)]
  have hL : kget (Z.map fun z => (z.1, z.2.1)) id = (kget Z id).map fun z => z.1 := look_map (fun z : Value × List UInt8 => z.1) Z id
  rw [run_lookupM ht hk hz hrd id true, hL]
  constructor
  · intro hn
    have : kget Z id = none := by rw [hC] at hn; simpa using hn
    rw [this]; rfl
  · intro l hl
    rw [hC] at hl
    obtain ⟨z, hz, rfl⟩ := Option.map_eq_some_iff.1 hl
    exact ⟨z.1, by rw [hz]; rfl, z3 _ (look_mem hz)⟩
/-- What a book's map is, as a value. -/
theorem Sat.bookVal {T : TypeId} {w : World} {S : Hp} {v : Value} {sh : Bool} {C : CB} {F : Assn} (h : Sat w (bookA T S v sh C * F)) : ∃ r, v = .map r := by
  obtain ⟨k, a, h1, h2, ⟨Z, z1, z2, z3, z4⟩, f, d, rfl⟩ := h
  rcases z4 with ⟨rfl, _⟩ | ⟨m, o, rfl, _⟩ | ⟨m, rfl, _⟩ <;> exact ⟨_, rfl⟩
/-- A book that is shared is two books. -/
theorem Sat.shareBook {T : TypeId} {w : World} {S : Hp} {v : Value} {sh : Bool} {C : CB} {F : Assn} (h : Sat w (bookA T S v sh C * (pool S * F))) :
    ∃ S', Ext S S' ∧ Sat w (bookA T S' v true C * (bookA T S' v true C * (pool S' * F))) := by
  obtain ⟨k, a, h1, h2, ⟨Z, z1, z2, z3, z4⟩, f, d, rfl⟩ := h
  have hr : Sat w (pool S * F) := ⟨h2, fun b o hb => a b o (by rcases d b with e | e <;> simp_all [join]), f⟩
  have two : ∀ {S' : Hp} {G : Assn}, (bookA T S' v true C (fun _ => none)) → Sat w G → Sat w (bookA T S' v true C * G) := fun p q => (q.to (emp_star _).symm).weak fun k hk => by rw [hk]; exact p
  rcases z4 with ⟨rfl, rfl, _⟩ | ⟨m, o, rfl, rfl, hm, ho, _⟩ | ⟨m, rfl, rfl, hm⟩
  · have p : bookA T S (.map none) true C (fun _ => none) := ⟨[], z1, z2, z3, .inl ⟨rfl, rfl, rfl⟩⟩
    exact ⟨S, Ext.refl S, two p (two p hr)⟩
  · have p : bookA T S (.map (some m)) true C (fun _ => none) := ⟨Z, z1, z2, z3, .inr (.inl ⟨m, o, rfl, rfl, hm, ho, rfl⟩)⟩
    exact ⟨S, Ext.refl S, two p (two p hr)⟩
  · obtain ⟨o, ho, rfl⟩ := hm
    have hs : Sat w (pool S * (pt m o * F)) := Sat.to (⟨_, a, one m o, h2, rfl, f, d, rfl⟩ : Sat w (pt m o * (pool S * F))) (star_left_comm _ _ _)
    obtain ⟨h3, h4⟩ := hs.poolAdd
    have p : bookA T (join S (one m o)) (.map (some m)) true C (fun _ => none) := ⟨Z, z1, z2, fun z hz => (z3 z hz).mono (ext_join _ _ _), .inr (.inl ⟨m, o, rfl, rfl, h4, ho, rfl⟩)⟩
    exact ⟨_, ext_join _ _ _, two p (two p h3)⟩
theorem Sat.shareTwo {T : TypeId} {w : World} {S : Hp} {v v' : Value} {sh sh' : Bool} {C C' : CB} {F : Assn} (h : Sat w (bookA T S v sh C * (bookA T S v' sh' C' * (pool S * F)))) :
    ∃ S', Ext S S' ∧ Sat w (bookA T S' v true C * (bookA T S' v true C * (bookA T S' v' true C' * (bookA T S' v' true C' * (pool S' * F))))) := by
  obtain ⟨S1, e1, h1⟩ := Sat.shareBook (T := T) (S := S) (v := v) (sh := sh) (C := C) (F := bookA T S v' sh' C' * F) (h.to (by ac_rfl))
  have h2 : Sat w (bookA T S1 v' sh' C' * (bookA T S1 v true C * (bookA T S1 v true C * (pool S1 * F)))) := Sat.weak (P := bookA T S v' sh' C') (h1.to (by ac_rfl)) (bookA_mono e1)
  obtain ⟨S2, e2, h3⟩ := Sat.shareBook (T := T) (S := S1) (v := v') (sh := sh') (C := C') (F := bookA T S1 v true C * (bookA T S1 v true C * F)) (h2.to (by ac_rfl))
  have h4 : Sat w (bookA T S2 v true C * (bookA T S1 v true C * (bookA T S2 v' true C' * (bookA T S2 v' true C' * (pool S2 * F))))) := Sat.weak (P := bookA T S1 v true C) (h3.to (by ac_rfl)) (bookA_mono e2)
  have h5 : Sat w (bookA T S2 v true C * (bookA T S2 v true C * (bookA T S2 v' true C' * (bookA T S2 v' true C' * (pool S2 * F))))) := Sat.weak (P := bookA T S1 v true C) (h4.to (by ac_rfl)) (bookA_mono e2)
  exact ⟨S2, e1.trans e2, h5⟩
end Go.SL
namespace Go.Proofs.YtaoohjeaaccnfaaGreat.Ba
set_option linter.unusedVariables false
set_option linter.unusedSimpArgs false
open Go.RowKit Go.SL
def PutQ (S : Hp) (b o : Nat) (cs : Array Value) (C : CB) (id : Int) (l : List UInt8) (F : Assn) (w : World) (e : Ending) (w' : World) : Prop :=
  ∃ m, e = .returned (.tuple #[]) ∧ Sat w' (pt b (.cells ((cs.setIfInBounds o (.map (some m))).setIfInBounds (o + 1) (.bool false)) 113 (0, 0)) * (bookA 5 S (.map (some m)) false (SL.upd C id l) * (pool S * F))) ∧ Side w w'
theorem set_same {cs : Array Value} {o : Nat} {v : Value} (h : cs[o]? = some v) : cs.setIfInBounds o v = cs := by
  apply Array.ext_getElem?
  intro i
  rw [Array.getElem?_setIfInBounds]
  split
  · rename_i e; subst e; split
    · exact h.symm
    · rename_i h2; exact absurd (Array.getElem?_eq_some_iff.1 h).1 h2
  · rfl
theorem perm_lift {α β : Type} (f : α → β) {D E : List β} (h : D.Perm E) : ∀ {Z : List α}, Z.map f = E → ∃ Z' : List α, Z'.Perm Z ∧ Z'.map f = D := by
  induction h with
  | nil => intro Z e; exact ⟨Z, List.Perm.refl _, e⟩
  | cons x h ih =>
    intro Z e
    cases Z with
    | nil => cases e
    | cons z Z =>
      simp only [List.map_cons, List.cons.injEq] at e
      obtain ⟨Z', h1, h2⟩ := ih e.2
      exact ⟨z :: Z', h1.cons z, by simp [h2, e.1]⟩
  | swap x y l =>
    intro Z e
    match Z, e with
    | a :: c :: Z, e =>
      simp only [List.map_cons, List.cons.injEq] at e
      exact ⟨c :: a :: Z, List.Perm.swap _ _ _, by simp [e.1, e.2.1, e.2.2]⟩
  | trans h1 h2 ih1 ih2 =>
    intro Z e
    obtain ⟨Z1, p1, e1⟩ := ih2 e
    obtain ⟨Z2, p2, e2⟩ := ih1 e1
    exact ⟨Z2, p2.trans p1, e2⟩
theorem book_upd {Z : List (Int × Value × List UInt8)} {C : CB} {S : Hp} {T : TypeId} (h1 : (Z.map fun z => (z.1, z.2.2)).Perm C) (h2 : (Z.map Prod.fst).Nodup) (h3 : ∀ z ∈ Z, Val T S z.2.1 z.2.2) (id : Int) {dv : Value} {l : List UInt8} (hv : Val T S dv l) :
    ((SL.upd Z id (dv, l)).map fun z => (z.1, z.2.2)).Perm (SL.upd C id l) ∧ ((SL.upd Z id (dv, l)).map Prod.fst).Nodup ∧ (∀ z ∈ SL.upd Z id (dv, l), Val T S z.2.1 z.2.2) ∧
    SL.upd (Z.map fun z => (z.1, z.2.1)) id dv = (SL.upd Z id (dv, l)).map fun z => (z.1, z.2.1) := by
  refine ⟨?_, nodup_upd h2 _ _, ?_, ?_⟩
  · rw [← upd_map (fun z : Value × List UInt8 => z.2) Z id (dv, l)]
    exact perm_upd h1 (by rw [List.map_map]; exact h2) id l
  · intro z hz
    rcases mem_upd hz with rfl | hz
    · exact hv
    · exact h3 z hz
  · exact upd_map (fun z : Value × List UInt8 => z.1) Z id (dv, l)
set_option maxRecDepth 100000 in
set_option maxHeartbeats 1000000 in
theorem put_any (w : World) (S : Hp) (b o : Nat) (cs : Array Value) (bv : Value) (sh : Bool) (C : CB) (id : Int) (dv : Value) (l : List UInt8) (F : Assn)
    (h : Sat w (pt b (.cells cs 113 (0, 0)) * (bookA 5 S bv sh C * (pool S * F)))) (h0 : cs[o]? = some bv) (h1 : cs[o + 1]? = some (.bool sh)) (hv : Val 5 S dv l) :
    Calls Tryz.prog 124 #[.pointer (some ⟨b, o, none⟩), .int .i64 id, dv] w (PutQ S b o cs C id l F w) := by
  have hc0 : w.cell? ⟨b, o, none⟩ = some bv := (h.cell o).trans h0
  have hc1 : w.cell? ⟨b, o + 1, none⟩ = some (.bool sh) := (h.cell (o + 1)).trans h1
  have hf0 : ∀ o, w.frozen? ⟨b, o, none⟩ = false := h.frozen
  have hneq : o ≠ o + 1 := by omega
  obtain ⟨Z, z1, z2, z3, hrd, hcase⟩ := (h.to (by ac_rfl : _ = bookA 5 S bv sh C * (pool S * (pt b (.cells cs 113 (0, 0)) * F)))).bookCases
  rcases hcase with ⟨rfl, hs⟩ | ⟨rfl, hs⟩ | ⟨m, rfl, rfl, hs⟩
  · skip
    have hnil : ∀ w, (binOp .eql 108 (.map none) (.map none)).run Tryz.prog w = .ok (.bool true) w := fun w => run_eql_map_nil (P := Tryz.prog) w 108 3 48 _ Tryz.underlying108
    have hlt : b < w.heap.size := h.lt
    have H := hid h0; have H1 := hid h1; clear h0 h1
    have hne : (o == o + 1) = false := by simp
    go_enter Tryz.func124, Tryz.ntmps124
    go_wp2_with fail
    refine (copied_any w _ _ hrd).mono ?_
    rintro e w1 ⟨c, D, rfl, hperm, hsat, hside⟩
    have Hp := hid hperm; clear hperm
    have hS1 := hsat.under h
    have g0 : w1.cell? ⟨b, o, none⟩ = some (.map none) := hsat.cellOld hc0
    have g1 : w1.cell? ⟨b, o + 1, none⟩ = some (.bool sh) := hsat.cellOld hc1
    have gf : ∀ o, w1.frozen? ⟨b, o, none⟩ = false := fun o => (hsat.frozenOld hlt).trans (hf0 o)
    clear hc0 hc1 hf0
    have hS2 := ((hS1.to (star_left_comm _ _ _)).setCell o (.map (some c))).setCell (o + 1) (.bool false)
    have hS3 := hS2.to (star_left_comm _ _ _)
    obtain ⟨w2, hrun, hsat2, hside2, _⟩ := Sat.mapUpdate (P := Tryz.prog) Tryz.underlying108 Tryz.underlying3 hS3 id dv
    clear hS1 hS2 hS3 h hsat hs
    go_wp2
    go_end0
    obtain ⟨Z', p1, p2⟩ := perm_lift _ Hp.out rfl
    subst p2
    obtain ⟨u1, u2, u3, u4⟩ := book_upd ((p1.map _).trans z1) ((p1.map Prod.fst).nodup_iff.2 z2) (fun z hz => z3 z (p1.mem_iff.1 hz)) id hv
    refine ⟨c, rfl, ?_, ((hside.setCell _ _).setCell _ _).trans hside2⟩
    rw [u4] at hsat2
    have := Sat.bookOf hsat2 u1 u2 u3
    exact (this.to (by ac_rfl : _ = bookA 5 S (.map none) sh C * (pt b (.cells ((cs.setIfInBounds o (.map (some c))).setIfInBounds (o + 1) (.bool false)) 113 (0, 0)) * (bookA 5 S (.map (some c)) false (SL.upd C id l) * (pool S * F))))).right
  · obtain ⟨mo, rfl⟩ : ∃ mo, bv = .map mo := by
      rcases hrd with ⟨rfl, _⟩ | ⟨m, _, rfl, _⟩
      · exact ⟨_, rfl⟩
      · exact ⟨_, rfl⟩
    rcases mo with _ | mo
    · skip
      have hnil : ∀ w, (binOp .eql 108 (.map none) (.map none)).run Tryz.prog w = .ok (.bool true) w := fun w => run_eql_map_nil (P := Tryz.prog) w 108 3 48 _ Tryz.underlying108
      have hlt : b < w.heap.size := h.lt
      have H := hid h0; have H1 := hid h1; clear h0 h1
      have hne : (o == o + 1) = false := by simp
      go_enter Tryz.func124, Tryz.ntmps124
      go_wp2_with fail
      refine (copied_any w _ _ hrd).mono ?_
      rintro e w1 ⟨c, D, rfl, hperm, hsat, hside⟩
      have Hp := hid hperm; clear hperm
      have hS1 := hsat.under h
      have g0 : w1.cell? ⟨b, o, none⟩ = some (.map none) := hsat.cellOld hc0
      have g1 : w1.cell? ⟨b, o + 1, none⟩ = some (.bool true) := hsat.cellOld hc1
      have gf : ∀ o, w1.frozen? ⟨b, o, none⟩ = false := fun o => (hsat.frozenOld hlt).trans (hf0 o)
      clear hc0 hc1 hf0
      have hS2 := ((hS1.to (star_left_comm _ _ _)).setCell o (.map (some c))).setCell (o + 1) (.bool false)
      have hS3 := hS2.to (star_left_comm _ _ _)
      obtain ⟨w2, hrun, hsat2, hside2, _⟩ := Sat.mapUpdate (P := Tryz.prog) Tryz.underlying108 Tryz.underlying3 hS3 id dv
      clear hS1 hS2 hS3 h hsat hs
      go_wp2
      go_end0
      obtain ⟨Z', p1, p2⟩ := perm_lift _ Hp.out rfl
      subst p2
      obtain ⟨u1, u2, u3, u4⟩ := book_upd ((p1.map _).trans z1) ((p1.map Prod.fst).nodup_iff.2 z2) (fun z hz => z3 z (p1.mem_iff.1 hz)) id hv
      refine ⟨c, rfl, ?_, ((hside.setCell _ _).setCell _ _).trans hside2⟩
      rw [u4] at hsat2
      have := Sat.bookOf hsat2 u1 u2 u3
      exact (this.to (by ac_rfl : _ = bookA 5 S (.map none) true C * (pt b (.cells ((cs.setIfInBounds o (.map (some c))).setIfInBounds (o + 1) (.bool false)) 113 (0, 0)) * (bookA 5 S (.map (some c)) false (SL.upd C id l) * (pool S * F))))).right
    · skip
      have hnil : ∀ w, (binOp .eql 108 (.map (some mo)) (.map none)).run Tryz.prog w = .ok (.bool false) w := fun w => run_eql_map_nil (P := Tryz.prog) w 108 3 48 _ Tryz.underlying108
      have hlt : b < w.heap.size := h.lt
      have H := hid h0; have H1 := hid h1; clear h0 h1
      have hne : (o == o + 1) = false := by simp
      go_enter Tryz.func124, Tryz.ntmps124
      go_wp2_with fail
      refine (copied_any w _ _ hrd).mono ?_
      rintro e w1 ⟨c, D, rfl, hperm, hsat, hside⟩
      have Hp := hid hperm; clear hperm
      have hS1 := hsat.under h
      have g0 : w1.cell? ⟨b, o, none⟩ = some (.map (some mo)) := hsat.cellOld hc0
      have g1 : w1.cell? ⟨b, o + 1, none⟩ = some (.bool true) := hsat.cellOld hc1
      have gf : ∀ o, w1.frozen? ⟨b, o, none⟩ = false := fun o => (hsat.frozenOld hlt).trans (hf0 o)
      clear hc0 hc1 hf0
      have hS2 := ((hS1.to (star_left_comm _ _ _)).setCell o (.map (some c))).setCell (o + 1) (.bool false)
      have hS3 := hS2.to (star_left_comm _ _ _)
      obtain ⟨w2, hrun, hsat2, hside2, _⟩ := Sat.mapUpdate (P := Tryz.prog) Tryz.underlying108 Tryz.underlying3 hS3 id dv
      clear hS1 hS2 hS3 h hsat hs
      go_wp2
      go_end0
      obtain ⟨Z', p1, p2⟩ := perm_lift _ Hp.out rfl
      subst p2
      obtain ⟨u1, u2, u3, u4⟩ := book_upd ((p1.map _).trans z1) ((p1.map Prod.fst).nodup_iff.2 z2) (fun z hz => z3 z (p1.mem_iff.1 hz)) id hv
      refine ⟨c, rfl, ?_, ((hside.setCell _ _).setCell _ _).trans hside2⟩
      rw [u4] at hsat2
      have := Sat.bookOf hsat2 u1 u2 u3
      exact (this.to (by ac_rfl : _ = bookA 5 S (.map (some mo)) true C * (pt b (.cells ((cs.setIfInBounds o (.map (some c))).setIfInBounds (o + 1) (.bool false)) 113 (0, 0)) * (bookA 5 S (.map (some c)) false (SL.upd C id l) * (pool S * F))))).right
  · obtain ⟨u1, u2, u3, u4⟩ := book_upd z1 z2 z3 id hv
    obtain ⟨w', hrun, hsat', hside, _⟩ := Sat.mapUpdate (P := Tryz.prog) Tryz.underlying108 Tryz.underlying3 hs id dv
    have hnil := run_eql_map_nil (P := Tryz.prog) w 108 3 48 (some m) Tryz.underlying108
    have H := hid h0; have H1 := hid h1; have U := hid u4; clear h0 h1 u4 hneq hs
    go_enter Tryz.func124, Tryz.ntmps124
    go_wp2
    go_end0
    refine ⟨m, rfl, ?_, hside⟩
    rw [set_same H.out, set_same H1.out]
    rw [U.out] at hsat'
    exact (Sat.bookOf hsat' u1 u2 u3).to (by ac_rfl)
end Go.Proofs.YtaoohjeaaccnfaaGreat.Ba
namespace Go.Proofs.YtaoohjeaaccnfaaGreat.Ba
set_option linter.unusedVariables false
set_option linter.unusedSimpArgs false
open Go.RowKit Go.SL
def writeR (err id : Int) (l : List UInt8) : Int := if err ≠ 0 then err else if id < 0 ∨ l.length ≠ 480 then 1 else 0
def writeW (err id : Int) (l : List UInt8) (W : CB) : CB := if err = 0 ∧ 0 ≤ id ∧ l.length = 480 then SL.upd W id l else W
theorem writeW_no {err id : Int} {l : List UInt8} {W : CB} (h : ¬ (err = 0 ∧ 0 ≤ id ∧ l.length = 480)) : writeW err id l W = W := if_neg h
theorem writeW_yes {err id : Int} {l : List UInt8} {W : CB} (h : err = 0 ∧ 0 ≤ id ∧ l.length = 480) : writeW err id l W = SL.upd W id l := if_pos h
def WriteQ (S : Hp) (b : Nat) (rd : Value) (err : Int) (W D : CB) (id : Int) (l : List UInt8) (F : Assn) (w : World) (e : Ending) (w' : World) : Prop :=
  ∃ S', Ext S S' ∧ e = .returned (.int .i64 (writeR err id l)) ∧ Sat w' (batchA 113 5 S' b rd err (writeW err id l W) D * (pool S' * F)) ∧ Side w w'
set_option maxRecDepth 100000 in
set_option maxHeartbeats 1000000 in
theorem write_any (w : World) (S : Hp) (b : Nat) (rd : Value) (err : Int) (W D : CB) (id : Int) (dv : Value) (l : List UInt8) (F : Assn)
    (h : Sat w (batchA 113 5 S b rd err W D * (pool S * F))) (hr : Rd w dv l) :
    Calls Tryz.prog 95 #[.pointer (some ⟨b, 0, none⟩), .int .i64 id, dv] w (WriteQ S b rd err W D id l F w) := by
  obtain ⟨x, hx⟩ := h.batchOpen
  have hc1 : w.cell? ⟨b, 1, none⟩ = some (.int .i64 err) := hx.cell 1
  obtain ⟨a, c, rfl⟩ : ∃ a c, dv = .slice a l.length c := by
    rcases hr.2 with ⟨rfl, h0⟩ | ⟨a, c, rfl, _⟩
    · exact ⟨none, 0, by rw [h0]⟩
    · exact ⟨_, _, rfl⟩
  by_cases he : err = 0
  · subst he
    by_cases hid : id < 0
    · go_enter Tryz.func95, Tryz.ntmps95
      have H := SL.hid hr; clear hr
      go_wp2
      go_ret
      exact ⟨S, Ext.refl S, by simp [writeR, hid], by rw [writeW_no (by omega)]; exact h, Side.refl w⟩
    · by_cases hl : l.length = 480
      · have hid' : 0 ≤ id := by omega
        have hb1 : ((480 : Int) != 480) = false := by decide
        have hr' : Rd w (.slice a 480 c) l := by rw [← hl]; exact hr
        have Hr := SL.hid hr'; have HL := SL.hid hl; clear hr hr' hl
        have hsm : small l := by unfold small; rw [HL.out]; decide
        have hbg : Hid (l.length ≤ 1000000000) := by show l.length ≤ _; rw [HL.out]; decide
        go_enter Tryz.func95, Tryz.ntmps95
        rw [HL.out]
        go_wp2
        go_region_held3 (fun _ => True) (trivial)
          (first
            | (go_at_call 92; refine (clone_any w.drew _ l (Rds.drew Hr.out) hbg).mono ?_; rintro e w1 ⟨v1, rfl, hs1, hd1⟩)
            | (go_at_call 124; obtain ⟨S', hE, hV, hS, _⟩ := Sat.addVal (w := w.drew) hx hs1 hsm; refine (put_any _ S' b 2 _ _ _ W id v1 l (bookA 5 S' x.tv x.ts D * (askA x.av * F)) hS rfl rfl hV).mono ?_; rintro e w2 ⟨m, rfl, hs2, hd2⟩))
        go_wp2
        go_ret
        refine ⟨S', hE, ?_, ?_, ((Side.refl w).drew.trans hd1).trans hd2⟩
        · simp [writeR, hid', HL.out, Int.not_lt.2 hid']
        · rw [writeW_yes ⟨rfl, hid', HL.out⟩]
          exact Sat.batchShut { x with wv := .map (some m), ws := false } (hs2.to (by ac_rfl))
      · have hl1 : ((l.length : Int) != 480) = true := by rw [bne_iff_ne]; omega
        go_enter Tryz.func95, Tryz.ntmps95
        have H := SL.hid hr; have HL := SL.hid hl; clear hr hl
        go_wp2
        go_ret
        exact ⟨S, Ext.refl S, by simp [writeR, HL.out], by rw [writeW_no (fun hh => HL.out hh.2.2)]; exact h, Side.refl w⟩
  · have he1 : (err != 0) = true := by simpa using he
    go_enter Tryz.func95, Tryz.ntmps95
    have H := SL.hid hr; clear hr
    go_wp2
    go_ret
    exact ⟨S, Ext.refl S, by simp [writeR, he], by rw [writeW_no (fun hh => he hh.1)]; exact h, Side.refl w⟩
end Go.Proofs.YtaoohjeaaccnfaaGreat.Ba

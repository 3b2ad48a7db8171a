/- Books and batches as assertions over a pool of blocks. -/
import Derived.Test.YtcgpegdnicnciaaBp
namespace Go.SL
set_option linter.unusedVariables false
set_option linter.unusedSimpArgs false
open Go.RowKit
/-- Numbers and bytes. -/
abbrev CB := List (Int × List UInt8)
/-- A book: its map's value, whether it is shared, what it has. -/
def bookA (T : TypeId) (S : Hp) (v : Value) (sh : Bool) (C : CB) : Assn := fun h => ∃ Z : List (Int × Value × List UInt8),
  (Z.map fun z => (z.1, z.2.2)).Perm C ∧ (Z.map Prod.fst).Nodup ∧ (∀ z ∈ Z, Val T S z.2.1 z.2.2) ∧
  ((v = .map none ∧ Z = [] ∧ h = fun _ => none) ∨
   (∃ m o, v = .map (some m) ∧ sh = true ∧ S m = some o ∧ IsMap o (Z.map fun z => (z.1, z.2.1)) ∧ h = fun _ => none) ∨
   (∃ m, v = .map (some m) ∧ sh = false ∧ mp m (Z.map fun z => (z.1, z.2.1)) h))
theorem bookA_mono {T : TypeId} {S S' : Hp} {v : Value} {sh : Bool} {C : CB} (e : Ext S S') (h : Hp) (b : bookA T S v sh C h) : bookA T S' v sh C h := by
  obtain ⟨Z, h1, h2, h3, h4⟩ := b
  refine ⟨Z, h1, h2, fun z hz => (h3 z hz).mono e, ?_⟩
  rcases h4 with h4 | ⟨m, o, h5, h6, h7, h8⟩ | h4
  · exact .inl h4
  · exact .inr (.inl ⟨m, o, h5, h6, e _ _ h7, h8⟩)
  · exact .inr (.inr h4)
theorem bookA_nil (T : TypeId) (S : Hp) (sh : Bool) : bookA T S (.map none) sh [] (fun _ => none) := ⟨[], List.Perm.refl _, List.nodup_nil, by simp, .inl ⟨rfl, rfl, rfl⟩⟩
theorem bookA_perm {T : TypeId} {S : Hp} {v : Value} {sh : Bool} {C D : CB} (e : C.Perm D) (h : Hp) (b : bookA T S v sh C h) : bookA T S v sh D h := by
  obtain ⟨Z, h1, r⟩ := b
  exact ⟨Z, h1.trans e, r⟩
/-- What a book is: its three cases, out of what holds. -/
theorem Sat.bookCases {T : TypeId} {w : World} {S : Hp} {v : Value} {sh : Bool} {C : CB} {F : Assn} (h : Sat w (bookA T S v sh C * (pool S * F))) :
    ∃ Z : List (Int × Value × List UInt8), (Z.map fun z => (z.1, z.2.2)).Perm C ∧ (Z.map Prod.fst).Nodup ∧ (∀ z ∈ Z, Val T S z.2.1 z.2.2) ∧
      RdM w v (Z.map fun z => (z.1, z.2.1)) ∧
      ((v = .map none ∧ Sat w (pool S * F)) ∨ (sh = true ∧ Sat w (pool S * F)) ∨
       (∃ m, v = .map (some m) ∧ sh = false ∧ Sat w (mp m (Z.map fun z => (z.1, z.2.1)) * (pool S * F)))) := by
  obtain ⟨k, a, h1, h2, ⟨Z, z1, z2, z3, z4⟩, f, d, rfl⟩ := h
  have hr : Sat w (pool S * F) := ⟨h2, fun b o hb => a b o (by rcases d b with e | e <;> simp_all [join]), f⟩
  refine ⟨Z, z1, z2, z3, ?_, ?_⟩
  · rcases z4 with ⟨rfl, rfl, _⟩ | ⟨m, o, rfl, _, hm, ho, _⟩ | ⟨m, rfl, _, hm⟩
    · exact .inl ⟨rfl, rfl⟩
    · exact .inr ⟨m, o, rfl, hr.poolGet hm, ho⟩
    · obtain ⟨o, ho, rfl⟩ := hm
      exact .inr ⟨m, o, rfl, a m o (by simp [join, one]), ho⟩
  · rcases z4 with ⟨rfl, rfl, _⟩ | ⟨m, o, rfl, rfl, hm, ho, _⟩ | ⟨m, rfl, rfl, hm⟩
    · exact .inl ⟨rfl, hr⟩
    · exact .inr (.inl ⟨rfl, hr⟩)
    · exact .inr (.inr ⟨m, rfl, rfl, _, a, h1, h2, hm, f, d, rfl⟩)
/-- A map of one's own is a book. -/
theorem Sat.bookOf {T : TypeId} {w : World} {S : Hp} {C : CB} {F : Assn} {m : Nat} {Z : List (Int × Value × List UInt8)} (h : Sat w (mp m (Z.map fun z => (z.1, z.2.1)) * F))
    (h1 : (Z.map fun z => (z.1, z.2.2)).Perm C) (h2 : (Z.map Prod.fst).Nodup) (h3 : ∀ z ∈ Z, Val T S z.2.1 z.2.2) : Sat w (bookA T S (.map (some m)) false C * F) :=
  h.weak fun k hk => ⟨Z, h1, h2, h3, .inr (.inr ⟨m, rfl, rfl, hk⟩)⟩
/-- What a batch's struct holds besides its reader and its error. -/
structure Bx where
  wv : Value
  ws : Bool
  tv : Value
  ts : Bool
  av : Value
/-- Blocks that are asked for: none. -/
def askA (av : Value) : Assn := fun h => (av = .map none ∧ h = fun _ => none) ∨ ∃ m, av = .map (some m) ∧ mp m [] h
def Bx.cells (x : Bx) (rd : Value) (err : Int) : Array Value := #[rd, .int .i64 err, x.wv, .bool x.ws, x.tv, .bool x.ts, x.av]
/-- A batch: its struct's block, what its reader is, its error, its books. -/
def batchA (TB T : TypeId) (S : Hp) (b : Nat) (rd : Value) (err : Int) (W D : CB) : Assn :=
  ex fun x : Bx => pt b (.cells (x.cells rd err) TB (0, 0)) * (bookA T S x.wv x.ws W * (bookA T S x.tv x.ts D * askA x.av))
theorem Sat.batchOpen {w : World} {TB T : TypeId} {S : Hp} {b : Nat} {rd : Value} {err : Int} {W D : CB} {F : Assn} (h : Sat w (batchA TB T S b rd err W D * F)) :
    ∃ x : Bx, Sat w (pt b (.cells (x.cells rd err) TB (0, 0)) * (bookA T S x.wv x.ws W * (bookA T S x.tv x.ts D * (askA x.av * F)))) := by
  obtain ⟨x, h⟩ := Sat.ex_star_iff.1 h
  exact ⟨x, h.to (by ac_rfl)⟩
theorem Sat.batchShut {w : World} {TB T : TypeId} {S : Hp} {b : Nat} {rd : Value} {err : Int} {W D : CB} {F : Assn} (x : Bx)
    (h : Sat w (pt b (.cells (x.cells rd err) TB (0, 0)) * (bookA T S x.wv x.ws W * (bookA T S x.tv x.ts D * (askA x.av * F))))) : Sat w (batchA TB T S b rd err W D * F) :=
  Sat.ex_star_iff.2 ⟨x, h.to (by ac_rfl)⟩
theorem batchA_mono {TB T : TypeId} {S S' : Hp} {b : Nat} {rd : Value} {err : Int} {W D : CB} (e : Ext S S') (h : Hp) (p : batchA TB T S b rd err W D h) : batchA TB T S' b rd err W D h := by
  obtain ⟨x, h1, h2, p1, ⟨h3, h4, p3, ⟨h5, h6, p5, p6, d6, j6⟩, d4, j4⟩, d2, j2⟩ := p
  exact ⟨x, h1, h2, p1, ⟨h3, h4, bookA_mono e _ p3, ⟨h5, h6, bookA_mono e _ p5, p6, d6, j6⟩, d4, j4⟩, d2, j2⟩
theorem batchA_perm {TB T : TypeId} {S : Hp} {b : Nat} {rd : Value} {err : Int} {W D W' D' : CB} (eW : W.Perm W') (eD : D.Perm D') (h : Hp) (p : batchA TB T S b rd err W D h) : batchA TB T S b rd err W' D' h := by
  obtain ⟨x, h1, h2, p1, ⟨h3, h4, p3, ⟨h5, h6, p5, p6, d6, j6⟩, d4, j4⟩, d2, j2⟩ := p
  exact ⟨x, h1, h2, p1, ⟨h3, h4, bookA_perm eW _ p3, ⟨h5, h6, bookA_perm eD _ p5, p6, d6, j6⟩, d4, j4⟩, d2, j2⟩
/-- Bytes that were made beside a batch go into its pool. -/
theorem Sat.addVal {w w1 : World} {T : TypeId} {S : Hp} {b : Nat} {o : Obj} {x : Bx} {W D : CB} {F : Assn} {v : Value} {l : List UInt8}
    (hx : Sat w (pt b o * (bookA T S x.wv x.ws W * (bookA T S x.tv x.ts D * (askA x.av * (pool S * F))))))
    (hs : Sat w1 (bs T v l * SL.whole w)) (hl : small l) :
    ∃ S', Ext S S' ∧ Val T S' v l ∧ Sat w1 (pt b o * (bookA T S' x.wv x.ws W * (pool S' * (bookA T S' x.tv x.ts D * (askA x.av * F))))) ∧
      Sat w1 (pt b o * (bookA T S' x.tv x.ts D * (pool S' * (bookA T S' x.wv x.ws W * (askA x.av * F))))) := by
  have h1 := hs.under hx
  obtain ⟨S', hE, hV, h2⟩ := Sat.poolBs (S := S) (F := pt b o * (bookA T S x.wv x.ws W * (bookA T S x.tv x.ts D * (askA x.av * F)))) (h1.to (by ac_rfl)) hl
  refine ⟨S', hE, hV, ?_⟩
  have h3 : Sat w1 (bookA T S x.wv x.ws W * (pt b o * (bookA T S x.tv x.ts D * (askA x.av * (pool S' * F))))) := h2.to (by ac_rfl)
  have h4 := h3.weak (bookA_mono hE)
  have h5 : Sat w1 (bookA T S x.tv x.ts D * (pt b o * (bookA T S' x.wv x.ws W * (askA x.av * (pool S' * F))))) := h4.to (by ac_rfl)
  have h6 := h5.weak (bookA_mono hE)
  exact ⟨h6.to (by ac_rfl), h6.to (by ac_rfl)⟩
/-- A lookup in a map that reads so. -/
theorem run_lookupM {P : Program} {w : World} {t kt e : TypeId} {k : IntKind} (ht : P.underlying t = some (.map kt e)) (hk : P.underlying kt = some (.int k)) {z : Value} (hz : (zeroValue e).run P w = .ok z w)
    {v : Value} {M : KV} (h : RdM w v M) (x : Int) (ok : Bool) :
    (Instr.lookup t v (.int .i64 x) ok).run P w = .ok (if ok then .tuple #[(kget M x).getD z, .bool (kget M x).isSome] else (kget M x).getD z) w := by
  rcases h with ⟨rfl, rfl⟩ | ⟨b, o, rfl, hb, hm⟩
  · rw [run_lookup_int_nil ht hk hz]; rfl
  · exact run_lookup_int ht hk hz hb hm x ok
theorem Sat.bookLook {P : Program} {T : TypeId} {w : World} {S : Hp} {v : Value} {sh : Bool} {C : CB} {F : Assn} (h : Sat w (bookA T S v sh C * (pool S * F)))
    {t kt e : TypeId} {k : IntKind} (ht : P.underlying t = some (.map kt e)) (hk : P.underlying kt = some (.int k)) (hz : (zeroValue e).run P w = .ok (.slice none 0 0) w) (id : Int) :
    (kget C id = none → (Instr.lookup t v (.int .i64 id) true).run P w = .ok (.tuple #[.slice none 0 0, .bool false]) w) ∧
    (∀ l, kget C id = some l → ∃ dv, (Instr.lookup t v (.int .i64 id) true).run P w = .ok (.tuple #[dv, .bool true]) w ∧ Val T S dv l) := by
  obtain ⟨Z, z1, z2, z3, hrd, _⟩ := h.bookCases
  have hC : kget C id = (kget Z id).map fun z => z.2 := by
    rw [← look_perm z1 (by rw [List.map_map]; exact z2), look_map (fun z : Value × List UInt8 => z.2)]
  have hL : kget (Z.map fun z => (z.1, z.2.1)) id = (kget Z id).map fun z => z.1 := look_map (fun z : Value × List UInt8 => z.1) Z id
  rw [run_lookupM ht hk hz hrd id true, hL]
  constructor
  · intro hn
    have : kget Z id = none := by rw [hC] at hn; simpa using hn
    rw [this]; rfl
  · intro l hl
    rw [hC] at hl
    obtain ⟨z, hz, rfl⟩ := Option.map_eq_some_iff.1 hl
    exact ⟨z.1, by rw [hz]; rfl, z3 _ (look_mem hz)⟩
/-- What a reader answers: a number, and bytes where it is 0. -/
def ansA (T : TypeId) (A : Int × List UInt8) (dv : Value) : Assn := fun h => (A.1 = 0 ∧ bs T dv A.2 h) ∨ (A.1 ≠ 0 ∧ dv = .slice none 0 0 ∧ h = fun _ => none)
theorem Sat.ansSlice {w : World} {T : TypeId} {A : Int × List UInt8} {dv : Value} {F : Assn} (h : Sat w (ansA T A dv * F)) : ∃ a k c, dv = .slice a k c := by
  obtain ⟨m, _, h1, h2, p, _, _, _⟩ := h
  rcases p with ⟨_, p⟩ | ⟨_, rfl, _⟩
  · rcases p with ⟨rfl, _⟩ | ⟨g, cap, cur, rfl, _⟩
    · exact ⟨_, _, _, rfl⟩
    · exact ⟨_, _, _, rfl⟩
  · exact ⟨_, _, _, rfl⟩
theorem Sat.ansYes {w : World} {T : TypeId} {l : List UInt8} {dv : Value} {F : Assn} (h : Sat w (ansA T (0, l) dv * F)) : Sat w (bs T dv l * F) :=
  h.weak fun _ hk => by rcases hk with ⟨_, h⟩ | ⟨h, _⟩; exact h; exact absurd rfl h
theorem Sat.ansOf {w : World} {T : TypeId} {l : List UInt8} {dv : Value} {F : Assn} (h : Sat w (bs T dv l * F)) : Sat w (ansA T (0, l) dv * F) := h.weak fun _ hk => .inl ⟨rfl, hk⟩
theorem Sat.ansNo {w : World} {T : TypeId} {A : Int × List UInt8} {dv : Value} {F : Assn} (h : Sat w (ansA T A dv * F)) (hA : A.1 ≠ 0) : dv = .slice none 0 0 ∧ Sat w F := by
  refine ⟨?_, h.right⟩
  obtain ⟨m, _, h1, h2, p, _, _, _⟩ := h
  rcases p with ⟨e, _⟩ | ⟨_, e, _⟩
  · exact absurd e hA
  · exact e
theorem Sat.ansNil {w : World} {T : TypeId} {A : Int × List UInt8} {F : Assn} (h : Sat w F) (hA : A.1 ≠ 0) : Sat w (ansA T A (.slice none 0 0) * F) :=
  (h.to (emp_star F).symm).weak fun _ hk => .inr ⟨hA, rfl, hk⟩
theorem Sat.bsRd {w : World} {T : TypeId} {l : List UInt8} {dv : Value} {F : Assn} (h : Sat w (bs T dv l * F)) : Rd w dv l := Sat.rds h
/-- What a book's map is, as a value. -/
theorem Sat.bookVal {T : TypeId} {w : World} {S : Hp} {v : Value} {sh : Bool} {C : CB} {F : Assn} (h : Sat w (bookA T S v sh C * F)) : ∃ r, v = .map r := by
  obtain ⟨k, a, h1, h2, ⟨Z, z1, z2, z3, z4⟩, f, d, rfl⟩ := h
  rcases z4 with ⟨rfl, _⟩ | ⟨m, o, rfl, _⟩ | ⟨m, rfl, _⟩ <;> exact ⟨_, rfl⟩
/-- A book that is shared is two books. -/
theorem Sat.shareBook {T : TypeId} {w : World} {S : Hp} {v : Value} {sh : Bool} {C : CB} {F : Assn} (h : Sat w (bookA T S v sh C * (pool S * F))) :
    ∃ S', Ext S S' ∧ Sat w (bookA T S' v true C * (bookA T S' v true C * (pool S' * F))) := by
  obtain ⟨k, a, h1, h2, ⟨Z, z1, z2, z3, z4⟩, f, d, rfl⟩ := h
  have hr : Sat w (pool S * F) := ⟨h2, fun b o hb => a b o (by rcases d b with e | e <;> simp_all [join]), f⟩
  have two : ∀ {S' : Hp} {G : Assn}, (bookA T S' v true C (fun _ => none)) → Sat w G → Sat w (bookA T S' v true C * G) := fun p q => (q.to (emp_star _).symm).weak fun k hk => by rw [hk]; exact p
  rcases z4 with ⟨rfl, rfl, _⟩ | ⟨m, o, rfl, rfl, hm, ho, _⟩ | ⟨m, rfl, rfl, hm⟩
  · have p : bookA T S (.map none) true C (fun _ => none) := ⟨[], z1, z2, z3, .inl ⟨rfl, rfl, rfl⟩⟩
    exact ⟨S, Ext.refl S, two p (two p hr)⟩
  · have p : bookA T S (.map (some m)) true C (fun _ => none) := ⟨Z, z1, z2, z3, .inr (.inl ⟨m, o, rfl, rfl, hm, ho, rfl⟩)⟩
    exact ⟨S, Ext.refl S, two p (two p hr)⟩
  · obtain ⟨o, ho, rfl⟩ := hm
    have hs : Sat w (pool S * (pt m o * F)) := Sat.to (⟨_, a, one m o, h2, rfl, f, d, rfl⟩ : Sat w (pt m o * (pool S * F))) (star_left_comm _ _ _)
    obtain ⟨h3, h4⟩ := hs.poolAdd
    have p : bookA T (join S (one m o)) (.map (some m)) true C (fun _ => none) := ⟨Z, z1, z2, fun z hz => (z3 z hz).mono (ext_join _ _ _), .inr (.inl ⟨m, o, rfl, rfl, h4, ho, rfl⟩)⟩
    exact ⟨_, ext_join _ _ _, two p (two p h3)⟩
theorem Sat.shareTwo {T : TypeId} {w : World} {S : Hp} {v v' : Value} {sh sh' : Bool} {C C' : CB} {F : Assn} (h : Sat w (bookA T S v sh C * (bookA T S v' sh' C' * (pool S * F)))) :
    ∃ S', Ext S S' ∧ Sat w (bookA T S' v true C * (bookA T S' v true C * (bookA T S' v' true C' * (bookA T S' v' true C' * (pool S' * F))))) := by
  obtain ⟨S1, e1, h1⟩ := Sat.shareBook (T := T) (S := S) (v := v) (sh := sh) (C := C) (F := bookA T S v' sh' C' * F) (h.to (by ac_rfl))
  have h2 : Sat w (bookA T S1 v' sh' C' * (bookA T S1 v true C * (bookA T S1 v true C * (pool S1 * F)))) := Sat.weak (P := bookA T S v' sh' C') (h1.to (by ac_rfl)) (bookA_mono e1)
  obtain ⟨S2, e2, h3⟩ := Sat.shareBook (T := T) (S := S1) (v := v') (sh := sh') (C := C') (F := bookA T S1 v true C * (bookA T S1 v true C * F)) (h2.to (by ac_rfl))
  have h4 : Sat w (bookA T S2 v true C * (bookA T S1 v true C * (bookA T S2 v' true C' * (bookA T S2 v' true C' * (pool S2 * F))))) := Sat.weak (P := bookA T S1 v true C) (h3.to (by ac_rfl)) (bookA_mono e2)
  have h5 : Sat w (bookA T S2 v true C * (bookA T S2 v true C * (bookA T S2 v' true C' * (bookA T S2 v' true C' * (pool S2 * F))))) := Sat.weak (P := bookA T S1 v true C) (h4.to (by ac_rfl)) (bookA_mono e2)
  exact ⟨S2, e1.trans e2, h5⟩
end Go.SL

/- file, plainly: WriteAt. -/
import Derived.Test.YtaoohjeaaccnfaaYf
namespace Go.SL
set_option linter.unusedVariables false
set_option linter.unusedSimpArgs false
open Go.RowKit
/-- Is block i met by m bytes at off? -/
def touched (off m i : Nat) : Bool := decide (0 < m) && (decide (480 * i < off + m) && decide (off < 480 * i + 480))
theorem touched_iff {off m i : Nat} : touched off m i = true ↔ 0 < m ∧ 480 * i < off + m ∧ off < 480 * i + 480 := by
  unfold touched; simp only [Bool.and_eq_true, decide_eq_true_eq]
/-- What is written. -/
def AF.wr (f : AF) (off : Nat) (d : List UInt8) : AF :=
  { f with sz := if d.length = 0 then f.sz else max f.sz (off + d.length), dat := fun p => if off ≤ p ∧ p < off + d.length then d.getD (p - off) 0 else f.dat p, pr := fun i => f.pr i || touched off d.length i }
def sameF (h h' : Hd) : Prop := h.n.kd = h'.n.kd ∧ h.n.lk = h'.n.lk ∧ h.n.sz = h'.n.sz
section
variable {n id k q K : Nat} {own : Nat → Own} {N N0 : Nat → Option Hd} {h h' h0 : Hd} {a a0 : Aw}
theorem put_sameF (h : Hd) (i : Nat) (b : Int) : sameF (h.put i b) h := by unfold Hd.put sameF; split <;> exact ⟨rfl, rfl, rfl⟩
theorem byt_page {V : Nat → List UInt8} {p : Nat} (e : h.page (p / 480) = h'.page (p / 480)) : byt V h p = byt V h' p := by unfold byt; rw [e]
/-- A page that is its own is written. -/
theorem NodeSt.writePage (T : NodeSt n a0 N0 id K a own N h) (hq : q < 256) {b : Nat} (hb : h.page q = (b : Int)) (hb0 : 0 < b) {l : List UInt8} (hl : l.length = 480) :
    NodeSt n a0 N0 id K { a with V := upV a.V b l } own N h ∧ ∀ p, p < 122880 → byt (upV a.V b l) h p = if p / 480 = q then l.getD (p % 480) 0 else byt a.V h p := by
  have ho := T.sp.lay.ownPg T.hN hq (show h.page q ≠ 0 by omega)
  rw [hb, Int.toNat_natCast] at ho
  refine ⟨T.write (.inr (.inr (.inr ⟨q, ho⟩))) hl, fun p hp => ?_⟩
  by_cases e : p / 480 = q
  · rw [if_pos e]
    unfold byt
    rw [e, if_neg (by omega), hb, Int.toNat_natCast, upV_same]
  · rw [if_neg e]
    unfold byt
    split
    · rfl
    · rename_i h0
      rw [upV_other]
      intro h9
      have := T.sp.lay.ownPg T.hN (show p / 480 < 256 by omega) h0
      rw [h9, ho] at this
      simp only [Prod.mk.injEq] at this
      exact e this.2.2.symm
end
section
variable {σ α : Type} {n id k q K : Nat} {own : Nat → Own} {N N0 : Nat → Option Hd} {h h0 : Hd} {a a0 : Aw} {V0 : Nat → List UInt8} {I : σ → Prop} {ask : Asks σ} {E : Int → Prop} {A : Nat → Option AF} {f : AF}
/-- What open comes to. -/
def OpenP (n : Nat) (a0 : Aw) (N0 : Nat → Option Hd) (id K : Nat) (a : Aw) (h : Hd) (q : Nat) (wh : Bool) (p : Hd × Int × List UInt8) (a' : Aw) : Prop :=
  ∃ own N, NodeSt n a0 N0 id K a' own N p.1 ∧ a'.V = a.V ∧ (∃ b : Nat, p.2.1 = (b : Int) ∧ p.1.page q = (b : Int) ∧ 0 < b) ∧ (∀ i, i ≠ q → p.1.page i = h.page i) ∧ sameF p.1 h ∧ (p.1.n.rw ≠ 0 → h.n.rw ≠ 0 ∨ 16 ≤ q) ∧
    p.2.2.length = 480 ∧ (wh = false → ∀ r, r < 480 → p.2.2.getD r 0 = byt a.V h (480 * q + r))
def OpenE (K : Nat) (h : Hd) (q : Nat) (c : Int) : Prop := c = 7 ∧ ∃ hx : Hd, hx.nds = K ∧ (∀ i, hx.page i = h.page i) ∧ h.page q = 0 ∧ (hx.n.rw ≠ 0 → h.n.rw ≠ 0 ∨ 16 ≤ q)
theorem zs_getD (m r : Nat) : (zs m).getD r 0 = 0 := by
  show (List.replicate m (0 : UInt8)).getD r 0 = 0
  simp only [List.getD, List.getElem?_replicate]; split <;> rfl
theorem Does.open2 (hr : Rdr ask n V0 I) (hn : n ≤ 3840) (T : NodeSt n a0 N0 id K a own N h) (hq : q < 256) (hp : h.page q = 0) (hrw : 16 ≤ q → h.n.rw ≠ 0) {h1 : Hd} {V1 : Nat → List UInt8} (hV : a.V = V1) (e1 : ∀ i, h.page i = h1.page i) (e2 : sameF h h1) (e3 : h.n.rw ≠ 0 → h1.n.rw ≠ 0 ∨ 16 ≤ q) (wh : Bool) :
    Does n V0 I (wopen2 ask n h q) a (fun p a' => OpenP n a0 N0 id K ⟨V1, []⟩ h1 q wh p a') (OpenE K h1 q) := by
  have h0 : 0 < n := by have := (T.sp.lay.ok _ _ T.hN); omega
  have hE : freeOf a.B n = none → OpenE K h1 q 7 := fun hf => ⟨rfl, h, by have := T.cons; have := T.sp.bm.free_none hf; omega, e1, by rw [← e1]; exact hp, e3⟩
  refine (Does.take hr h0 hE).bind fun b a' e => ?_
  · obtain ⟨hb, rfl⟩ := e
    obtain ⟨hbn, hbo⟩ := T.sp.bm.free_some hb
    have hb0 := T.sp.lay.free_ne hbo
    have T' := T.takePage hn hbo hbn hq hp hrw
    refine Does.pure ⟨_, _, T', hV, ⟨b, rfl, ?_, by omega⟩, fun i hi => ?_, ?_, ?_, length_zs 480, fun _ r hr' => ?_⟩
    · show (h.put q (b : Int)).page q = b
      rw [Hd.page_put T.ok.fit hq, if_pos rfl]
    · show (h.put q (b : Int)).page i = _
      rw [Hd.page_put T.ok.fit hq, if_neg hi]; exact e1 i
    · obtain ⟨s1, s2, s3⟩ := put_sameF h q (b : Int)
      exact ⟨s1.trans e2.1, s2.trans e2.2.1, s3.trans e2.2.2⟩
    · show (h.put q (b : Int)).n.rw ≠ 0 → _
      rw [Hd.put_rw]; exact e3
    · show (zs 480).getD r 0 = _
      rw [zs_getD]
      unfold byt
      rw [show (480 * q + r) / 480 = q by omega, if_pos (by rw [← e1]; exact hp)]
theorem Does.open (hr : Rdr ask n V0 I) (hn : n ≤ 3840) (T : NodeSt n a0 N0 id K a own N h) (hq : q < 256) (wh : Bool) :
    Does n V0 I (wopen ask n h q wh) a (OpenP n a0 N0 id K a h q wh) (OpenE K h q) := by
  have h0 : 0 < n := by have := (T.sp.lay.ok _ _ T.hN); omega
  have fin : ∀ p a', OpenP n a0 N0 id K ⟨a.V, []⟩ h q wh p a' → OpenP n a0 N0 id K a h q wh p a' := fun p a' h => h
  by_cases hp : h.page q = 0
  · by_cases hrw : 16 ≤ q ∧ h.n.rw = 0
    · refine Does.congr (m' := wtake ask n ⇝ fun r => wopen2 ask n (h.setRw (r : Int)) q) ?_ fun st => (if_pos hp).trans (if_pos hrw)
      have hE : freeOf a.B n = none → OpenE K h q 7 := fun hf => ⟨rfl, h, by have := T.cons; have := T.sp.bm.free_none hf; omega, fun _ => rfl, hp, fun h9 => absurd hrw.2 h9⟩
      refine (Does.take hr h0 hE).bind fun b a' e => ?_
      · obtain ⟨hb, rfl⟩ := e
        obtain ⟨hbn, hbo⟩ := T.sp.bm.free_some hb
        have hb0 := T.sp.lay.free_ne hbo
        have T' := T.takeRow hn hbo hbn hrw.2
        exact (Does.open2 hr hn T' hq hp (fun _ => show (b : Int) ≠ 0 by omega) (h1 := h) (V1 := a.V) rfl (fun _ => rfl) ⟨rfl, rfl, rfl⟩ (fun _ => .inr hrw.1) wh).mono fin fun _ h => h
    · refine Does.congr (m' := wopen2 ask n h q) ?_ fun st => (if_pos hp).trans (if_neg hrw)
      exact (Does.open2 hr hn T hq hp (fun h9 h10 => hrw ⟨h9, h10⟩) (h1 := h) (V1 := a.V) rfl (fun _ => rfl) ⟨rfl, rfl, rfl⟩ (fun h9 => .inl h9) wh).mono fin fun _ h => h
  · have hpg := T.ok.pg q hq
    obtain ⟨b, hb⟩ : ∃ b : Nat, h.page q = (b : Int) := ⟨(h.page q).toNat, by omega⟩
    cases wh with
    | true =>
      refine Does.congr (m' := WM.pure (h, h.page q, zs 480)) (Does.pure ?_) fun st => (if_neg hp).trans (if_pos rfl)
      exact ⟨own, N, T, rfl, ⟨b, hb, hb, by omega⟩, fun _ _ => rfl, ⟨rfl, rfl, rfl⟩, fun h9 => .inl h9, length_zs 480, fun h9 => by cases h9⟩
    | false =>
      refine Does.congr (m' := wread ask (b : Int) ⇝ fun L => WM.pure (h, h.page q, L)) ?_ fun st => by
        refine ((if_neg hp).trans (if_neg (by decide))).trans ?_
        rw [hb]
      refine (Does.read hr (by omega) (by omega)).bind fun L a' e => ?_
      obtain ⟨rfl, hL, e3⟩ := e
      rw [e3]
      refine Does.pure ⟨own, N, T, rfl, ⟨b, hb, hb, by omega⟩, fun _ _ => rfl, ⟨rfl, rfl, rfl⟩, fun h9 => .inl h9, hL, fun _ r hr' => ?_⟩
      unfold byt
      rw [show (480 * q + r) / 480 = q by omega, if_neg hp, hb, show (480 * q + r) % 480 = r by omega, Int.toNat_natCast]
/-- So far. -/
structure WrI (n : Nat) (a0 : Aw) (N0 : Nat → Option Hd) (id K : Nat) (h0 : Hd) (off : Nat) (d : List UInt8) (done : Nat) (a : Aw) (h : Hd) : Prop where
  st : ∃ own N, NodeSt n a0 N0 id K a own N h
  same : sameF h h0
  byts : ∀ p, p < 122880 → byt a.V h p = if off ≤ p ∧ p < off + done then d.getD (p - off) 0 else byt a0.V h0 p
  prs : ∀ i, i < 256 → prOf h i = (prOf h0 i || touched off done i)
  rw : h.n.rw ≠ 0 → h0.n.rw ≠ 0 ∨ ∃ i, 16 ≤ i ∧ i < 256 ∧ touched off done i = true
theorem Does.wr (hr : Rdr ask n V0 I) (hn : n ≤ 3840) (hfin : h0.Fin) (off : Nat) (d : List UInt8) (hm : off + d.length ≤ 122880) : ∀ (f done : Nat) (a : Aw) (h : Hd), done ≤ d.length → d.length - done ≤ f → WrI n a0 N0 id K h0 off d done a h → (done < d.length → done = 0 ∨ (off + done) % 480 = 0) →
    Does n V0 I (wwr ask n off d f done h) a (fun h' a' => WrI n a0 N0 id K h0 off d d.length a' h') (fun c => c = 7 ∧ K < needP fun i => prOf h0 i || touched off d.length i) := by
  intro f
  induction f with
  | zero =>
    intro done a h hd hf T _
    obtain rfl : done = d.length := by omega
    exact Does.pure T
  | succ f ih =>
    intro done a h hd hf T hal
    by_cases hlt : done < d.length
    · obtain ⟨k, hk⟩ : ∃ k, lenN (d.length - done) (off + done) = k := ⟨_, rfl⟩
      have hk2 : k = min (d.length - done) (480 - (off + done) % 480) := by rw [← hk]; rfl
      obtain ⟨q, hq⟩ : ∃ q, (off + done) / 480 = q := ⟨_, rfl⟩
      obtain ⟨r, hr'⟩ : ∃ r, (off + done) % 480 = r := ⟨_, rfl⟩
      have hqr : off + done = 480 * q + r := by omega
      have hr480 : r < 480 := by omega
      have hq256 : q < 256 := by omega
      rw [hr'] at hk2
      refine Does.congr (m' := wopen ask n h q (k == 480) ⇝ wwrK (wwr ask n off d f) done off k d) ?_ fun st => by
        rw [← hq, ← hk]; exact if_pos hlt
      obtain ⟨own, N, T0⟩ := T.st
      have htq : touched off d.length q = true := touched_iff.2 ⟨by omega, by omega, by omega⟩
      have hmono : ∀ i, touched off done i = true → touched off d.length i = true := fun i hi => by
        obtain ⟨h1, h2, h3⟩ := touched_iff.1 hi
        exact touched_iff.2 ⟨by omega, by omega, h3⟩
      refine ((Does.open hr hn T0 hq256 (k == 480)).mono (fun _ _ h => h) fun c hE => ?_).bind fun p a' hP => ?_
      · obtain ⟨rfl, hx, x1, x2, x3, x4⟩ := hE
        refine ⟨rfl, ?_⟩
        rw [← x1]
        unfold Hd.nds needP
        have hlt2 : cntP (prOf hx) + 1 ≤ cntP fun i => prOf h0 i || touched off d.length i := by
          refine cntP_lt hq256 (fun i hi h1 => ?_) ((prOf_false hq256).2 (by rw [x2]; exact x3)) (by simp only [htq, Bool.or_true])
          have h2 : prOf h i = true := by
            obtain ⟨h3, h4⟩ := prOf_iff.1 h1
            rw [x2] at h4
            exact prOf_iff.2 ⟨h3, h4⟩
          rw [T.prs i hi, Bool.or_eq_true] at h2
          rw [Bool.or_eq_true]
          rcases h2 with h2 | h2
          · exact .inl h2
          · exact .inr (hmono i h2)
        by_cases hx0 : hx.n.rw = 0
        · rw [if_pos hx0]; omega
        · rw [if_neg hx0, if_pos]
          · omega
          · rw [rowB_iff]
            rcases x4 hx0 with h9 | h9
            · rcases T.rw h9 with h9 | ⟨i, i1, i2, i3⟩
              · obtain ⟨i, i1, i2, i3⟩ := hfin.rwp h9
                exact ⟨i, i1, i2, by rw [Bool.or_eq_true]; exact .inl (prOf_iff.2 ⟨i2, i3⟩)⟩
              · exact ⟨i, i1, i2, by rw [Bool.or_eq_true]; exact .inr (hmono i i3)⟩
            · exact ⟨q, h9, hq256, by rw [Bool.or_eq_true]; exact .inr htq⟩
      · obtain ⟨h', bI, L⟩ := p
        obtain ⟨own', N', T1, hV, ⟨b, p1, p2, p3⟩, p4, p5, p6, p7, p8⟩ := hP
        dsimp only at T1 p1 p2 p4 p5 p6 p7 p8
        subst p1
        obtain ⟨seg, hseg⟩ : ∃ s, (d.drop done).take k = s := ⟨_, rfl⟩
        have hsl : seg.length = k := by rw [← hseg, List.length_take, List.length_drop]; omega
        have hpl : (putAt L r seg).length = 480 := by rw [putAt_length (by rw [hsl, p7]; omega)]; exact p7
        refine Does.congr (m' := wwrite (b : Int) (putAt L r seg) ⇝ fun _ => wwr ask n off d f (done + k) h') ?_ fun st => by
          unfold wwrK; dsimp only; rw [hr', hseg]
        refine (Does.write p3 hpl).bind fun _ a'' e => ?_
        rw [e]
        obtain ⟨T2, hb⟩ := T1.writePage hq256 p2 p3 hpl
        refine ih (done + k) _ h' (by omega) (by omega) ⟨⟨own', N', T2⟩, ⟨p5.1.trans T.same.1, p5.2.1.trans T.same.2.1, p5.2.2.trans T.same.2.2⟩, fun p hp => ?_, fun i hi => ?_, fun h9 => ?_⟩ (fun _ => by right; omega)
        · show byt (upV a'.V b (putAt L r seg)) h' p = _
          rw [hb p hp]
          by_cases e : p / 480 = q
          · rw [if_pos e, putAt_getD (by rw [hsl, p7]; omega), hsl]
            by_cases e2 : r ≤ p % 480 ∧ p % 480 < r + k
            · rw [if_pos e2, if_pos (by omega), ← hseg]
              simp only [List.getD]
              rw [List.getElem?_take, if_pos (by omega), List.getElem?_drop, show done + (p % 480 - r) = p - off by omega]
            · have hw : (k == 480) = false := by
                cases hk9 : (k == 480) with
                | false => rfl
                | true =>
                  have : k = 480 := by simpa using hk9
                  omega
              rw [if_neg e2, p8 hw _ (by omega), show 480 * q + p % 480 = p by omega, T.byts p hp]
              by_cases e3 : off ≤ p ∧ p < off + done
              · rw [if_pos e3, if_pos (by omega)]
              · rw [if_neg e3, if_neg (by omega)]
          · rw [if_neg e, byt_page (p4 _ e), hV, T.byts p hp]
            by_cases e3 : off ≤ p ∧ p < off + done
            · rw [if_pos e3, if_pos (by omega)]
            · rw [if_neg e3, if_neg (by omega)]
        · by_cases e : i = q
          · subst e
            rw [prOf_iff.2 ⟨hi, by omega⟩]
            have : touched off (done + k) i = true := touched_iff.2 ⟨by omega, by omega, by omega⟩
            rw [this, Bool.or_true]
          · have e1 : prOf h' i = prOf h i := by unfold prOf; rw [p4 i e]
            rw [e1, T.prs i hi]
            congr 1
            cases h9 : touched off done i with
            | true =>
              obtain ⟨h1, h2, h3⟩ := touched_iff.1 h9
              exact (touched_iff.2 ⟨by omega, by omega, h3⟩).symm
            | false =>
              cases h10 : touched off (done + k) i with
              | false => rfl
              | true =>
                obtain ⟨h1, h2, h3⟩ := touched_iff.1 h10
                have : touched off done i = true := touched_iff.2 ⟨by omega, by omega, h3⟩
                rw [this] at h9; cases h9
        · rcases p6 h9 with h10 | h10
          · rcases T.rw h10 with h11 | ⟨i, i1, i2, i3⟩
            · exact .inl h11
            · obtain ⟨h1, h2, h3⟩ := touched_iff.1 i3
              exact .inr ⟨i, i1, i2, touched_iff.2 ⟨by omega, by omega, h3⟩⟩
          · exact .inr ⟨q, h10, hq256, touched_iff.2 ⟨by omega, by omega, by omega⟩⟩
    · obtain rfl : done = d.length := by omega
      refine Does.congr (m' := WM.pure h) (Does.pure T) fun st => if_neg hlt
theorem upO_self {A : Nat → Option AF} (hf : A id = some f) : upO A id (some f) = A := by
  funext b
  by_cases e : b = id
  · subst e; rw [upO_same, hf]
  · exact upO_other _ _ e
theorem AF.wr_nil (f : AF) (off : Nat) {d : List UInt8} (hd : d.length = 0) : f.wr off d = f := by
  obtain ⟨kd, lk, sz, dat, pr⟩ := f
  unfold AF.wr
  rw [if_pos hd, hd]
  congr 1
  · funext p; rw [if_neg (by omega)]
  · funext i
    have : touched off 0 i = false := by unfold touched; simp
    rw [this, Bool.or_false]
theorem Does.writeAt (hr : Rdr ask n V0 I) (hn : n ≤ 3840) (hh : Has n a A k) (hf : A id = some f) (off : Nat) (d : List UInt8) (hd : d.length ≤ 4096) (hm : off + d.length ≤ 122880) :
    Does n V0 I (wwriteAt ask n (id : Int) (off : Int) d) a (fun _ a' => Has n a' (upO A id (some (f.wr off d))) (k + needP f.pr - needP (f.wr off d).pr) ∧ needP (f.wr off d).pr ≤ k + needP f.pr) (fun c => c = 7 ∧ k + needP f.pr < needP (f.wr off d).pr) := by
  have hh0 := hh
  obtain ⟨own, N, S, hk, hA⟩ := hh
  obtain ⟨h, hN, rfl⟩ := Has.at hA hf
  obtain ⟨i0, i1, ho⟩ := S.lay.ok _ _ hN
  obtain ⟨hfin, hs, ht⟩ := S.rest id h (by omega) hN
  have z0 := ho.sz0
  have z1 := ho.sz1
  refine (Does.load hr hn S hN).bind fun x a' e => ?_
  obtain ⟨rfl, rfl⟩ := e
  by_cases hd0 : d.length = 0
  · rw [AF.wr_nil _ _ hd0]
    refine Does.congr (m' := WM.pure ()) (Does.pure ⟨?_, by omega⟩) fun st => (if_pos ⟨by omega, hd, by omega⟩).trans (if_pos hd0)
    rw [upO_self hf, Nat.add_sub_cancel]; exact hh0
  · refine Does.congr (m' := wwr ask n off d d.length 0 x ⇝ wwrE off d) ?_ fun st => by
      refine ((if_pos ⟨by omega, hd, by omega⟩).trans (if_neg hd0)).trans ?_
      rw [Int.toNat_natCast]
    have hnd : needP (afOf a'.V x).pr = x.nds := (ho.nds hfin).symm
    have W0 : WrI n a' N id (frN own n + x.nds) x off d 0 a' x := ⟨⟨own, N, NodeSt.start S hN⟩, ⟨rfl, rfl, rfl⟩, fun p _ => by rw [if_neg (by omega)], fun i _ => by
      have : touched off 0 i = false := by unfold touched; simp
      rw [this, Bool.or_false], fun h9 => .inl h9⟩
    refine ((Does.wr hr hn hfin off d hm d.length 0 a' x (Nat.zero_le _) (by omega) W0 (fun _ => .inl rfl)).mono (fun _ _ h => h) fun c hc => ⟨hc.1, by rw [hnd, ← hk]; exact hc.2⟩).bind fun h' a'' W => ?_
    · obtain ⟨own', N', T⟩ := W.st
      obtain ⟨s1, s2, s3⟩ := W.same
      obtain ⟨z, hz⟩ : ∃ z, max h'.n.sz ((off + d.length : Nat) : Int) = z := ⟨_, rfl⟩
      show Does n V0 I (wsave (h'.setSz (max h'.n.sz ((off + d.length : Nat) : Int)))) a'' _ _
      rw [hz]
      have hz2 : z = max x.n.sz ((off + d.length : Nat) : Int) := by rw [← hz, s3]
      have ho1 := T.ok
      have ho' : (h'.setSz z).Ok n id := ⟨ho1.fit, ho1.id, ho1.kd, ho1.lk0, ho1.lk1, show 0 ≤ z by omega, show z ≤ 122880 by omega, ho1.rw0, ho1.rw1, ho1.pg, ho1.rz⟩
      have T' := T.set ho' rfl fun _ _ => rfl
      have hfin' : (h'.setSz z).Fin := by
        refine ⟨fun i hi hb => ?_, fun h9 => ?_⟩
        · have hb' : blocksOf z ≤ i := hb
          show h'.page i = 0
          rw [← prOf_false hi, W.prs i hi]
          have e1 : prOf x i = false := (prOf_false hi).2 (hfin.hi i hi (by unfold blocksOf at hb' ⊢; omega))
          have e2 : touched off d.length i = false := by
            cases h9 : touched off d.length i with
            | false => rfl
            | true =>
              obtain ⟨h1, h2, h3⟩ := touched_iff.1 h9
              unfold blocksOf at hb'; omega
          rw [e1, e2]; rfl
        · rcases W.rw h9 with h9 | ⟨i, i1, i2, i3⟩
          · obtain ⟨i, i1, i2, i3⟩ := hfin.rwp h9
            refine ⟨i, i1, i2, ?_⟩
            have : prOf h' i = true := by rw [W.prs i i2, prOf_iff.2 ⟨i2, i3⟩]; rfl
            exact (prOf_iff.1 this).2
          · refine ⟨i, i1, i2, ?_⟩
            have : prOf h' i = true := by rw [W.prs i i2, i3, Bool.or_true]
            exact (prOf_iff.1 this).2
      have hby : ∀ p, p < 122880 → byt a''.V (h'.setSz z) p = ((afOf a'.V x).wr off d).dat p := fun p hp => by
        show byt a''.V h' p = if off ≤ p ∧ p < off + d.length then d.getD (p - off) 0 else if p < 122880 then byt a'.V x p else 0
        rw [W.byts p hp, if_pos hp]
      refine (Does.saveDone T' hn hfin').mono (fun _ b e => ?_) fun _ h => h
      subst e
      have := T'.done hn hfin' (fun p h1 h2 => ?_) hA ((afOf a'.V x).wr off d) s1 s2 ?_ hby (fun p hp => ?_) (fun i hi => W.prs i hi) fun i hi => ?_
      · rw [← hk, hnd]
        refine ⟨this, ?_⟩
        have h1 := T'.cons
        have h2 := ho'.nds hfin'
        have h3 : needP ((afOf a'.V x).wr off d).pr = needP (prOf (h'.setSz z)) := needP_congr fun i hi => (W.prs i hi).symm
        omega
      · have h2' : z ≤ p := h2
        rw [hby p h1]
        show (if off ≤ p ∧ p < off + d.length then d.getD (p - off) 0 else if p < 122880 then byt a'.V x p else 0) = 0
        rw [if_neg (by omega), if_pos h1]
        exact ht p h1 (by omega)
      · show z = (((if d.length = 0 then x.n.sz.toNat else max x.n.sz.toNat (off + d.length)) : Nat) : Int)
        rw [if_neg hd0]; omega
      · show (if off ≤ p ∧ p < off + d.length then d.getD (p - off) 0 else if p < 122880 then byt a'.V x p else 0) = 0
        rw [if_neg (by omega), if_neg (by omega)]
      · show (prOf x i || touched off d.length i) = false
        have e1 : prOf x i = false := by unfold prOf; simp; omega
        have e2 : touched off d.length i = false := by
          cases h9 : touched off d.length i with
          | false => rfl
          | true =>
            obtain ⟨h1, h2, h3⟩ := touched_iff.1 h9
            omega
        rw [e1, e2]; rfl
end
end Go.SL

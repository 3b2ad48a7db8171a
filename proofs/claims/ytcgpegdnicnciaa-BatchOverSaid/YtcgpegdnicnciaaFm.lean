/- Contracts of several batches over one pool. -/
import Derived.Test.YtcgpegdnicnciaaFk
import Derived.Test.YtcgpegdnicnciaaPu
namespace Go.Proofs.Ytcgpegdnicnciaa
set_option linter.unusedVariables false
set_option linter.unusedSimpArgs false
open Go.RowKit Go.SL
section
variable {w w0 : World} {S : Hp} {b f : Nat} {rd rd' : Value} {err err' : Int} {W D W' D' : CB} {F : Hp → Assn} {G : Assn}
def PutsM (b : Nat) (rd : Value) (data : Int) (len : Nat) (zs : List Int) (W D : CB) (F : Hp → Assn) (w0 w : World) (e : Ending) (w' : World) : Prop :=
  ∃ S', e = .returned (.tuple #[]) ∧ Sat w' (batchA 54 5 S' b rd 0 (putsW data len zs W) D * (pool S' * (F S' * whole w0))) ∧ Side w w'
theorem puts_m (data : Int) (hd0 : 0 ≤ data) (hd1 : data ≤ 1000) {a : Option Addr} {len cap : Nat} {zs : List Int} (hz : IsInts w0 a len cap zs) (hm : Mono F)
    (h : Sat w (batchA 54 5 S b rd 0 W D * (pool S * (F S * whole w0)))) :
    Calls Try.prog 15 #[.pointer (some ⟨b, 0, none⟩), .slice a len cap, .int .i64 data] w (PutsM b rd data len zs W D F w0 w) :=
  (puts_any w w0 S b rd data hd0 hd1 a len cap zs hz W D (F S) h).mono fun e w' ⟨S', hE, he, hs, hd⟩ => ⟨S', he, hs.grow hm hE, hd⟩
def ForkM (b : Nat) (rd : Value) (err : Int) (W D : CB) (F : Hp → Assn) (G : Assn) (w : World) (e : Ending) (w' : World) : Prop :=
  ∃ S' f, e = .returned (.pointer (some ⟨f, 0, none⟩)) ∧ Sat w' (batchA 54 5 S' f rd err W D * (batchA 54 5 S' b rd err W D * (pool S' * (F S' * G)))) ∧ Side w w'
theorem fork_m (hm : Mono F) (hrd : ∃ T v, rd = .iface T v) (h : Sat w (batchA 54 5 S b rd err W D * (pool S * (F S * G)))) :
    Calls Try.prog 16 #[.pointer (some ⟨b, 0, none⟩)] w (ForkM b rd err W D F G w) :=
  (fork_any w S b rd err W D (F S * G) h hrd).mono fun e w' ⟨S', f, hE, he, hs, hd⟩ => ⟨S', f, he, (Sat.grow hm (hs.to (star_assoc _ _ _).symm) hE).to (star_assoc _ _ _), hd⟩
def ListM (b : Nat) (rd : Value) (err : Int) (W D : CB) (F : Hp → Assn) (G : Assn) (w : World) (e : Ending) (w' : World) : Prop :=
  ∃ S' v, e = .returned v ∧ Sat w' (writesA 61 5 S' v (asc W) * (batchA 54 5 S' b rd err W D * (pool S' * (F S' * G)))) ∧ Side w w'
theorem list_m (hm : Mono F) (hW : W.length ≤ 1000000) (h : Sat w (batchA 54 5 S b rd err W D * (pool S * (F S * G)))) :
    Calls Try.prog 18 #[.pointer (some ⟨b, 0, none⟩)] w (ListM b rd err W D F G w) :=
  (list_any w S b rd err W D (F S * G) hW h).mono fun e w' ⟨S', v, hE, he, hs, hd⟩ => ⟨S', v, he, (Sat.grow hm (hs.to (star_assoc _ _ _).symm) hE).to (star_assoc _ _ _), hd⟩
def JoinM (b f : Nat) (rd : Value) (err : Int) (W D : CB) (F : Hp → Assn) (G : Assn) (w : World) (e : Ending) (w' : World) : Prop :=
  ∃ S', e = .returned (.tuple #[]) ∧ Sat w' (batchA 54 5 S' b rd err W D * (batchA 54 5 S' f rd err W D * (pool S' * (F S' * G)))) ∧ Side w w'
theorem join_m (hm : Mono F) (hrd : ∃ T v, rd = .iface T v) (h : Sat w (batchA 54 5 S b rd' err' W' D' * (batchA 54 5 S f rd err W D * (pool S * (F S * G))))) :
    Calls Try.prog 19 #[.pointer (some ⟨b, 0, none⟩), .pointer (some ⟨f, 0, none⟩)] w (JoinM b f rd err W D F G w) :=
  (join_any w S b f rd rd' err err' W D W' D' (F S * G) h hrd).mono fun e w' ⟨S', hE, he, hs, hd⟩ => ⟨S', he, (Sat.grow hm (hs.to (star_assoc _ _ _).symm) hE).to (star_assoc _ _ _), hd⟩
end
end Go.Proofs.Ytcgpegdnicnciaa

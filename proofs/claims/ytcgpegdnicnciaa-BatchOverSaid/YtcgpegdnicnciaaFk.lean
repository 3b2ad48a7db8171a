/- Several batches over one pool: frames that abide the pool's growth. -/
import Derived.Test.YtcgpegdnicnciaaLi
namespace Go.SL
set_option linter.unusedVariables false
set_option linter.unusedSimpArgs false
/-- It abides the pool's growth. -/
def Mono (F : Hp → Assn) : Prop := ∀ S S', Ext S S' → ∀ h, F S h → F S' h
theorem Mono.const (P : Assn) : Mono fun _ => P := fun _ _ _ _ h => h
theorem Mono.star {F G : Hp → Assn} (hF : Mono F) (hG : Mono G) : Mono fun S => F S * G S :=
  fun S S' e h ⟨h1, h2, p, q, d, j⟩ => ⟨h1, h2, hF S S' e _ p, hG S S' e _ q, d, j⟩
theorem Mono.batch (TB T : TypeId) (b : Nat) (rd : Value) (err : Int) (W D : CB) : Mono fun S => batchA TB T S b rd err W D := fun _ _ e h p => batchA_mono e h p
theorem Mono.writes (TW T : TypeId) (v : Value) (L : CB) : Mono fun S => writesA TW T S v L := by
  rintro S S' e h ⟨Z, h1, h2, ⟨⟨p1, p2⟩, p3⟩, q, d, j⟩
  exact ⟨Z, h1, h2, ⟨⟨p1, fun z hz => (p2 z hz).mono e⟩, p3⟩, q, d, j⟩
/-- What lies besides goes over to the greater pool. -/
theorem Sat.grow {w : World} {S S' : Hp} {F : Hp → Assn} {P G : Assn} (hm : Mono F) (h : Sat w (P * (pool S' * (F S * G)))) (e : Ext S S') : Sat w (P * (pool S' * (F S' * G))) := by
  have h1 : Sat w (F S * (P * (pool S' * G))) := h.to (by ac_rfl)
  exact (h1.weak (hm S S' e)).to (by ac_rfl)
end Go.SL

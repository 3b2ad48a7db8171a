/- Steps. -/
import Derived.Test.YtebfaobobccikaaGreatDoorSP48
set_option linter.all false
set_option maxRecDepth 99999
set_option maxHeartbeats 0
open Go.SL
open UInt8 renaming toNat_ofNat'->D0
namespace Go.SL
open RowKit
variable {v:Nat}
def lU (u:Nat):List UInt8:=[UInt8.ofNat u]
def pU (u:Nat):List UInt8:=[47,UInt8.ofNat u]
theorem Ae {j k:Nat} (b:j<256) (c:k<256) (h:lU j=lU k):j=k:=by
 unfold lU at h;simp only [List.cons.injEq,and_true] at h;have a:=congrArg UInt8.toNat h;simp only [D0] at a;omega
theorem Nk {z:Int} (b:v<256) (a:z=(v:Int)):(#[.int .u8 z]:Array Value)=eA (lU v):=by
 unfold eA lU u8;simp only [List.map_cons,List.map_nil,D0];rw [show v%2 ^ 8=v by omega,a]
theorem zE:(⟨#[47]⟩:ByteArray)++str (lU v)=str (pU v):=F8 [47] (lU v)
theorem uO:¬ 9223372036854775807<1+(str (lU v)).size:=by show ¬ 9223372036854775807<1+1;decide
end Go.SL
namespace Go.Proofs.Cl
open RowKit SL Proofs.Nn Proofs.Ba Proofs.Su Proofs.Fs
theorem uJ {w:World} {F:ai} {v:Nat} {z:Int} (a:v<256) (b:z=(v:Int)) (h:ag w F) :
  (convert 22 9 (.slice (some ⟨w.heap.size,0,none⟩) 1 1)).run Tryz.prog (w.alloc (.cells #[.int .u8 z] 5 (0,0))) = .ok (.string (str (lU v))) (w.alloc (.cells #[.int .u8 z] 5 (0,0))):=by
 rw [Nk a b];exact jz _ _ _ (uR (h.alloc (.cells (eA (lU v)) 5 (0,0))).heap)
end Go.Proofs.Cl

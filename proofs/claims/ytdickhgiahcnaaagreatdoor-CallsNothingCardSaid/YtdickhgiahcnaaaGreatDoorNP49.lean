/- Steps. -/
import Derived.Test.YtdickhgiahcnaaaGreatDoorNP48
import Derived.Test.YtdickhgiahcnaaaGreatDoorNP20
set_option linter.all false
set_option maxRecDepth 99999
set_option maxHeartbeats 0
open Go.SL
namespace Go.Proofs.Cl
open RowKit SL Proofs.Nn Proofs.Ba Proofs.Su Proofs.Fs
variable {w:World} {a:Option Addr} {cap len:Nat} {l:List UInt8}
def TU (h:Su.uA w a len cap l):l.length=len/\len<=cap/\cap<=9223372036854775807:=by
 rcases h with ⟨rfl,rfl,rfl,rfl⟩|⟨x,rfl,b,c,d,h4⟩
 .exact ⟨rfl,Om0,Om0⟩
 .exact ⟨d,b,by simpa [maxLen] using c⟩
def Uk (h:Su.uA w a len cap l):Rd w (.slice a len cap) l:=by
 rcases h with ⟨rfl,rfl,rfl,rfl⟩|⟨x,rfl,c,d,b,h4⟩
 .exact ⟨rfl,.inl ⟨rfl,rfl⟩⟩
 .exact ⟨Si0,.inr ⟨x,cap,by rw [b],h4⟩⟩
end Go.Proofs.Cl

/- Steps. -/
import Derived.Test.YtacliaemfegopaaGreatDoorOP20
import Derived.Deep.Slices
import Derived.Deep.Fields
import Derived.ChangeSame
import Derived.ProofKit
import Derived.ChangeOld
import Derived.Below
set_option linter.all false
set_option maxRecDepth 99999
set_option maxHeartbeats 0
open Go.SL
namespace Go.Proofs.Nn
open Go.RowKit Go.SL Go.ChangeShapes Go.WideShapes Go.ChangeAt
section
variable {H:Type} {enc:TypeId × Value->H} {w:World}
theorem Nf {fuel:Nat} {cs:List Value} {x:DataW H × List MemPlace} (hf:DataW.trod enc Tryz.prog w 0 (fun _=>true) true fuel 22 cs=some x):∃ a len cap zs,cs=[.slice a len cap]/\rZ w a len cap zs:=by
 rcases open_ints Tryz.underlying22 Tryz.underlying3 (by kernel_rfl) hf with ⟨hcs,_⟩|⟨x,l,c,zs,hcs,_,hl,hm,hz,_,hcell,hwz⟩
 .exact ⟨none,0,0,[],hcs,.inl ⟨rfl,rfl,rfl,rfl⟩⟩
 .exact ⟨some x,l,c,zs,hcs,.inr ⟨_,rfl,hl,hm,by simpa using hz,hcell,hwz⟩⟩
theorem Pa {d:Nat} {a:Option Addr} {c b:Nat} {x:DataW H × List MemPlace} (e:DataW.trod enc Tryz.prog w 0 (fun _=>true) true d 22 [.slice a c b]=some x):∃ zs,rZ w a c b zs:=by
 obtain ⟨g,j,i,zs,h,f⟩:=Nf e;simp at h;obtain ⟨rfl,rfl,rfl⟩:=h;exact ⟨zs,f⟩
end
end Go.Proofs.Nn

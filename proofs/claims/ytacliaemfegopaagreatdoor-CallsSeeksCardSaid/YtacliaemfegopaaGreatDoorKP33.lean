/- Steps. -/
import Derived.Test.YtacliaemfegopaaGreatDoorKP20
import Derived.Deep.Slices
import Derived.Deep.Fields
import Derived.ChangeSame
import Derived.ProofKit
import Derived.ChangeOld
import Derived.Below
set_option linter.unusedVariables false
set_option linter.unusedSimpArgs false
set_option maxRecDepth 100000
set_option maxHeartbeats 40000000
open Go.Proofs Go.SL
namespace Go.Nn
open Go.RowKit Go.SL Go.ChangeShapes Go.WideShapes Go.ChangeAt
section
variable {H:Type} {enc:TypeId × Value→H} {w:World}
theorem I6 {fuel:Nat} {cs:List Value} {x:DataW H × List MemPlace} (hf:DataW.trod enc Tryz.prog w 0 (fun _=>true) true fuel 22 cs=some x):∃ a len cap zs,cs=[.slice a len cap]∧j3 w a len cap zs:=by
 rcases open_ints Tryz.underlying22 Tryz.underlying3 (by kernel_rfl) hf with ⟨hcs,_⟩|⟨x,l,c,zs,hcs,_,hl,hm,hz,_,hcell,hwz⟩
 ·exact ⟨none,0,0,[],hcs,.inl ⟨rfl,rfl,rfl,rfl⟩⟩
 ·exact ⟨some x,l,c,zs,hcs,.inr ⟨_,rfl,hl,hm,by simpa using hz,hcell,hwz⟩⟩
theorem KS {fuel:Nat} {a:Option Addr} {len cap:Nat} {x:DataW H × List MemPlace} (hf:DataW.trod enc Tryz.prog w 0 (fun _=>true) true fuel 22 [.slice a len cap]=some x):∃ zs,j3 w a len cap zs:=by
 obtain ⟨a',l',c',zs,h,hz⟩:=I6 hf;simp at h;obtain ⟨rfl,rfl,rfl⟩:=h;exact ⟨zs,hz⟩
theorem KU {fuel:Nat} {a:Option Addr} {len cap:Nat} {x:DataW H × List MemPlace} (hf:DataW.trod enc Tryz.prog w 0 (fun _=>true) true fuel 35 [.slice a len cap]=some x):∃ zs,j3 w a len cap zs:=by
 rcases open_ints Tryz.underlying35 Tryz.underlying2 (by kernel_rfl) hf with ⟨hcs,_⟩|⟨x,l,c,zs,hcs,_,hl,hm,hz,_,hcell,hwz⟩
 ·simp at hcs;obtain ⟨rfl,rfl,rfl⟩:=hcs
  exact ⟨[],.inl ⟨rfl,rfl,rfl,rfl⟩⟩
 ·simp at hcs;obtain ⟨rfl,rfl,rfl⟩:=hcs
  exact ⟨zs,.inr ⟨_,rfl,hl,hm,by simpa using hz,hcell,hwz⟩⟩
end
end Go.Nn

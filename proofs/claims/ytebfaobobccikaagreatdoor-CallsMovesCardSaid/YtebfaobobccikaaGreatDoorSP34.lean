/- Steps. -/
import Derived.Test.YtebfaobobccikaaGreatDoorRows
import Derived.Deep.Slices
import Derived.ChangeSame
import Derived.ProofKit
import Derived.ChangeOld
import Derived.Below
import Derived.ChangeArms
set_option linter.all false
set_option maxRecDepth 99999
set_option maxHeartbeats 0
namespace Go.SL
end Go.SL
open Go.SL
namespace Go.Proofs.Nn
open RowKit ChangeShapes WideShapes ChangeAt
variable {a:Option Addr} {cap i len:Nat}
def sw (w:World) (a:Option Addr) (b d:Nat) (tr:Nat->Bool):Prop:=
 b=0\/∃ c,a=some c/\b<=d/\d<=maxLen/\∀ i,i<b->w.cell? (c.add i)=some (.bool (tr i))
theorem sw.cell {w:World} {tr:Nat->Bool} (h:sw w a len cap tr) (e:i<len) :
  ∃ b off,a=some ⟨b,off,none⟩/\w.cell? ⟨b,off+i,none⟩=some (.bool (tr i))/\len<=cap/\cap<=9223372036854775807:=by
 rcases h with rfl|⟨x,rfl,g,j,d⟩
 .exact absurd e (Nat.not_lt_zero _)
 .have c:=d i e
  obtain ⟨b,off,k⟩:=x;have f:=d 0 (by omega);have:k=none:=by simpa [Addr.add] using World.cell?_spot f
  subst this;exact ⟨b,off,rfl,by rw [Addr.add_lit] at c;exact c,g,by simpa [maxLen] using j⟩
section
variable {H:Type} {enc:TypeId × Value->H} {w:World}
theorem KA {x:DataW H × List MemPlace} (r:DataW.trod enc Tryz.prog w 0 (fun _=>true) true len 30 [.slice a cap i]=some x):∃ tr,sw w a cap i tr:=by
 rcases Go.Deep.open_slice1 Tryz.underlying30 (by kernel_rfl) r with ⟨f,_⟩|⟨j,l,c,m,n,V,D,Pl,f,_,s,t,u,_,g⟩
 .simp at f
  obtain ⟨rfl,rfl,rfl⟩:=f;exact ⟨fun _=>false,.inl rfl⟩
 .simp at f
  obtain ⟨rfl,rfl,rfl⟩:=f;simp only [if_true] at u
  have k:∀ d,∃ b,d<cap->w.cell? (j.add d)=some (.bool b):=fun d=>by
   by_cases h:d<cap
   .obtain ⟨p,q⟩:=g d (by omega)
    obtain ⟨b,e,_⟩:=DataW.trod_bool Tryz.underlying4 q;simp at e;exact ⟨b,fun _=>by rw [p,e]⟩
   .exact ⟨false,fun o=>absurd o h⟩
  exact ⟨fun d=>(k d).choose,.inr ⟨j,rfl,s,t,fun d g=>(k d).choose_spec g⟩⟩
end
end Go.Proofs.Nn

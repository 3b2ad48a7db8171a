/- Steps. -/
import Derived.Test.YtebfaobobccikaaGreatDoorSP48
import Derived.Test.YtebfaobobccikaaGreatDoorSP20
set_option linter.all false
set_option maxRecDepth 99999
set_option maxHeartbeats 0
open Go.SL
namespace Go.Proofs.Cl
open RowKit SL Proofs.Nn Proofs.Ba Proofs.Su Proofs.Fs
variable {w:World} {a:Option Addr} {cap len m:Nat} {l:List UInt8}
theorem Ap (h:Su.gV w a len cap l):l.length=len/\len<=cap/\cap<=9223372036854775807:=by
 rcases h with ⟨rfl,rfl,rfl,rfl⟩|⟨x,rfl,b,c,d,e⟩
 .exact ⟨rfl,by omega,by omega⟩
 .exact ⟨d,b,by simpa [maxLen] using c⟩
theorem AM (h:Su.gV w a len cap l) (g:m<=len):Su.gV w a m cap (l.take m):=by
 rcases h with ⟨rfl,rfl,rfl,rfl⟩|⟨x,rfl,e,c,f,d⟩
 .exact .inl ⟨rfl,by omega,rfl,by simp⟩
 .refine .inr ⟨x,rfl,by omega,c,by rw [List.length_take];omega,fun j u b=>d j u ?_⟩
  rw [List.map_take,List.getElem?_take] at b
  split at b
  .exact b
  .cases b
theorem yW (h:Su.gV w a len cap l):Rd w (.slice a len cap) l:=by
 rcases h with ⟨rfl,rfl,rfl,rfl⟩|⟨x,rfl,d,e,b,c⟩
 .exact ⟨rfl,.inl ⟨rfl,rfl⟩⟩
 .exact ⟨by simp,.inr ⟨x,cap,by rw [b],c⟩⟩
theorem Rl {t:Pl} {q:Dk t.n} {m k B b a at' a2:Nat} {T:Tr} {O:jT} {F:ai} {w c:World} {e:Ending} {fd o wh:Int} (j:RF t q m T k B O fd b a at' o wh F w e c) (i:gJ a at' o wh=0) (h:eG a at' o wh=(a2:Int)) :
  e = .returned (.tuple #[.int .i64 (a2:Int),.int .i64 0])/\aj w c/\ag c (fu t q m T k B (eu O fd (b,a2))*F):=by
 obtain ⟨d,⟨g,_⟩|⟨_,rfl,f⟩⟩:=j
 .exact absurd i g
 .rw [h] at f ⊢;exact ⟨rfl,d,f⟩
end Go.Proofs.Cl

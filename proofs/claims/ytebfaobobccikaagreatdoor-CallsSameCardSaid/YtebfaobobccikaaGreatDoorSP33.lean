/- Steps. -/
import Derived.Test.YtebfaobobccikaaGreatDoorSP27
set_option linter.all false
set_option maxRecDepth 99999
set_option maxHeartbeats 0
open Go.SL
open List renaming getElem_map->D0,findIdx?_eq_none_iff->F0,findIdx?_eq_some_iff_getElem->G0,getElem?_eq_getElem->H0
namespace Go.SL
open RowKit
variable {L:List aN} {i:Nat} {nm:List UInt8}
theorem y0 {b:Type} (z:b):∀ (L:List b) (i:Nat),i<L.length->(L.set i z).Perm (z :: L.eraseIdx i)
 | [],i,h=>absurd h (Nat.not_lt_zero _)
 | a :: L,0,_=>List.Perm.refl _
 | a :: L,i+1,h=>by
  have:=y0 z L i (by simpa using h);exact (this.cons a).trans (List.Perm.swap z a _)
theorem Ms (a:i<L.length):(jN L i).Perm (L.eraseIdx i):=by
 obtain ⟨M,z,rfl⟩:∃ M z,L=M++[z]:=by
  rcases List.eq_nil_or_concat L with rfl|⟨M,z,h⟩
  .simp at a
  .exact ⟨M,z,by rw [h,List.concat_eq_append]⟩
 have b:(M++[z]).length-1=M.length:=by simp
 unfold jN;rw [b,show (M++[z]).getD M.length aN.no=z by simp [List.getD]];rw [List.length_append,List.length_singleton] at a
 by_cases h:i=M.length
 .subst h
  rw [List.set_append_right _ _ (Nat.le_refl _),Nat.sub_self,List.set_cons_zero,List.take_left',List.eraseIdx_append_of_length_le (Nat.le_refl _)]
  .simp
  .rfl
 .rw [List.set_append_left _ _ (by omega),List.take_left' (by rw [List.length_set]),List.eraseIdx_append_of_lt_length (by omega)]
  exact (y0 z M i (by omega)).trans (List.perm_append_singleton z _).symm
theorem R3 {e:aN} (k:(L.map aN.nm).Nodup) (d:e ∈ L):∃ i,gn L e.nm=some i/\L[i]?=some e:=by
 cases a:gn L e.nm with
 | none=>
  unfold gn at a;rw [F0] at a;exact absurd (a e d) (by simp)
 | some i=>
  refine ⟨i,rfl,?_⟩;unfold gn at a;rw [G0] at a;obtain ⟨b,g,-⟩:=a;obtain ⟨j,f,rfl⟩:=List.getElem_of_mem d;have c:L[i].nm=L[j].nm:=by simpa using g
  have:i=j:=by
   have:=(List.nodup_iff_pairwise_ne.1 k)
   rw [List.pairwise_iff_getElem] at this;rcases Nat.lt_trichotomy i j with h|h|h
   .exact absurd (by rw [D0,D0];exact c) (this i j (by simpa using b) (by simpa using f) h)
   .exact h
   .exact absurd (by rw [D0,D0];exact c.symm) (this j i (by simpa using f) (by simpa using b) h)
  subst this;rw [H0 b]
theorem FL (h:∀ e ∈ L,e.nm≠nm):gn L nm=none:=by
 unfold gn;rw [F0];exact fun e a=>decide_eq_false (h e a)
theorem Pf (h:gn L nm=some i):∃ e,L[i]?=some e/\e.nm=nm:=by
 unfold gn at h;rw [G0] at h;obtain ⟨a,b,-⟩:=h;exact ⟨L[i],H0 a,by simpa using b⟩
end Go.SL

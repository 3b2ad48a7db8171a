/- Steps. -/
import Derived.Test.YtebfaobobccikaaGreatDoorSP48
set_option linter.all false
set_option maxRecDepth 99999
set_option maxHeartbeats 0
open Go.SL
namespace Go.SL
open RowKit Proofs.Nn Proofs.Ba Proofs.Cl
section
variable {T T':Tr} {b k k' n o m lo hi:Nat} {nm l:List UInt8} {f:AF} {c z:Int}
theorem GB (lo hi:Nat):∀ n,((List.range n).countP fun i=>decide (lo<=i) && decide (i<=hi))=min n (hi+1)-lo
 | 0=>by simp
 | n+1=>by
  rw [List.range_succ,List.countP_append,GB lo hi n,List.countP_singleton]
  by_cases h:lo<=n/\n<=hi
  .rw [if_pos (by simp [h.1,h.2])];omega
  .rw [if_neg (by simpa using h)];omega
theorem Qq (a:0<l.length):((fh 1).wr o l).pr=fun i=>decide (o/480<=i) && decide (i<=(o+l.length-1)/480):=by
 funext i;show (false || cK o l.length i)=_
 rw [Bool.false_or,Bool.eq_iff_iff,cJ,Bool.and_eq_true,decide_eq_true_iff,decide_eq_true_iff];omega
theorem yK (a:0<l.length) (p:o+l.length<=122880):bh ((fh 1).wr o l).pr=1+((o+l.length-1)/480+1-o/480)+if 16<=(o+l.length-1)/480 then 1 else 0:=by
 rw [Qq a];unfold bh jC;rw [GB,show min 256 ((o+l.length-1)/480+1)=(o+l.length-1)/480+1 by omega];congr 1
 by_cases h:16<=(o+l.length-1)/480
 .rw [if_pos h,if_pos (fI.2 ⟨(o+l.length-1)/480,h,by omega,by simp;omega⟩)]
 .rw [if_neg h,if_neg (fun d=>by
   obtain ⟨i,g,j,e⟩:=fI.1 d;simp at e;omega)]
theorem SJ (a:0<l.length) (i:l.length<=2000) (j:o<=120000) (g:8<=k):fX k o (fh 1) l=0:=by
 unfold fX;have d:=yK (l:=l) (o:=o) a (by omega);have e:bh ((fh 1).wr o l).pr<=8:=by rw [d];split <;> omega
 rw [if_neg (by omega),if_neg (by omega),if_neg (fun h=>by rw [h] at a;cases a),if_neg (by omega)]
theorem RY (h:One n T b nm f) (a:0<l.length) (p:fW T k b o f l c T' k') (j:c=0):One n T' b nm (f.wr o l)/\k'=k+bh f.pr-bh (f.wr o l).pr:=by
 obtain ⟨-,i⟩:=p;rcases i j with ⟨e,_⟩|⟨_,d,g⟩
 .rw [e] at a;cases a
 .rw [d]
  exact ⟨⟨h.b1,(aE _ _ (Ne.symm h.b1)).trans h.root,aW _ _ _⟩,g⟩
theorem Gy (h:One n T b nm f) (g:KQ T k b f z c T' k') (e:c=0):One n T' b nm (f.cut z.toNat):=by
 obtain ⟨-,d⟩:=g;obtain ⟨a,-⟩:=d e;rw [a];exact ⟨h.b1,(aE _ _ (Ne.symm h.b1)).trans h.root,aW _ _ _⟩
def wg (o:Nat) (l:List UInt8) (z:Nat):AF:=(((fh 1).wr o l).cut z).cut 122880
theorem OS {p:Nat} (e:p<122880):(wg o l z.toNat).pR p=if o<=p/\p<o+l.length/\p<z.toNat then l.getD (p-o) 0 else 0:=by
 show (if p<122880 then (if p<z.toNat then (if o<=p/\p<o+l.length then l.getD (p-o) 0 else (0:UInt8)) else 0) else 0)=_
 rw [if_pos e]
 by_cases h:p<z.toNat
 .rw [if_pos h]
  by_cases a:o<=p/\p<o+l.length
  .rw [if_pos a,if_pos ⟨a.1,a.2,h⟩]
  .rw [if_neg a,if_neg fun d=>a ⟨d.1,d.2.1⟩]
 .rw [if_neg h,if_neg fun d=>h d.2.2]
theorem LR {a:Nat}:((wg o l z.toNat).sub a 1000).length=min 1000 (122880-a)/\∀ j,j<min 1000 (122880-a)->((wg o l z.toNat).sub a 1000)[j]?=some (if o<=a+j/\a+j<o+l.length/\a+j<z.toNat then l.getD (a+j-o) 0 else 0):=by
 have d:(wg o l z.toNat).sub a 1000=(List.range (min 1000 (122880-a))).map fun j=>(wg o l z.toNat).pR (a+j):=rfl;refine ⟨by rw [d];simp,fun j e=>?_⟩;rw [d,List.getElem?_map,List.getElem?_range e,Option.map_some,OS (by omega)]
theorem LY {p:List UInt8} (d:aU p=some [nm]) (h:One n T b nm f) {a:Nat}:fw T p a 1000=0/\jM T p a 1000=f.sub a 1000:=by
 unfold fw jM;rw [if_pos ⟨by omega,by decide,by decide⟩,nJ d h];dsimp only;rw [if_neg (by simp),h.b];exact ⟨rfl,by rw [Int.toNat_natCast];rfl⟩
theorem LZ {p:List UInt8} (a:aU p=some [nm]) (h:One n T b nm f):(bG T p).1=0/\qd (T (bG T p).2)=(f.kd,f.lk,(f.sz:Int)):=by
 rw [nJ a h];dsimp only;rw [h.b];exact ⟨rfl,rfl⟩
abbrev pF:List UInt8:=[47,102]
theorem lj:aU pF=some [[102]]:=by decide
end
end Go.SL

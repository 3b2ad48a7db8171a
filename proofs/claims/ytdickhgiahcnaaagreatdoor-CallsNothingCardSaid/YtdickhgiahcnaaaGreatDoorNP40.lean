/- Steps. -/
import Derived.Test.YtdickhgiahcnaaaGreatDoorNP34
import Derived.Test.YtdickhgiahcnaaaGreatDoorNP39
set_option linter.all false
set_option maxRecDepth 99999
set_option maxHeartbeats 0
open Go.SL
namespace Go.Proofs.Cl
open RowKit SL Proofs.Nn Proofs.Ba Proofs.Su
variable {J:Jr} {D:aB}
def QI (s j d n P:Nat) (a:Hp) (x:Jr × aB):ai:=fact (x.1.Ok/\x.2.Ok)*(eN s j d n P x.1*(aR a d x.2*al a))
def qH (J:Jr) (D:aB) (id p:Int):(J.load D id p).1.2.length<=480:=by
 unfold Jr.load;simp only
 split
 .rename_i c
  cases a:cV (D.read (p%(J.P:Int)+1)).1.2 with
  | none=>simp
  | some g=>
   obtain ⟨t,b⟩:=g;simp only
   split
   .show b.length<=480
    unfold cV at a
    split at a
    .injection a with a
     injection a with h d
     have i:(D.read (p%(J.P:Int)+1)).1.2.length<=512:=by
      unfold aB.read at c ⊢
      split
      .split
       .rename_i f e
        rw [if_pos f,if_pos e] at c;exact Nat.le_of_eq (yJ _ _ c)
       .simp
      .simp
     rw [<- d,List.length_drop];omega
    .cases a
   .simp
 .simp
def rR (J:Jr) (D:aB) (a:Int):(J.read D a).1.2.length<=480:=by
 unfold Jr.read
 split
 .simp
 .split
  .simp
  .split
   .show (zs 480).length<=480
    exact Nat.le_of_eq List.length_replicate
   .exact qH J D a _
def La (h:J.Ok) (b:Bool):({ J with br:=b }:Jr).Ok:=by
 obtain ⟨a,e,a3,a4,a5,f,g,i,a9,c,d⟩:=h;exact ⟨a,e,a3,a4,a5,f,g,i,a9,c,d⟩
def NP (h:J.Ok) (a:D.Ok) (b p:Int):(J.load D b p).2.1.Ok/\(J.load D b p).2.2.Ok:=by
 refine ⟨?_,(Jr.wO J a b p).ok a (by have:=a.many;omega)⟩;unfold Jr.load;simp only
 split
 .split
  .split
   .exact h
   .exact La h true
  .exact La h true
 .exact La h true
def LO (h:J.Ok) (a:D.Ok) (b:Int):(J.read D b).2.1.Ok/\(J.read D b).2.2.Ok:=by
 unfold Jr.read
 split
 .exact ⟨h,a⟩
 .split
  .exact ⟨h,a⟩
  .split
   .exact ⟨h,a⟩
   .exact NP h a b _
end Go.Proofs.Cl

/- Steps. -/
import Derived.Test.YtacliaemfegopaaGreatDoorKP32
import Derived.Test.YtacliaemfegopaaGreatDoorKP38
set_option linter.unusedVariables false
set_option linter.unusedSimpArgs false
set_option maxRecDepth 100000
set_option maxHeartbeats 40000000
open Go.Proofs Go.SL
namespace Go.Cl
open Go.RowKit Go.SL Go.Nn Go.Ba Go.Su
def Ms (s j d n P:Nat) (Sd:Hp) (x:Jr × ay):ah:=fact (x.1.Ok∧x.2.Ok)*(ei s j d n P x.1*(aK Sd d x.2*aj Sd))
theorem oX (J:Jr) (D:ay) (id p:Int):(J.load D id p).1.2.length≤480:=by
 unfold Jr.load;simp only
 split
 ·rename_i h0
  cases hd:cK (D.read (p%(J.P:Int)+1)).1.2 with
  | none=>simp
  | some tb=>
   obtain ⟨t,b⟩:=tb;simp only
   split
   ·show b.length≤480
    unfold cK at hd
    split at hd
    ·injection hd with hd
     injection hd with h1 h2
     have hl:(D.read (p%(J.P:Int)+1)).1.2.length≤512:=by
      unfold ay.read at h0 ⊢
      split
      ·split
       ·rename_i hh hb
        rw [if_pos hh,if_pos hb] at h0;exact Nat.le_of_eq (uU _ _ h0)
       ·simp
      ·simp
     rw [← h2,List.length_drop];omega
    ·cases hd
   ·simp
 ·simp
theorem oQ (J:Jr) (D:ay) (id:Int):(J.read D id).1.2.length≤480:=by
 unfold Jr.read
 split
 ·simp
 ·split
  ·simp
  ·split
   ·show (zs 480).length≤480
    exact Nat.le_of_eq List.length_replicate
   ·exact oX J D id _
theorem JQ {J:Jr} (h:J.Ok) (b:Bool):({ J with br:=b }:Jr).Ok:=by
 obtain ⟨a1,a2,a3,a4,a5,a6,a7,a8,a9,a10,a11⟩:=h;exact ⟨a1,a2,a3,a4,a5,a6,a7,a8,a9,a10,a11⟩
theorem GZ {J:Jr} {D:ay} (h:J.Ok) (hD:D.Ok) (id p:Int):(J.load D id p).2.1.Ok∧(J.load D id p).2.2.Ok:=by
 refine ⟨?_,(Jr.tC J hD id p).ok hD (by have:=hD.many;omega)⟩;unfold Jr.load;simp only
 split
 ·split
  ·split
   ·exact h
   ·exact JQ h true
  ·exact JQ h true
 ·exact JQ h true
theorem Ib {J:Jr} {D:ay} (h:J.Ok) (hD:D.Ok) (id:Int):(J.read D id).2.1.Ok∧(J.read D id).2.2.Ok:=by
 unfold Jr.read
 split
 ·exact ⟨h,hD⟩
 ·split
  ·exact ⟨h,hD⟩
  ·split
   ·exact ⟨h,hD⟩
   ·exact GZ h hD id _
end Go.Cl

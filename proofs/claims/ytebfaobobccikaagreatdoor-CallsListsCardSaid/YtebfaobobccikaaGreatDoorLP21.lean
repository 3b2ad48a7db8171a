/- Steps. -/
import Derived.Test.YtebfaobobccikaaGreatDoorLP12
import Derived.OpenShut
import Derived.Deep.DeepCutAuto
import Derived.Deep.CutBlock
import Derived.Deep.CutRange
set_option linter.all false
set_option maxRecDepth 99999
set_option maxHeartbeats 0
open Go.SL
open List renaming replicate->D0,length_replicate->F0,getElem?_replicate->G0
namespace Go.SL
open RowKit
def bj (n:Int):List UInt8:=(List.range 480).map fun i:Nat=>UInt8.ofInt (n+(i:Int))
end Go.SL
namespace Go.Proofs.Nn
open RowKit SL
variable {P n:Nat}
def na (n:Nat):Js:=⟨1,1,0,0,0,D0 n (-1)⟩
abbrev Wo:=List (Nat × Int × List UInt8)
def Vg:Hp:=fun _=>none
theorem F5 (P n:Nat):∀ k,k<=n->s5 P (D0 n (-1)) k=Tb.fresh n P:=by
 intro k
 induction k with
 | zero=>intro _;simp [s5]
 | succ k a=>
  intro b;have:(D0 n (-1:Int)).getD k 0=-1:=by simp [List.getD,G0,show k<n by omega]
  rw [s5,this,if_neg (by decide),a (by omega)]
def J0 (P n:Nat):Jr:=Jr.JY P (na n)
theorem Ro (P n:Nat):(J0 P n).T=Tb.fresh n P:=by
 show s5 P (D0 n (-1)) (D0 n (-1:Int)).length=_
 rw [F0];exact F5 P n n (Nat.le_refl _)
theorem tC (e:1<=P) (a:1<=n) (b:n<=3840):(na n).uf P:=
 ⟨show (1:Int)<=1 by decide,show (0:Int)<=281474976710655 by decide,show (1:Int)<=1 by decide,show (1:Int)<=0+1 by decide,show (0:Int)<=0 by decide,by show (0:Int)<(P:Int);omega,show (0:Int)<=0 by decide,by show (0:Int)<=(P:Int);omega,by simpa [na] using a,by simpa [na] using b,fun k c=>.inl (by
  have d:k<n:=by simpa [na] using c
  simp [na,List.getD,G0,d])⟩
theorem IB (b:1<=P) (i:P<=19999) (d:1<=n) (e:n<=3840):fK (J0 P n) (aC.fresh (P+1)) fun _=>none:=by
 have f:=Jr.RG (tC b d e) b (by omega:P<=20000);have a:=Ro P n;refine ⟨f,?_,?_,rfl,⟨rfl,rfl⟩,?_,?_,?_,?_,?_,fun _ _=>rfl⟩
 .refine ⟨show (1:Int)<=1 by decide,show (1:Int)<4294967296 by decide,show (1:Int)<=1 by decide,show (1:Int)<=0+1 by decide,show (0:Int)<=0 by decide,show (0:Int)<=281474976710655 by decide,?_,?_⟩
  .show ((D0 n (-1:Int)).length:Int)<=3840
   rw [F0];omega
  .rw [a];exact ⟨fun v g=>.inl (List.eq_of_mem_replicate g)⟩
 .exact ⟨by simp [aC.fresh];omega,by simp [aC.fresh],by simp [aC.fresh],by simp [aC.fresh]⟩
 .show (P:Int)+1<=((D0 (P+1) ([]:List UInt8)).length:Int)
  rw [F0];omega
 .rw [a];exact Tb.IX _ _
 .show (0:Int)+0<=(P:Int);omega
 .intro p c h;rw [a,(Tb.iQ n P p).2] at h;cases h
 .intro c p h;rw [a,(Tb.iQ n P c).1] at h;cases h
theorem Cd (P n:Nat):sy (J0 P n):=by
 intro k c;have a:(J0 P n).us=0:=rfl;have b:(J0 P n).n=((D0 n (-1:Int)).length:Int):=rfl;have d:=re (J0 P n).T (J0 P n).P (Jr.tail (J0 P n)) k;rw [a] at c ⊢;rw [b,F0];omega
theorem UD (P n:Nat):(J0 P n).n=(n:Int):=by show ((D0 n (-1:Int)).length:Int)=n;rw [F0]
theorem Ra (n:Nat):(aC.fresh n).sec.length=n:=by simp [aC.fresh]
def Se (w:World) (e:Ending) (a:World):Prop:=e = .returned (.bool true)/\ag a (whole w)/\aj w a
end Go.Proofs.Nn

/- Steps. -/
import Derived.Test.YtdickhgiahcnaaaGreatDoorNP12
import Derived.OpenShut
import Derived.Deep.DeepCutAuto
import Derived.Deep.CutBlock
import Derived.Deep.CutRange
set_option linter.all false
set_option maxRecDepth 99999
set_option maxHeartbeats 0
open Go.SL
open List renaming replicate->A3,length_replicate->A2,getElem?_replicate->A1
namespace Go.SL
open RowKit
def bj (n:Int):List UInt8:=(List.range 480).map fun i:Nat=>UInt8.ofInt (n+(i:Int))
end Go.SL
namespace Go.Proofs.Nn
open RowKit SL
variable {P n:Nat}
def od (n:Nat):Js:=⟨1,1,0,0,0,A3 n (-1)⟩
abbrev Wo:=List (Nat × Int × List UInt8)
def WS:Hp:=fun _=>none
def Jc (P n:Nat):∀ k,k<=n->tP P (A3 n (-1)) k=Tb.fresh n P:=by
 intro k
 induction k with
 | zero=>intro _;simp [tP]
 | succ k a=>
  intro b;have:(A3 n (-1:Int)).getD k 0=-1:=by simp [List.getD,A1,show k<n by omega]
  rw [tP,this,if_neg De0,a Om0]
def J0 (P n:Nat):Jr:=Jr.NF P (od n)
def Sa (P n:Nat):(J0 P n).T=Tb.fresh n P:=by
 show tP P (A3 n (-1)) (A3 n (-1:Int)).length=_
 rw [A2];exact Jc P n n (Nat.le_refl _)
def tW (e:1<=P) (a:1<=n) (b:n<=3840):(od n).uP P:=
 ⟨show (1:Int)<=1 by decide,show (0:Int)<=281474976710655 by decide,show (1:Int)<=1 by decide,show (1:Int)<=0+1 by decide,show (0:Int)<=0 by decide,by show (0:Int)<(P:Int);omega,show (0:Int)<=0 by decide,by show (0:Int)<=(P:Int);omega,by simpa [od] using a,by simpa [od] using b,fun k c=>.inl (by
  have d:k<n:=by simpa [od] using c
  simp [od,List.getD,A1,d])⟩
def JJ (b:1<=P) (g:P<=19999) (d:1<=n) (e:n<=3840):fP (J0 P n) (aB.fresh (P+1)) fun _=>none:=by
 have f:=Jr.Sr (tW b d e) b (by omega:P<=20000);have a:=Sa P n;refine ⟨f,?_,?_,rfl,⟨rfl,rfl⟩,?_,?_,?_,?_,?_,fun _ _=>rfl⟩
 .refine ⟨show (1:Int)<=1 by decide,show (1:Int)<4294967296 by decide,show (1:Int)<=1 by decide,show (1:Int)<=0+1 by decide,show (0:Int)<=0 by decide,show (0:Int)<=281474976710655 by decide,?_,?_⟩
  .show ((A3 n (-1:Int)).length:Int)<=3840
   rw [A2];omega
  .rw [a];exact ⟨fun v hv=>.inl (List.eq_of_mem_replicate hv)⟩
 .exact ⟨by simp [aB.fresh];omega,by simp [aB.fresh],by simp [aB.fresh],by simp [aB.fresh]⟩
 .show (P:Int)+1<=((A3 (P+1) ([]:List UInt8)).length:Int)
  rw [A2];omega
 .rw [a];exact Tb.Iq _ _
 .show (0:Int)+0<=(P:Int);omega
 .intro p c h;rw [a,(Tb.iX n P p).2] at h;cases h
 .intro c p h;rw [a,(Tb.iX n P c).1] at h;cases h
def Cc (P n:Nat):tq (J0 P n):=by
 intro k c;have a:(J0 P n).us=0:=rfl;have b:(J0 P n).n=((A3 n (-1:Int)).length:Int):=rfl;have d:=qI (J0 P n).T (J0 P n).P (Jr.tail (J0 P n)) k;rw [a] at c ⊢;rw [b,A2];omega
def Wd (P n:Nat):(J0 P n).n=(n:Int):=by show ((A3 n (-1:Int)).length:Int)=n;rw [A2]
def Tk (n:Nat):(aB.fresh n).sec.length=n:=by simp [aB.fresh]
def Tp (w:World) (e:Ending) (a:World):Prop:=e = .returned (.bool true)/\ag a (whole w)/\aj w a
end Go.Proofs.Nn

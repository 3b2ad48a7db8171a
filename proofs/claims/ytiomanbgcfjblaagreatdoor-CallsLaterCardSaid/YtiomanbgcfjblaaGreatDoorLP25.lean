/- Steps. -/
import Derived.Test.YtiomanbgcfjblaaGreatDoorLP12
import Derived.OpenShut
import Derived.Deep.DeepCutAuto
import Derived.Deep.CutBlock
import Derived.Deep.CutRange
set_option linter.all false
set_option maxRecDepth 99999
set_option maxHeartbeats 0
open Go.SL
open List renaming replicate->A1,length_replicate->B3,getElem?_replicate->D9
namespace Go.SL
open RowKit
def bj (n:Int):List UInt8:=(List.range 480).map fun i:Nat=>UInt8.ofInt (n+(i:Int))
end Go.SL
namespace Go.Proofs.Nn
open RowKit SL
variable {P n:Nat}
def nV (n:Nat):Js:=⟨1,1,0,0,0,A1 n (-1)⟩
abbrev Wo:=List (Nat × Int × List UInt8)
def Yf:Hp:=fun _=>none
def Kq (P n:Nat):∀ k,k<=n->j5 P (A1 n (-1)) k=Tb.fresh n P:=by
 intro k
 induction k with
 | zero=>intro _;simp [j5]
 | succ k a=>
  intro b;have:(A1 n (-1:Int)).getD k 0=-1:=by simp [List.getD,D9,show k<n by omega]
  rw [j5,this,if_neg De0,a Om0]
def J0 (P n:Nat):Jr:=Jr.px P (nV n)
def Vb (P n:Nat):(J0 P n).T=Tb.fresh n P:=by
 show j5 P (A1 n (-1)) (A1 n (-1:Int)).length=_
 rw [B3];exact Kq P n n (Nat.le_refl _)
def uf (e:1<=P) (a:1<=n) (b:n<=3840):(nV n).rf P:=
 ⟨show (1:Int)<=1 by decide,show (0:Int)<=281474976710655 by decide,show (1:Int)<=1 by decide,show (1:Int)<=0+1 by decide,show (0:Int)<=0 by decide,by show (0:Int)<(P:Int);omega,show (0:Int)<=0 by decide,by show (0:Int)<=(P:Int);omega,by simpa [nV] using a,by simpa [nV] using b,fun k c=>.inl (by
  have d:k<n:=by simpa [nV] using c
  simp [nV,List.getD,D9,d])⟩
def Jn (b:1<=P) (g:P<=19999) (d:1<=n) (e:n<=3840):dp (J0 P n) (aw.fresh (P+1)) fun _=>none:=by
 have f:=Jr.NB (uf b d e) b (by omega:P<=20000);have a:=Vb P n;refine ⟨f,?_,?_,rfl,⟨rfl,rfl⟩,?_,?_,?_,?_,?_,fun _ _=>rfl⟩
 .refine ⟨show (1:Int)<=1 by decide,show (1:Int)<4294967296 by decide,show (1:Int)<=1 by decide,show (1:Int)<=0+1 by decide,show (0:Int)<=0 by decide,show (0:Int)<=281474976710655 by decide,?_,?_⟩
  .show ((A1 n (-1:Int)).length:Int)<=3840
   rw [B3];omega
  .rw [a];exact ⟨fun v hv=>.inl (List.eq_of_mem_replicate hv)⟩
 .exact ⟨by simp [aw.fresh];omega,by simp [aw.fresh],by simp [aw.fresh],by simp [aw.fresh]⟩
 .show (P:Int)+1<=((A1 (P+1) ([]:List UInt8)).length:Int)
  rw [B3];omega
 .rw [a];exact Tb.y9 _ _
 .show (0:Int)+0<=(P:Int);omega
 .intro p c h;rw [a,(Tb.gp n P p).2] at h;cases h
 .intro c p h;rw [a,(Tb.gp n P c).1] at h;cases h
def Ck (P n:Nat):jG (J0 P n):=by
 intro k c;have a:(J0 P n).us=0:=rfl;have b:(J0 P n).n=((A1 n (-1:Int)).length:Int):=rfl;have d:=rC (J0 P n).T (J0 P n).P (Jr.tail (J0 P n)) k;rw [a] at c ⊢;rw [b,B3];omega
def XC (P n:Nat):(J0 P n).n=(n:Int):=by show ((A1 n (-1:Int)).length:Int)=n;rw [B3]
def TA (n:Nat):(aw.fresh n).sec.length=n:=by simp [aw.fresh]
def Vq (w:World) (e:Ending) (a:World):Prop:=e = .returned (.bool true)/\ah a (whole w)/\ak w a
end Go.Proofs.Nn

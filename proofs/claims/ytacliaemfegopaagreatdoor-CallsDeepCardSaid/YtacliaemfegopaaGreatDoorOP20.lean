/- Steps. -/
import Derived.Test.YtacliaemfegopaaGreatDoorOP12
import Derived.OpenShut
import Derived.Deep.DeepCutAuto
import Derived.Deep.CutBlock
import Derived.Deep.CutRange
set_option linter.all false
set_option maxRecDepth 99999
set_option maxHeartbeats 0
open Go.SL
open List renaming replicate->D0,length_replicate->F0,getElem?_replicate->G0
namespace Go.SL
open Go.RowKit
def bj (n:Int):List UInt8:=(List.range 480).map fun i:Nat=>UInt8.ofInt (n+(i:Int))
end Go.SL
namespace Go.Proofs.Nn
open Go.RowKit Go.SL
variable {P n:Nat}
def nk (n:Nat):Js:=⟨1,1,0,0,0,D0 n (-1)⟩
def rZ (w:World) (a:Option Addr) (c b:Nat) (zs:List Int):Prop:=
 (a=none/\c=0/\b=0/\zs=[]) \/
 ∃ x,a=some x/\c<=b/\b<=maxLen/\zs.length=b/\(∀ i,i<zs.length->w.cell? (x.add i)=some (.int .i64 (zs.getD i 0)))/\∀ n ∈ zs,(Lit.int .i64 n).wf=true
theorem rZ.cell {w:World} {a:Option Addr} {c cap:Nat} {zs:List Int} (h:rZ w a c cap zs) {i:Nat} (j:i<c) :
  ∃ b off,a=some ⟨b,off,none⟩/\w.cell? ⟨b,off+i,none⟩=some (.int .i64 (zs.getD i 0))/\c<=cap/\cap<=9223372036854775807:=by
 rcases h with ⟨_,rfl,_⟩|⟨x,rfl,f,g,k,d,_⟩
 .omega
 .obtain ⟨b,off,rfl,e⟩:=ints_at d (by omega)
  exact ⟨b,off,rfl,e i (by omega),f,by simpa [maxLen] using g⟩
abbrev Wo:=List (Nat × Int × List UInt8)
def UM:Hp:=fun _=>none
theorem Gk (P n:Nat):∀ k,k<=n->tj P (D0 n (-1)) k=Tb.fresh n P:=by
 intro k
 induction k with
 | zero=>intro _;simp [tj]
 | succ k a=>
  intro b;have:(D0 n (-1:Int)).getD k 0=-1:=by simp [List.getD,G0,show k<n by omega]
  rw [tj,this,if_neg (by decide),a (by omega)]
def J0 (P n:Nat):Jr:=Jr.MR P (nk n)
theorem RD (P n:Nat):(J0 P n).T=Tb.fresh n P:=by
 show tj P (D0 n (-1)) (D0 n (-1:Int)).length=_
 rw [F0];exact Gk P n n (Nat.le_refl _)
theorem tp (e:1<=P) (a:1<=n) (b:n<=3840):(nk n).uR P:=
 ⟨show (1:Int)<=1 by decide,show (0:Int)<=281474976710655 by decide,show (1:Int)<=1 by decide,show (1:Int)<=0+1 by decide,show (0:Int)<=0 by decide,by show (0:Int)<(P:Int);omega,show (0:Int)<=0 by decide,by show (0:Int)<=(P:Int);omega,by simpa [nk] using a,by simpa [nk] using b,fun k c=>.inl (by
  have d:k<n:=by simpa [nk] using c
  simp [nk,List.getD,G0,d])⟩
theorem IW (b:1<=P) (i:P<=19999) (d:1<=n) (e:n<=3840):fL (J0 P n) (aB.fresh (P+1)) fun _=>none:=by
 have f:=Jr.Rb (tp b d e) b (by omega:P<=20000);have a:=RD P n;refine ⟨f,?_,?_,rfl,⟨rfl,rfl⟩,?_,?_,?_,?_,?_,fun _ _=>rfl⟩
 .refine ⟨show (1:Int)<=1 by decide,show (1:Int)<4294967296 by decide,show (1:Int)<=1 by decide,show (1:Int)<=0+1 by decide,show (0:Int)<=0 by decide,show (0:Int)<=281474976710655 by decide,?_,?_⟩
  .show ((D0 n (-1:Int)).length:Int)<=3840
   rw [F0];omega
  .rw [a];exact ⟨fun v g=>.inl (List.eq_of_mem_replicate g)⟩
 .exact ⟨by simp [aB.fresh];omega,by simp [aB.fresh],by simp [aB.fresh],by simp [aB.fresh]⟩
 .show (P:Int)+1<=((D0 (P+1) ([]:List UInt8)).length:Int)
  rw [F0];omega
 .rw [a];exact Tb.Ig _ _
 .show (0:Int)+0<=(P:Int);omega
 .intro p c h;rw [a,(Tb.iV n P p).2] at h;cases h
 .intro c p h;rw [a,(Tb.iV n P c).1] at h;cases h
theorem Ci (P n:Nat):sd (J0 P n):=by
 intro k c;have a:(J0 P n).us=0:=rfl;have b:(J0 P n).n=((D0 n (-1:Int)).length:Int):=rfl;have d:=qu (J0 P n).T (J0 P n).P (Jr.tail (J0 P n)) k;rw [a] at c ⊢;rw [b,F0];omega
theorem Uq (P n:Nat):(J0 P n).n=(n:Int):=by show ((D0 n (-1:Int)).length:Int)=n;rw [F0]
theorem QQ (n:Nat):(aB.fresh n).sec.length=n:=by simp [aB.fresh]
def Qj (w:World) (e:Ending) (a:World):Prop:=e = .returned (.bool true)/\ag a (whole w)/\aj w a
end Go.Proofs.Nn

/- Steps. -/
import Derived.Test.YtacliaemfegopaaGreatDoorKP12
import Derived.OpenShut
import Derived.Deep.DeepCutAuto
import Derived.Deep.CutBlock
import Derived.Deep.CutRange
set_option linter.unusedVariables false
set_option linter.unusedSimpArgs false
set_option maxRecDepth 100000
set_option maxHeartbeats 40000000
open Go.Proofs Go.SL
namespace Go.SL
open Go.RowKit
def bj (n:Int):List UInt8:=(List.range 480).map fun i:Nat=>UInt8.ofInt (n+(i:Int))
end Go.SL
namespace Go.Nn
open Go.RowKit Go.SL
def l9 (n:Nat):Js:=⟨1,1,0,0,0,List.replicate n (-1)⟩
def j3 (w:World) (a:Option Addr) (len cap:Nat) (zs:List Int):Prop:=
 (a=none∧len=0∧cap=0∧zs=[]) ∨
 ∃ x,a=some x∧len≤cap∧cap≤maxLen∧zs.length=cap∧(∀ i,i<zs.length→w.cell? (x.add i)=some (.int .i64 (zs.getD i 0)))∧∀ n ∈ zs,(Lit.int .i64 n).wf=true
theorem j3.cell {w:World} {a:Option Addr} {len cap:Nat} {zs:List Int} (h:j3 w a len cap zs) {i:Nat} (hi:i<len) :
  ∃ b off,a=some ⟨b,off,none⟩∧w.cell? ⟨b,off+i,none⟩=some (.int .i64 (zs.getD i 0))∧len≤cap∧cap≤9223372036854775807:=by
 rcases h with ⟨_,rfl,_⟩|⟨x,rfl,hl,hm,hz,hc,_⟩
 ·omega
 ·obtain ⟨b,off,rfl,hc'⟩:=ints_at hc (by omega)
  exact ⟨b,off,rfl,hc' i (by omega),hl,by simpa [maxLen] using hm⟩
abbrev Wo:=List (Nat × Int × List UInt8)
def Rn:Hp:=fun _=>none
theorem EZ (P n:Nat):∀ k,k≤n→ry P (List.replicate n (-1)) k=Tb.fresh n P:=by
 intro k
 induction k with
 | zero=>intro _;simp [ry]
 | succ k ih=>
  intro hk;have:(List.replicate n (-1:Int)).getD k 0=-1:=by simp [List.getD,List.getElem?_replicate,show k<n by omega]
  rw [ry,this,if_neg (by decide),ih (by omega)]
def J0 (P n:Nat):Jr:=Jr.Jx P (l9 n)
theorem OL (P n:Nat):(J0 P n).T=Tb.fresh n P:=by
 show ry P (List.replicate n (-1)) (List.replicate n (-1:Int)).length=_
 rw [List.length_replicate];exact EZ P n n (Nat.le_refl _)
theorem qX {P n:Nat} (hP:1≤P) (h0:1≤n) (h1:n≤3840):(l9 n).tx P:=
 ⟨show (1:Int)≤1 by decide,show (0:Int)≤281474976710655 by decide,show (1:Int)≤1 by decide,show (1:Int)≤0+1 by decide,show (0:Int)≤0 by decide,by show (0:Int)<(P:Int);omega,show (0:Int)≤0 by decide,by show (0:Int)≤(P:Int);omega,by simpa [l9] using h0,by simpa [l9] using h1,fun k hk=>.inl (by
  have hk':k<n:=by simpa [l9] using hk
  simp [l9,List.getD,List.getElem?_replicate,hk'])⟩
theorem Ep {P n:Nat} (hP:1≤P) (hP2:P≤19999) (h0:1≤n) (h1:n≤3840):fg (J0 P n) (ay.fresh (P+1)) fun _=>none:=by
 have hok:=Jr.OT (qX hP h0 h1) hP (by omega:P≤20000);have hT:=OL P n;refine ⟨hok,?_,?_,rfl,⟨rfl,rfl⟩,?_,?_,?_,?_,?_,fun _ _=>rfl⟩
 ·refine ⟨show (1:Int)≤1 by decide,show (1:Int)<4294967296 by decide,show (1:Int)≤1 by decide,show (1:Int)≤0+1 by decide,show (0:Int)≤0 by decide,show (0:Int)≤281474976710655 by decide,?_,?_⟩
  ·show ((List.replicate n (-1:Int)).length:Int)≤3840
   rw [List.length_replicate];omega
  ·rw [hT];exact ⟨fun v hv=>.inl (List.eq_of_mem_replicate hv)⟩
 ·exact ⟨by simp [ay.fresh];omega,by simp [ay.fresh],by simp [ay.fresh],by simp [ay.fresh]⟩
 ·show (P:Int)+1≤((List.replicate (P+1) ([]:List UInt8)).length:Int)
  rw [List.length_replicate];omega
 ·rw [hT];exact Tb.FI _ _
 ·show (0:Int)+0≤(P:Int);omega
 ·intro p id h;rw [hT,(Tb.ig n P p).2] at h;cases h
 ·intro id p h;rw [hT,(Tb.ig n P id).1] at h;cases h
theorem z8 (P n:Nat):qh (J0 P n):=by
 intro k hk;have h1:(J0 P n).us=0:=rfl;have h2:(J0 P n).n=((List.replicate n (-1:Int)).length:Int):=rfl;have h3:=oq (J0 P n).T (J0 P n).P (Jr.tail (J0 P n)) k;rw [h1] at hk ⊢;rw [h2,List.length_replicate];omega
theorem Ra (P n:Nat):(J0 P n).n=(n:Int):=by show ((List.replicate n (-1:Int)).length:Int)=n;rw [List.length_replicate]
theorem Ot (n:Nat):(ay.fresh n).sec.length=n:=by simp [ay.fresh]
def Ol (w:World) (e:Ending) (w':World):Prop:=e = .returned (.bool true)∧Sat w' (whole w)∧ai w w'
end Go.Nn

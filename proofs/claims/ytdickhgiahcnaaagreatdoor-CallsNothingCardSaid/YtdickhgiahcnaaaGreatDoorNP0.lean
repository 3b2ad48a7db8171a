/- Steps. -/
import Derived.Tactics2
import Derived.KernelRfl
import Derived.Below
set_option linter.all false
open Go.Value renaming int->Z
open Go.IntKind renaming i64->Z'
namespace Go.SL
variable {P Q:Prop} {a:Type}
def Om0 (h:P:=by omega):P:=h
def De0 (h:P:=by decide):P:=h
def Ac0 (h:P:=by ac_rfl):P:=h
def Si0 (h:P:=by simp):P:=h
def Kr0 (h:P:=by kernel_rfl):P:=h
def Gr0 (h:P:=by grind):P:=h
def As0 (h:P:=by assumption):P:=h
def Rf0 (h:P:=by rfl):P:=h
def Er0 (h:P:=by exact rfl):P:=h
def Sa0 (h:P:=by simp_all):P:=h
def Nm (x:a):∃ y,x=y:=⟨x,rfl⟩
def Mn0 (x:a):∃ y,y=x:=⟨x,rfl⟩
def Zz (k:Q) (h:Q->P:=by intro k;go_wp2_with fail;exact k):P:=h k
def Zy (k:Q) (h:Q->P:=by intro k;go_wp2_with fail;go_end0;exact k):P:=h k
def Zq (k:Q) (h:Q->P:=by intro k;go_wp2_with fail;exact k):P:=h k
def Su0 (k:Q) (h:Q->P:=by intro k;simpa using k):P:=h k
def We0 (k:Q) (h:Q->P:=by intro k;with_reducible exact k):P:=h k
abbrev Ze:Array Go.Value:=#[Z Z' 0,Z Z' 0,Z Z' 0,Z Z' 0,Z Z' 0,Z Z' 0,Z Z' 0,Z Z' 0,Z Z' 0,Z Z' 0,Z Z' 0,Z Z' 0,Z Z' 0,Z Z' 0,Z Z' 0,Z Z' 0,Z Z' 0,Z Z' 0,Z Z' 0,Z Z' 0]
abbrev Lk0:Nat×Nat:=(0,0)
def _root_.Go.RowKit.Hid.o {p:Prop} (h:RowKit.Hid p):p:=h
end Go.SL

/- Steps. -/
import Derived.Shelf.Small.Bits
import Derived.Shelf.Small.Strs
import Derived.Shelf.Small.Wraps
import Derived.Shelf.Strconv.Itoa0
import Derived.Shelf.Strings.Search1
import Derived.Shelf.Sort.Plain
import Derived.Shelf.Slices.Equal
import Derived.Ground.Names2Prog
import Derived.Shelf.Slices.SearchI
import Derived.Shelf.Slices.In.SortNone
import Derived.Shelf.Slices.Empties2
import Derived.Shelf.Bytes.SlSearch0
import Derived.Ground.SlbCloneProg
import Derived.Shelf.Bytes.SlClone
import Derived.Shelf.Bytes.SlEqualAll
import Derived.Shelf.Bytes.Small
import Derived.Test.YtebfaobobccikaaGreatDoorProg
set_option linter.all false
set_option maxRecDepth 99999
set_option maxHeartbeats 0
open Go.Proofs.Tryz renaming prog->Y
open Option renaming some->Z
open Go.Proofs.Tryz
namespace Go.SL
end Go.SL
open Go.SL
namespace Go.Proofs
open Shelf
def Tryz.lays106_ren:Go.Shelf.Ren:=⟨fun|106=>94|213=>157|265=>213|n=>n,fun|9=>9|3=>3|n=>n,fun|n=>n⟩
theorem Tryz.lays106:Go.Proofs.Lays.n106 Y Tryz.lays106_ren:={
 mixed:=by kernel_rfl
 f106:=func94.trans (congrArg Z (by kernel_rfl))
 f213:=func157.trans (congrArg Z (by kernel_rfl))
 f265:=func213.trans (congrArg Z (by kernel_rfl))
 t3:=underlying3
 a3:=Tryz.isAgg3
 z3:=Tryz.sizeOf3
 v3:=Tryz.zeroValue3
 t9:=underlying9
 a9:=Tryz.isAgg9
 z9:=Tryz.sizeOf9
 v9:=Tryz.zeroValue9 }
open RowKit in
theorem Tryz.strings_Compare (a b:ByteArray) (w:World) :
  Calls Y 94 #[.string a,.string b] w fun e c=>e = .returned (.int .i64 (Lib.compareBytes a.data.toList b.data.toList))/\c=w:=Any.strings_Compare Tryz.lays106 a b w
def Tryz.lays137_ren:Go.Shelf.Ren:=⟨fun|137=>190|217=>238|266=>265|n=>n,fun|9=>9|5=>5|3=>3|n=>n,fun|n=>n⟩
theorem Tryz.lays137:Go.Proofs.Lays.n137 Y Tryz.lays137_ren:={
 mixed:=by kernel_rfl
 f137:=func190.trans (congrArg Z (by kernel_rfl))
 f217:=func238.trans (congrArg Z (by kernel_rfl))
 f266:=func265.trans (congrArg Z (by kernel_rfl))
 t3:=underlying3
 a3:=Tryz.isAgg3
 z3:=Tryz.sizeOf3
 v3:=Tryz.zeroValue3
 t5:=underlying5
 a5:=Tryz.isAgg5
 z5:=Tryz.sizeOf5
 v5:=Tryz.zeroValue5
 t9:=underlying9
 a9:=Tryz.isAgg9
 z9:=Tryz.sizeOf9
 v9:=Tryz.zeroValue9 }
open RowKit in
theorem Tryz.strings_IndexByte (s:ByteArray) (c:Int) (w:World) :
  Calls Y 190 #[.string s,.int .u8 c] w fun e a=>e = .returned (.int .i64 (Lib.indexByte s.data.toList c.toNat.toUInt8))/\a=w:=Any.strings_IndexByte Tryz.lays137 s c w
def Tryz.lays189_ren:Go.Shelf.Ren:=⟨fun|189=>236|125=>264|257=>263|128=>286|129=>287|294=>277|295=>278|296=>279|297=>280|298=>281|299=>282|216=>283|300=>284|301=>285|328=>290|329=>291|330=>292|331=>293|332=>294|215=>295|343=>296|n=>n,fun|28=>104|3=>3|46=>275|0=>0|51=>165|53=>166|4=>4|183=>329|182=>328|131=>236|5=>5|9=>9|218=>339|222=>315|228=>344|229=>345|n=>n,fun|n=>n⟩
theorem Tryz.lays189:Go.Proofs.Lays.n189 Y Tryz.lays189_ren:={
 mixed:=by kernel_rfl
 f125:=func264.trans (congrArg Z (by kernel_rfl))
 f128:=func286.trans (congrArg Z (by kernel_rfl))
 f129:=func287.trans (congrArg Z (by kernel_rfl))
 f189:=func236.trans (congrArg Z (by kernel_rfl))
 f215:=func295.trans (congrArg Z (by kernel_rfl))
 f216:=func283.trans (congrArg Z (by kernel_rfl))
 f257:=func263.trans (congrArg Z (by kernel_rfl))
 f294:=func277.trans (congrArg Z (by kernel_rfl))
 f295:=func278.trans (congrArg Z (by kernel_rfl))
 f296:=func279.trans (congrArg Z (by kernel_rfl))
 f297:=func280.trans (congrArg Z (by kernel_rfl))
 f298:=func281.trans (congrArg Z (by kernel_rfl))
 f299:=func282.trans (congrArg Z (by kernel_rfl))
 f300:=func284.trans (congrArg Z (by kernel_rfl))
 f301:=func285.trans (congrArg Z (by kernel_rfl))
 f328:=func290.trans (congrArg Z (by kernel_rfl))
 f329:=func291.trans (congrArg Z (by kernel_rfl))
 f330:=func292.trans (congrArg Z (by kernel_rfl))
 f331:=func293.trans (congrArg Z (by kernel_rfl))
 f332:=func294.trans (congrArg Z (by kernel_rfl))
 f343:=func296.trans (congrArg Z (by kernel_rfl))
 t0:=underlying0
 a0:=Tryz.isAgg0
 z0:=Tryz.sizeOf0
 v0:=Tryz.zeroValue0
 t3:=underlying3
 a3:=Tryz.isAgg3
 z3:=Tryz.sizeOf3
 v3:=Tryz.zeroValue3
 t4:=underlying4
 a4:=Tryz.isAgg4
 z4:=Tryz.sizeOf4
 v4:=Tryz.zeroValue4
 t5:=underlying5
 a5:=Tryz.isAgg5
 z5:=Tryz.sizeOf5
 v5:=Tryz.zeroValue5
 t9:=underlying9
 a9:=Tryz.isAgg9
 z9:=Tryz.sizeOf9
 v9:=Tryz.zeroValue9
 t28:=underlying104
 a28:=Tryz.isAgg104
 z28:=Tryz.sizeOf104
 v28:=Tryz.zeroValue104
 t46:=underlying275
 a46:=Tryz.isAgg275
 z46:=Tryz.sizeOf275
 v46:=Tryz.zeroValue275
 t51:=underlying165
 a51:=Tryz.isAgg165
 z51:=Tryz.sizeOf165
 v51:=Tryz.zeroValue165
 t53:=underlying166
 a53:=Tryz.isAgg166
 z53:=Tryz.sizeOf166
 v53:=Tryz.zeroValue166
 t131:=underlying236
 a131:=Tryz.isAgg236
 z131:=Tryz.sizeOf236
 v131:=Tryz.zeroValue236
 t182:=underlying328
 a182:=Tryz.isAgg328
 z182:=Tryz.sizeOf328
 v182:=Tryz.zeroValue328
 t183:=underlying329
 a183:=Tryz.isAgg329
 z183:=Tryz.sizeOf329
 v183:=Tryz.zeroValue329
 t218:=underlying339
 a218:=Tryz.isAgg339
 z218:=Tryz.sizeOf339
 v218:=Tryz.zeroValue339
 t222:=underlying315
 a222:=Tryz.isAgg315
 z222:=Tryz.sizeOf315
 v222:=Tryz.zeroValue315
 t228:=underlying344
 a228:=Tryz.isAgg344
 z228:=Tryz.sizeOf344
 v228:=Tryz.zeroValue344
 t229:=underlying345
 a229:=Tryz.isAgg345
 z229:=Tryz.sizeOf345
 v229:=Tryz.zeroValue345 }
open Go.Sort RowKit in
theorem Tryz.slices_Sort_int (a b cap:Nat) (zs:List Int) (w:World) (c:Holds (Value.int .i64) w a b zs.toArray) (d:a<w.heap.size) (f:zs.length<4611686018427387904) :
  Calls Y 236 #[.slice (Z ⟨a,b,none⟩) zs.length cap] w fun e h=>
   e = .returned (.tuple #[])/\∃ n g,h=grow (putRow (Value.int .i64) (Sort.ahead w n) a b (zs.mergeSort fun x y=>decide (x<=y)).toArray) g:=Any.slices_Sort_int Tryz.lays189 a b cap zs w c d f
def Tryz.lays193_ren:Go.Shelf.Ren:=⟨fun|193=>108|n=>n,fun|31=>31|9=>9|4=>4|3=>3|0=>0|n=>n,fun|n=>n⟩
theorem Tryz.lays193:Go.Proofs.Lays.n193 Y Tryz.lays193_ren:={
 mixed:=by kernel_rfl
 f193:=func108.trans (congrArg Z (by kernel_rfl))
 t0:=underlying0
 a0:=Tryz.isAgg0
 z0:=Tryz.sizeOf0
 v0:=Tryz.zeroValue0
 t3:=underlying3
 a3:=Tryz.isAgg3
 z3:=Tryz.sizeOf3
 v3:=Tryz.zeroValue3
 t4:=underlying4
 a4:=Tryz.isAgg4
 z4:=Tryz.sizeOf4
 v4:=Tryz.zeroValue4
 t9:=underlying9
 a9:=Tryz.isAgg9
 z9:=Tryz.sizeOf9
 v9:=Tryz.zeroValue9
 t31:=underlying31
 a31:=Tryz.isAgg31
 z31:=Tryz.sizeOf31
 v31:=Tryz.zeroValue31 }
open RowKit Lib in
theorem Tryz.slices_Equal_string (f h n c g i m d:Nat) (a b:List ByteArray) (w:World) (r:n<=a.length) (s:m<=b.length) (k:n<=9223372036854775807) (l:m<=9223372036854775807) (o:∀ j,j<a.length->w.cell? ⟨f,h+j,none⟩=Z (.string (a.getD j ByteArray.empty))) (p:∀ j,j<b.length->w.cell? ⟨g,i+j,none⟩=Z (.string (b.getD j ByteArray.empty))) :
  Calls Y 108 #[.slice (Z ⟨f,h,none⟩) n c,.slice (Z ⟨g,i,none⟩) m d] w fun e t=>e = .returned (.bool (decide (a.take n=b.take m)))/\∃ q,t=w.drewN q:=Any.slices_Equal_string Tryz.lays193 f h n c g i m d a b w r s k l o p
open RowKit Go.Sort in
theorem Tryz.slices_Sort_int_none (p:Option Addr) (cap:Nat) (w:World) :
  Calls Y 236 #[.slice p 0 cap] w fun e a=>e = .returned (.tuple #[])/\a=w:=Any.slices_Sort_int_none Tryz.lays189 p cap w
end Go.Proofs

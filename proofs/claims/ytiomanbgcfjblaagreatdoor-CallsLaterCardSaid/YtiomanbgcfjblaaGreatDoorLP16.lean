/- Steps. -/
import Derived.Test.YtiomanbgcfjblaaGreatDoorLP0
import Derived.Shelf.Small.Bits
import Derived.Shelf.Small.Strs
import Derived.Shelf.Small.Wraps
import Derived.Shelf.Strconv.Itoa0
import Derived.Shelf.Strings.Search1
import Derived.Shelf.Sort.Plain
import Derived.Shelf.Slices.Equal
import Derived.Shelf.Slices.In.SortNone
import Derived.Shelf.Slices.Empties2
import Derived.Shelf.Bytes.SlSearch0
import Derived.Ground.SlbCloneProg
import Derived.Shelf.Bytes.SlClone
import Derived.Shelf.Bytes.SlEqualAll
import Derived.Shelf.Bytes.Small
import Derived.Test.YtiomanbgcfjblaaGreatDoorProg
set_option linter.all false
set_option maxRecDepth 99999
set_option maxHeartbeats 0
open Go.Ending renaming returned->Z'
open Go.Proofs.Tryz renaming prog->Y
open Option renaming some->Z
open Go.Proofs.Tryz
namespace Go.SL
end Go.SL
open Go.SL
namespace Go.Proofs
open Shelf
def Tryz.lays125_ren:Go.Shelf.Ren:=⟨fun|125=>331|128=>354|129=>355|n=>n,fun|46=>351|3=>3|51=>170|53=>171|4=>4|5=>5|9=>9|n=>n,fun|n=>n⟩
def Tryz.lays125:Go.Proofs.Lays.n125 Y Tryz.lays125_ren:={
 mixed:=Kr0
 f125:=func331.trans (congrArg Z Kr0)
 f128:=func354.trans (congrArg Z Kr0)
 f129:=func355.trans (congrArg Z Kr0)
 t3:=underlying3
 a3:=Tryz.isAgg3
 z3:=Tryz.sizeOf3
 v3:=Tryz.zeroValue3
 t4:=underlying4
 a4:=Tryz.isAgg4
 z4:=Tryz.sizeOf4
 v4:=Tryz.zeroValue4
 t5:=underlying5
 a5:=Tryz.isAgg5
 z5:=Tryz.sizeOf5
 v5:=Tryz.zeroValue5
 t9:=underlying9
 a9:=Tryz.isAgg9
 z9:=Tryz.sizeOf9
 v9:=Tryz.zeroValue9
 t46:=underlying351
 a46:=Tryz.isAgg351
 z46:=Tryz.sizeOf351
 v46:=Tryz.zeroValue351
 t51:=underlying170
 a51:=Tryz.isAgg170
 z51:=Tryz.sizeOf170
 v51:=Tryz.zeroValue170
 t53:=underlying171
 a53:=Tryz.isAgg171
 z53:=Tryz.sizeOf171
 v53:=Tryz.zeroValue171 }
def Tryz.bits_Len (x:Int) (w:World) (a:0<=x) (b:x<=18446744073709551615) :
  Calls Y 331 #[.int .u64 x] w fun e c=>e = Z' (.int .i64 (Lib.bitLen x.toNat))/\c=w:=Any.bits_Len Tryz.lays125 x w a b
def Tryz.lays106_ren:Go.Shelf.Ren:=⟨fun|106=>101|213=>179|265=>252|n=>n,fun|9=>9|3=>3|n=>n,fun|n=>n⟩
def Tryz.lays106:Go.Proofs.Lays.n106 Y Tryz.lays106_ren:={
 mixed:=Kr0
 f106:=func101.trans (congrArg Z Kr0)
 f213:=func179.trans (congrArg Z Kr0)
 f265:=func252.trans (congrArg Z Kr0)
 t3:=underlying3
 a3:=Tryz.isAgg3
 z3:=Tryz.sizeOf3
 v3:=Tryz.zeroValue3
 t9:=underlying9
 a9:=Tryz.isAgg9
 z9:=Tryz.sizeOf9
 v9:=Tryz.zeroValue9 }
open RowKit in
def Tryz.strings_Compare (a b:ByteArray) (w:World) :
  Calls Y 101 #[.string a,.string b] w fun e c=>e = Z' (.int .i64 (Lib.compareBytes a.data.toList b.data.toList))/\c=w:=Any.strings_Compare Tryz.lays106 a b w
def Tryz.lays137_ren:Go.Shelf.Ren:=⟨fun|137=>247|217=>300|266=>332|n=>n,fun|9=>9|5=>5|3=>3|n=>n,fun|n=>n⟩
def Tryz.lays137:Go.Proofs.Lays.n137 Y Tryz.lays137_ren:={
 mixed:=Kr0
 f137:=func247.trans (congrArg Z Kr0)
 f217:=func300.trans (congrArg Z Kr0)
 f266:=func332.trans (congrArg Z Kr0)
 t3:=underlying3
 a3:=Tryz.isAgg3
 z3:=Tryz.sizeOf3
 v3:=Tryz.zeroValue3
 t5:=underlying5
 a5:=Tryz.isAgg5
 z5:=Tryz.sizeOf5
 v5:=Tryz.zeroValue5
 t9:=underlying9
 a9:=Tryz.isAgg9
 z9:=Tryz.sizeOf9
 v9:=Tryz.zeroValue9 }
open RowKit in
def Tryz.strings_IndexByte (s:ByteArray) (c:Int) (w:World) :
  Calls Y 247 #[.string s,.int .u8 c] w fun e a=>e = Z' (.int .i64 (Lib.indexByte s.data.toList c.toNat.toUInt8))/\a=w:=Any.strings_IndexByte Tryz.lays137 s c w
def Tryz.lays189_ren:Go.Shelf.Ren:=⟨fun|189=>298|125=>331|257=>330|128=>354|129=>355|294=>345|295=>346|296=>347|297=>348|298=>349|299=>350|216=>351|300=>352|301=>353|328=>367|329=>368|330=>369|331=>370|332=>371|215=>372|343=>377|n=>n,fun|28=>97|3=>3|46=>351|0=>0|51=>170|53=>171|4=>4|183=>397|182=>396|131=>261|5=>5|9=>9|218=>413|222=>382|228=>420|229=>421|n=>n,fun|n=>n⟩
def Tryz.lays189:Go.Proofs.Lays.n189 Y Tryz.lays189_ren:={
 mixed:=Kr0
 f125:=func331.trans (congrArg Z Kr0)
 f128:=func354.trans (congrArg Z Kr0)
 f129:=func355.trans (congrArg Z Kr0)
 f189:=func298.trans (congrArg Z Kr0)
 f215:=func372.trans (congrArg Z Kr0)
 f216:=func351.trans (congrArg Z Kr0)
 f257:=func330.trans (congrArg Z Kr0)
 f294:=func345.trans (congrArg Z Kr0)
 f295:=func346.trans (congrArg Z Kr0)
 f296:=func347.trans (congrArg Z Kr0)
 f297:=func348.trans (congrArg Z Kr0)
 f298:=func349.trans (congrArg Z Kr0)
 f299:=func350.trans (congrArg Z Kr0)
 f300:=func352.trans (congrArg Z Kr0)
 f301:=func353.trans (congrArg Z Kr0)
 f328:=func367.trans (congrArg Z Kr0)
 f329:=func368.trans (congrArg Z Kr0)
 f330:=func369.trans (congrArg Z Kr0)
 f331:=func370.trans (congrArg Z Kr0)
 f332:=func371.trans (congrArg Z Kr0)
 f343:=func377.trans (congrArg Z Kr0)
 t0:=underlying0
 a0:=Tryz.isAgg0
 z0:=Tryz.sizeOf0
 v0:=Tryz.zeroValue0
 t3:=underlying3
 a3:=Tryz.isAgg3
 z3:=Tryz.sizeOf3
 v3:=Tryz.zeroValue3
 t4:=underlying4
 a4:=Tryz.isAgg4
 z4:=Tryz.sizeOf4
 v4:=Tryz.zeroValue4
 t5:=underlying5
 a5:=Tryz.isAgg5
 z5:=Tryz.sizeOf5
 v5:=Tryz.zeroValue5
 t9:=underlying9
 a9:=Tryz.isAgg9
 z9:=Tryz.sizeOf9
 v9:=Tryz.zeroValue9
 t28:=underlying97
 a28:=Tryz.isAgg97
 z28:=Tryz.sizeOf97
 v28:=Tryz.zeroValue97
 t46:=underlying351
 a46:=Tryz.isAgg351
 z46:=Tryz.sizeOf351
 v46:=Tryz.zeroValue351
 t51:=underlying170
 a51:=Tryz.isAgg170
 z51:=Tryz.sizeOf170
 v51:=Tryz.zeroValue170
 t53:=underlying171
 a53:=Tryz.isAgg171
 z53:=Tryz.sizeOf171
 v53:=Tryz.zeroValue171
 t131:=underlying261
 a131:=Tryz.isAgg261
 z131:=Tryz.sizeOf261
 v131:=Tryz.zeroValue261
 t182:=underlying396
 a182:=Tryz.isAgg396
 z182:=Tryz.sizeOf396
 v182:=Tryz.zeroValue396
 t183:=underlying397
 a183:=Tryz.isAgg397
 z183:=Tryz.sizeOf397
 v183:=Tryz.zeroValue397
 t218:=underlying413
 a218:=Tryz.isAgg413
 z218:=Tryz.sizeOf413
 v218:=Tryz.zeroValue413
 t222:=underlying382
 a222:=Tryz.isAgg382
 z222:=Tryz.sizeOf382
 v222:=Tryz.zeroValue382
 t228:=underlying420
 a228:=Tryz.isAgg420
 z228:=Tryz.sizeOf420
 v228:=Tryz.zeroValue420
 t229:=underlying421
 a229:=Tryz.isAgg421
 z229:=Tryz.sizeOf421
 v229:=Tryz.zeroValue421 }
open Go.Sort RowKit in
def Tryz.slices_Sort_int (a b cap:Nat) (zs:List Int) (w:World) (c:Holds (Value.int .i64) w a b zs.toArray) (d:a<w.heap.size) (f:zs.length<4611686018427387904) :
  Calls Y 298 #[.slice (Z ⟨a,b,none⟩) zs.length cap] w fun e h=>
   e = Z' (.tuple #[])/\∃ n g,h=grow (putRow (Value.int .i64) (Sort.ahead w n) a b (zs.mergeSort fun x y=>decide (x<=y)).toArray) g:=Any.slices_Sort_int Tryz.lays189 a b cap zs w c d f
def Tryz.lays193_ren:Go.Shelf.Ren:=⟨fun|193=>153|n=>n,fun|31=>37|9=>9|4=>4|3=>3|0=>0|n=>n,fun|n=>n⟩
def Tryz.lays193:Go.Proofs.Lays.n193 Y Tryz.lays193_ren:={
 mixed:=Kr0
 f193:=func153.trans (congrArg Z Kr0)
 t0:=underlying0
 a0:=Tryz.isAgg0
 z0:=Tryz.sizeOf0
 v0:=Tryz.zeroValue0
 t3:=underlying3
 a3:=Tryz.isAgg3
 z3:=Tryz.sizeOf3
 v3:=Tryz.zeroValue3
 t4:=underlying4
 a4:=Tryz.isAgg4
 z4:=Tryz.sizeOf4
 v4:=Tryz.zeroValue4
 t9:=underlying9
 a9:=Tryz.isAgg9
 z9:=Tryz.sizeOf9
 v9:=Tryz.zeroValue9
 t31:=underlying37
 a31:=Tryz.isAgg37
 z31:=Tryz.sizeOf37
 v31:=Tryz.zeroValue37 }
open RowKit Lib in
def Tryz.slices_Equal_string (f h n c g i m d:Nat) (a b:List ByteArray) (w:World) (r:n<=a.length) (hy:m<=b.length) (k:n<=9223372036854775807) (l:m<=9223372036854775807) (o:∀ j,j<a.length->w.cell? ⟨f,h+j,none⟩=Z (.string (a.getD j ByteArray.empty))) (p:∀ j,j<b.length->w.cell? ⟨g,i+j,none⟩=Z (.string (b.getD j ByteArray.empty))) :
  Calls Y 153 #[.slice (Z ⟨f,h,none⟩) n c,.slice (Z ⟨g,i,none⟩) m d] w fun e s=>e = Z' (.bool (decide (a.take n=b.take m)))/\∃ q,s=w.drewN q:=Any.slices_Equal_string Tryz.lays193 f h n c g i m d a b w r hy k l o p
open RowKit Go.Sort in
def Tryz.slices_Sort_int_none (p:Option Addr) (cap:Nat) (w:World) :
  Calls Y 298 #[.slice p 0 cap] w fun e a=>e = Z' (.tuple #[])/\a=w:=Any.slices_Sort_int_none Tryz.lays189 p cap w
end Go.Proofs

/- Steps. -/
import Derived.Test.YtdickhgiahcnaaaGreatDoorNP0
import Derived.Shelf.Small.Bits
import Derived.Shelf.Small.Strs
import Derived.Shelf.Small.Wraps
import Derived.Shelf.Strconv.Itoa0
import Derived.Shelf.Strings.Search1
import Derived.Shelf.Sort.Plain
import Derived.Shelf.Slices.Equal
import Derived.Shelf.Slices.In.SortNone
import Derived.Shelf.Slices.Empties2
import Derived.Shelf.Bytes.SlSearch0
import Derived.Ground.SlbCloneProg
import Derived.Shelf.Bytes.SlClone
import Derived.Shelf.Bytes.SlEqualAll
import Derived.Shelf.Bytes.Small
import Derived.Test.YtdickhgiahcnaaaGreatDoorProg
set_option linter.all false
set_option maxRecDepth 99999
set_option maxHeartbeats 0
open Go.Proofs.Tryz renaming prog->Y
open Option renaming some->Z
open Go.Proofs.Tryz
namespace Go.SL
end Go.SL
open Go.SL
namespace Go.Proofs
open Shelf
def Tryz.lays106_ren:Go.Shelf.Ren:=⟨fun|106=>80|213=>141|265=>193|n=>n,fun|9=>9|3=>3|n=>n,fun|n=>n⟩
def Tryz.lays106:Go.Proofs.Lays.n106 Y Tryz.lays106_ren:={
 mixed:=Kr0
 f106:=func80.trans (congrArg Z Kr0)
 f213:=func141.trans (congrArg Z Kr0)
 f265:=func193.trans (congrArg Z Kr0)
 t3:=underlying3
 a3:=Tryz.isAgg3
 z3:=Tryz.sizeOf3
 v3:=Tryz.zeroValue3
 t9:=underlying9
 a9:=Tryz.isAgg9
 z9:=Tryz.sizeOf9
 v9:=Tryz.zeroValue9 }
open RowKit in
def Tryz.strings_Compare (a b:ByteArray) (w:World) :
  Calls Y 80 #[.string a,.string b] w fun e c=>e = .returned (.int .i64 (Lib.compareBytes a.data.toList b.data.toList))/\c=w:=Any.strings_Compare Tryz.lays106 a b w
def Tryz.lays137_ren:Go.Shelf.Ren:=⟨fun|137=>188|217=>236|266=>263|n=>n,fun|9=>9|5=>5|3=>3|n=>n,fun|n=>n⟩
def Tryz.lays137:Go.Proofs.Lays.n137 Y Tryz.lays137_ren:={
 mixed:=Kr0
 f137:=func188.trans (congrArg Z Kr0)
 f217:=func236.trans (congrArg Z Kr0)
 f266:=func263.trans (congrArg Z Kr0)
 t3:=underlying3
 a3:=Tryz.isAgg3
 z3:=Tryz.sizeOf3
 v3:=Tryz.zeroValue3
 t5:=underlying5
 a5:=Tryz.isAgg5
 z5:=Tryz.sizeOf5
 v5:=Tryz.zeroValue5
 t9:=underlying9
 a9:=Tryz.isAgg9
 z9:=Tryz.sizeOf9
 v9:=Tryz.zeroValue9 }
open RowKit in
def Tryz.strings_IndexByte (s:ByteArray) (c:Int) (w:World) :
  Calls Y 188 #[.string s,.int .u8 c] w fun e a=>e = .returned (.int .i64 (Lib.indexByte s.data.toList c.toNat.toUInt8))/\a=w:=Any.strings_IndexByte Tryz.lays137 s c w
def Tryz.lays189_ren:Go.Shelf.Ren:=⟨fun|189=>234|125=>262|257=>261|128=>284|129=>285|294=>275|295=>276|296=>277|297=>278|298=>279|299=>280|216=>281|300=>282|301=>283|328=>288|329=>289|330=>290|331=>291|332=>292|215=>293|343=>294|n=>n,fun|28=>88|3=>3|46=>277|0=>0|51=>165|53=>166|4=>4|183=>331|182=>330|131=>237|5=>5|9=>9|218=>341|222=>317|228=>346|229=>347|n=>n,fun|n=>n⟩
def Tryz.lays189:Go.Proofs.Lays.n189 Y Tryz.lays189_ren:={
 mixed:=Kr0
 f125:=func262.trans (congrArg Z Kr0)
 f128:=func284.trans (congrArg Z Kr0)
 f129:=func285.trans (congrArg Z Kr0)
 f189:=func234.trans (congrArg Z Kr0)
 f215:=func293.trans (congrArg Z Kr0)
 f216:=func281.trans (congrArg Z Kr0)
 f257:=func261.trans (congrArg Z Kr0)
 f294:=func275.trans (congrArg Z Kr0)
 f295:=func276.trans (congrArg Z Kr0)
 f296:=func277.trans (congrArg Z Kr0)
 f297:=func278.trans (congrArg Z Kr0)
 f298:=func279.trans (congrArg Z Kr0)
 f299:=func280.trans (congrArg Z Kr0)
 f300:=func282.trans (congrArg Z Kr0)
 f301:=func283.trans (congrArg Z Kr0)
 f328:=func288.trans (congrArg Z Kr0)
 f329:=func289.trans (congrArg Z Kr0)
 f330:=func290.trans (congrArg Z Kr0)
 f331:=func291.trans (congrArg Z Kr0)
 f332:=func292.trans (congrArg Z Kr0)
 f343:=func294.trans (congrArg Z Kr0)
 t0:=underlying0
 a0:=Tryz.isAgg0
 z0:=Tryz.sizeOf0
 v0:=Tryz.zeroValue0
 t3:=underlying3
 a3:=Tryz.isAgg3
 z3:=Tryz.sizeOf3
 v3:=Tryz.zeroValue3
 t4:=underlying4
 a4:=Tryz.isAgg4
 z4:=Tryz.sizeOf4
 v4:=Tryz.zeroValue4
 t5:=underlying5
 a5:=Tryz.isAgg5
 z5:=Tryz.sizeOf5
 v5:=Tryz.zeroValue5
 t9:=underlying9
 a9:=Tryz.isAgg9
 z9:=Tryz.sizeOf9
 v9:=Tryz.zeroValue9
 t28:=underlying88
 a28:=Tryz.isAgg88
 z28:=Tryz.sizeOf88
 v28:=Tryz.zeroValue88
 t46:=underlying277
 a46:=Tryz.isAgg277
 z46:=Tryz.sizeOf277
 v46:=Tryz.zeroValue277
 t51:=underlying165
 a51:=Tryz.isAgg165
 z51:=Tryz.sizeOf165
 v51:=Tryz.zeroValue165
 t53:=underlying166
 a53:=Tryz.isAgg166
 z53:=Tryz.sizeOf166
 v53:=Tryz.zeroValue166
 t131:=underlying237
 a131:=Tryz.isAgg237
 z131:=Tryz.sizeOf237
 v131:=Tryz.zeroValue237
 t182:=underlying330
 a182:=Tryz.isAgg330
 z182:=Tryz.sizeOf330
 v182:=Tryz.zeroValue330
 t183:=underlying331
 a183:=Tryz.isAgg331
 z183:=Tryz.sizeOf331
 v183:=Tryz.zeroValue331
 t218:=underlying341
 a218:=Tryz.isAgg341
 z218:=Tryz.sizeOf341
 v218:=Tryz.zeroValue341
 t222:=underlying317
 a222:=Tryz.isAgg317
 z222:=Tryz.sizeOf317
 v222:=Tryz.zeroValue317
 t228:=underlying346
 a228:=Tryz.isAgg346
 z228:=Tryz.sizeOf346
 v228:=Tryz.zeroValue346
 t229:=underlying347
 a229:=Tryz.isAgg347
 z229:=Tryz.sizeOf347
 v229:=Tryz.zeroValue347 }
open Go.Sort RowKit in
def Tryz.slices_Sort_int (a b cap:Nat) (zs:List Int) (w:World) (c:Holds (Value.int .i64) w a b zs.toArray) (d:a<w.heap.size) (f:zs.length<4611686018427387904) :
  Calls Y 234 #[.slice (Z ⟨a,b,none⟩) zs.length cap] w fun e h=>
   e = .returned (.tuple #[])/\∃ n g,h=grow (putRow (Value.int .i64) (Sort.ahead w n) a b (zs.mergeSort fun x y=>decide (x<=y)).toArray) g:=Any.slices_Sort_int Tryz.lays189 a b cap zs w c d f
def Tryz.lays193_ren:Go.Shelf.Ren:=⟨fun|193=>106|n=>n,fun|31=>37|9=>9|4=>4|3=>3|0=>0|n=>n,fun|n=>n⟩
def Tryz.lays193:Go.Proofs.Lays.n193 Y Tryz.lays193_ren:={
 mixed:=Kr0
 f193:=func106.trans (congrArg Z Kr0)
 t0:=underlying0
 a0:=Tryz.isAgg0
 z0:=Tryz.sizeOf0
 v0:=Tryz.zeroValue0
 t3:=underlying3
 a3:=Tryz.isAgg3
 z3:=Tryz.sizeOf3
 v3:=Tryz.zeroValue3
 t4:=underlying4
 a4:=Tryz.isAgg4
 z4:=Tryz.sizeOf4
 v4:=Tryz.zeroValue4
 t9:=underlying9
 a9:=Tryz.isAgg9
 z9:=Tryz.sizeOf9
 v9:=Tryz.zeroValue9
 t31:=underlying37
 a31:=Tryz.isAgg37
 z31:=Tryz.sizeOf37
 v31:=Tryz.zeroValue37 }
open RowKit Lib in
def Tryz.slices_Equal_string (f h n c g i m d:Nat) (a b:List ByteArray) (w:World) (r:n<=a.length) (hy:m<=b.length) (k:n<=9223372036854775807) (l:m<=9223372036854775807) (o:∀ j,j<a.length->w.cell? ⟨f,h+j,none⟩=Z (.string (a.getD j ByteArray.empty))) (p:∀ j,j<b.length->w.cell? ⟨g,i+j,none⟩=Z (.string (b.getD j ByteArray.empty))) :
  Calls Y 106 #[.slice (Z ⟨f,h,none⟩) n c,.slice (Z ⟨g,i,none⟩) m d] w fun e s=>e = .returned (.bool (decide (a.take n=b.take m)))/\∃ q,s=w.drewN q:=Any.slices_Equal_string Tryz.lays193 f h n c g i m d a b w r hy k l o p
open RowKit Go.Sort in
def Tryz.slices_Sort_int_none (p:Option Addr) (cap:Nat) (w:World) :
  Calls Y 234 #[.slice p 0 cap] w fun e a=>e = .returned (.tuple #[])/\a=w:=Any.slices_Sort_int_none Tryz.lays189 p cap w
end Go.Proofs

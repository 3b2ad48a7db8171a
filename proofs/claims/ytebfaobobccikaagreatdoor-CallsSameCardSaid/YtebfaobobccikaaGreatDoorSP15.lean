/- Steps. -/
import Derived.Shelf.Small.Bits
import Derived.Shelf.Small.Strs
import Derived.Shelf.Small.Wraps
import Derived.Shelf.Strconv.Itoa0
import Derived.Shelf.Strings.Search1
import Derived.Shelf.Sort.Plain
import Derived.Shelf.Slices.Equal
import Derived.Ground.Names2Prog
import Derived.Shelf.Slices.SearchI
import Derived.Shelf.Slices.In.SortNone
import Derived.Shelf.Slices.Empties2
import Derived.Shelf.Bytes.SlSearch0
import Derived.Ground.SlbCloneProg
import Derived.Shelf.Bytes.SlClone
import Derived.Shelf.Bytes.SlEqualAll
import Derived.Shelf.Bytes.Small
import Derived.Test.YtebfaobobccikaaGreatDoorProg
set_option linter.unusedVariables false
set_option linter.unusedSimpArgs false
set_option maxRecDepth 100000
set_option maxHeartbeats 40000000
namespace Go.SL
end Go.SL
open Go.SL
namespace Go.Proofs
open Go.Shelf
def Tryz.lays106_ren:Go.Shelf.Ren:=⟨fun|106=>94|213=>157|265=>213|n=>n,fun|9=>9|3=>3|n=>n,fun|n=>n⟩
theorem Tryz.lays106:Go.Proofs.Lays.n106 Tryz.prog Tryz.lays106_ren:={
 mixed:=by kernel_rfl
 f106:=Tryz.func94.trans (congrArg some (by kernel_rfl))
 f213:=Tryz.func157.trans (congrArg some (by kernel_rfl))
 f265:=Tryz.func213.trans (congrArg some (by kernel_rfl))
 t3:=Tryz.underlying3
 a3:=Tryz.isAgg3
 z3:=Tryz.sizeOf3
 v3:=Tryz.zeroValue3
 t9:=Tryz.underlying9
 a9:=Tryz.isAgg9
 z9:=Tryz.sizeOf9
 v9:=Tryz.zeroValue9 }
open Go.RowKit in
theorem Tryz.strings_Compare (a b:ByteArray) (w:World) :
  Calls Tryz.prog 94 #[.string a,.string b] w fun e w'=>e = .returned (.int .i64 (Lib.compareBytes a.data.toList b.data.toList))∧w'=w:=Any.strings_Compare Tryz.lays106 a b w
def Tryz.lays137_ren:Go.Shelf.Ren:=⟨fun|137=>190|217=>238|266=>265|n=>n,fun|9=>9|5=>5|3=>3|n=>n,fun|n=>n⟩
theorem Tryz.lays137:Go.Proofs.Lays.n137 Tryz.prog Tryz.lays137_ren:={
 mixed:=by kernel_rfl
 f137:=Tryz.func190.trans (congrArg some (by kernel_rfl))
 f217:=Tryz.func238.trans (congrArg some (by kernel_rfl))
 f266:=Tryz.func265.trans (congrArg some (by kernel_rfl))
 t3:=Tryz.underlying3
 a3:=Tryz.isAgg3
 z3:=Tryz.sizeOf3
 v3:=Tryz.zeroValue3
 t5:=Tryz.underlying5
 a5:=Tryz.isAgg5
 z5:=Tryz.sizeOf5
 v5:=Tryz.zeroValue5
 t9:=Tryz.underlying9
 a9:=Tryz.isAgg9
 z9:=Tryz.sizeOf9
 v9:=Tryz.zeroValue9 }
open Go.RowKit in
theorem Tryz.strings_IndexByte (s:ByteArray) (c:Int) (w:World) :
  Calls Tryz.prog 190 #[.string s,.int .u8 c] w fun e w'=>e = .returned (.int .i64 (Lib.indexByte s.data.toList c.toNat.toUInt8))∧w'=w:=Any.strings_IndexByte Tryz.lays137 s c w
def Tryz.lays189_ren:Go.Shelf.Ren:=⟨fun|189=>236|125=>264|257=>263|128=>286|129=>287|294=>277|295=>278|296=>279|297=>280|298=>281|299=>282|216=>283|300=>284|301=>285|328=>290|329=>291|330=>292|331=>293|332=>294|215=>295|343=>296|n=>n,fun|28=>104|3=>3|46=>275|0=>0|51=>165|53=>166|4=>4|183=>329|182=>328|131=>236|5=>5|9=>9|218=>339|222=>315|228=>344|229=>345|n=>n,fun|n=>n⟩
theorem Tryz.lays189:Go.Proofs.Lays.n189 Tryz.prog Tryz.lays189_ren:={
 mixed:=by kernel_rfl
 f125:=Tryz.func264.trans (congrArg some (by kernel_rfl))
 f128:=Tryz.func286.trans (congrArg some (by kernel_rfl))
 f129:=Tryz.func287.trans (congrArg some (by kernel_rfl))
 f189:=Tryz.func236.trans (congrArg some (by kernel_rfl))
 f215:=Tryz.func295.trans (congrArg some (by kernel_rfl))
 f216:=Tryz.func283.trans (congrArg some (by kernel_rfl))
 f257:=Tryz.func263.trans (congrArg some (by kernel_rfl))
 f294:=Tryz.func277.trans (congrArg some (by kernel_rfl))
 f295:=Tryz.func278.trans (congrArg some (by kernel_rfl))
 f296:=Tryz.func279.trans (congrArg some (by kernel_rfl))
 f297:=Tryz.func280.trans (congrArg some (by kernel_rfl))
 f298:=Tryz.func281.trans (congrArg some (by kernel_rfl))
 f299:=Tryz.func282.trans (congrArg some (by kernel_rfl))
 f300:=Tryz.func284.trans (congrArg some (by kernel_rfl))
 f301:=Tryz.func285.trans (congrArg some (by kernel_rfl))
 f328:=Tryz.func290.trans (congrArg some (by kernel_rfl))
 f329:=Tryz.func291.trans (congrArg some (by kernel_rfl))
 f330:=Tryz.func292.trans (congrArg some (by kernel_rfl))
 f331:=Tryz.func293.trans (congrArg some (by kernel_rfl))
 f332:=Tryz.func294.trans (congrArg some (by kernel_rfl))
 f343:=Tryz.func296.trans (congrArg some (by kernel_rfl))
 t0:=Tryz.underlying0
 a0:=Tryz.isAgg0
 z0:=Tryz.sizeOf0
 v0:=Tryz.zeroValue0
 t3:=Tryz.underlying3
 a3:=Tryz.isAgg3
 z3:=Tryz.sizeOf3
 v3:=Tryz.zeroValue3
 t4:=Tryz.underlying4
 a4:=Tryz.isAgg4
 z4:=Tryz.sizeOf4
 v4:=Tryz.zeroValue4
 t5:=Tryz.underlying5
 a5:=Tryz.isAgg5
 z5:=Tryz.sizeOf5
 v5:=Tryz.zeroValue5
 t9:=Tryz.underlying9
 a9:=Tryz.isAgg9
 z9:=Tryz.sizeOf9
 v9:=Tryz.zeroValue9
 t28:=Tryz.underlying104
 a28:=Tryz.isAgg104
 z28:=Tryz.sizeOf104
 v28:=Tryz.zeroValue104
 t46:=Tryz.underlying275
 a46:=Tryz.isAgg275
 z46:=Tryz.sizeOf275
 v46:=Tryz.zeroValue275
 t51:=Tryz.underlying165
 a51:=Tryz.isAgg165
 z51:=Tryz.sizeOf165
 v51:=Tryz.zeroValue165
 t53:=Tryz.underlying166
 a53:=Tryz.isAgg166
 z53:=Tryz.sizeOf166
 v53:=Tryz.zeroValue166
 t131:=Tryz.underlying236
 a131:=Tryz.isAgg236
 z131:=Tryz.sizeOf236
 v131:=Tryz.zeroValue236
 t182:=Tryz.underlying328
 a182:=Tryz.isAgg328
 z182:=Tryz.sizeOf328
 v182:=Tryz.zeroValue328
 t183:=Tryz.underlying329
 a183:=Tryz.isAgg329
 z183:=Tryz.sizeOf329
 v183:=Tryz.zeroValue329
 t218:=Tryz.underlying339
 a218:=Tryz.isAgg339
 z218:=Tryz.sizeOf339
 v218:=Tryz.zeroValue339
 t222:=Tryz.underlying315
 a222:=Tryz.isAgg315
 z222:=Tryz.sizeOf315
 v222:=Tryz.zeroValue315
 t228:=Tryz.underlying344
 a228:=Tryz.isAgg344
 z228:=Tryz.sizeOf344
 v228:=Tryz.zeroValue344
 t229:=Tryz.underlying345
 a229:=Tryz.isAgg345
 z229:=Tryz.sizeOf345
 v229:=Tryz.zeroValue345 }
open Go.Sort Go.RowKit in
theorem Tryz.slices_Sort_int (blk off cap:Nat) (zs:List Int) (w:World) (hH:Holds (Value.int .i64) w blk off zs.toArray) (hblk:blk<w.heap.size) (hsz:zs.length<4611686018427387904) :
  Calls Tryz.prog 236 #[.slice (some ⟨blk,off,none⟩) zs.length cap] w fun e w'=>
   e = .returned (.tuple #[])∧∃ n os,w'=grow (putRow (Value.int .i64) (Sort.ahead w n) blk off (zs.mergeSort fun x y=>decide (x≤y)).toArray) os:=Any.slices_Sort_int Tryz.lays189 blk off cap zs w hH hblk hsz
def Tryz.lays193_ren:Go.Shelf.Ren:=⟨fun|193=>108|n=>n,fun|31=>31|9=>9|4=>4|3=>3|0=>0|n=>n,fun|n=>n⟩
theorem Tryz.lays193:Go.Proofs.Lays.n193 Tryz.prog Tryz.lays193_ren:={
 mixed:=by kernel_rfl
 f193:=Tryz.func108.trans (congrArg some (by kernel_rfl))
 t0:=Tryz.underlying0
 a0:=Tryz.isAgg0
 z0:=Tryz.sizeOf0
 v0:=Tryz.zeroValue0
 t3:=Tryz.underlying3
 a3:=Tryz.isAgg3
 z3:=Tryz.sizeOf3
 v3:=Tryz.zeroValue3
 t4:=Tryz.underlying4
 a4:=Tryz.isAgg4
 z4:=Tryz.sizeOf4
 v4:=Tryz.zeroValue4
 t9:=Tryz.underlying9
 a9:=Tryz.isAgg9
 z9:=Tryz.sizeOf9
 v9:=Tryz.zeroValue9
 t31:=Tryz.underlying31
 a31:=Tryz.isAgg31
 z31:=Tryz.sizeOf31
 v31:=Tryz.zeroValue31 }
open Go.RowKit Go.Lib in
theorem Tryz.slices_Equal_string (b1 o1 n c b2 o2 m d:Nat) (xs ys:List ByteArray) (w:World) (hx:n≤xs.length) (hy:m≤ys.length) (hbig:n≤9223372036854775807) (hbig2:m≤9223372036854775807) (hc1:∀ j,j<xs.length→w.cell? ⟨b1,o1+j,none⟩=some (.string (xs.getD j ByteArray.empty))) (hc2:∀ j,j<ys.length→w.cell? ⟨b2,o2+j,none⟩=some (.string (ys.getD j ByteArray.empty))) :
  Calls Tryz.prog 108 #[.slice (some ⟨b1,o1,none⟩) n c,.slice (some ⟨b2,o2,none⟩) m d] w fun e w'=>e = .returned (.bool (decide (xs.take n=ys.take m)))∧∃ q,w'=w.drewN q:=Any.slices_Equal_string Tryz.lays193 b1 o1 n c b2 o2 m d xs ys w hx hy hbig hbig2 hc1 hc2
open Go.RowKit Go.Sort in
theorem Tryz.slices_Sort_int_none (p:Option Addr) (cap:Nat) (w:World) :
  Calls Tryz.prog 236 #[.slice p 0 cap] w fun e w'=>e = .returned (.tuple #[])∧w'=w:=Any.slices_Sort_int_none Tryz.lays189 p cap w
end Go.Proofs

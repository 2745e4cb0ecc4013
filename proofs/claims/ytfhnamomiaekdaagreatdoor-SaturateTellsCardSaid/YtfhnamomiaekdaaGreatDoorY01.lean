/-
  Contracts of the library at this dump, as the shelf lays them, in plain words.
-/
import Derived.Shelf.Small.Bits
import Derived.Shelf.Small.Wraps
import Derived.Shelf.Strconv.Itoa0
import Derived.Shelf.Sort.Plain
import Derived.Shelf.Slices.Turned
import Derived.Shelf.Slices.Equal
import Derived.Ground.Names2Prog
import Derived.Shelf.Slices.Clone
import Derived.Shelf.Slices.CompactI
import Derived.Shelf.Slices.SearchI
import Derived.Shelf.Slices.Cells
import Derived.Shelf.Slices.In.SortNone
import Derived.Shelf.Slices.Empties2
import Derived.Ground.SlgnProg
import Derived.Shelf.SlicesE.Clone
import Derived.Ground.SlsfProg
import Derived.Shelf.SlSortCmp.Insertion
import Derived.Shelf.SlSortCmp.SiftDown1
import Derived.Shelf.SlSortCmp.HeapSort1
import Derived.Shelf.SlSortCmp.Insertion1
import Derived.Shelf.SlSortCmp.Median1
import Derived.Shelf.SlSortCmp.Pivot1
import Derived.Shelf.SlSortCmp.ReverseRange1
import Derived.Shelf.SlSortCmp.PartialInsertion1
import Derived.Shelf.SlSortCmp.PartitionEqual1
import Derived.Shelf.SlSortCmp.Partition1
import Derived.Shelf.SlSortCmp.Pdq1
import Derived.Shelf.SlSortCmp.Whole1
import Derived.Shelf.SlSortCmp.NoneTotal
import Derived.Test.YtfhnamomiaekdaaGreatDoorProg
set_option linter.unusedVariables false
set_option linter.unusedSimpArgs false
namespace Go.Proofs
open Go.Shelf
def Tryz.lays189_ren:Go.Shelf.Ren:=⟨fun|189=>159|125=>213|257=>216|128=>246|129=>247|294=>248|295=>249|296=>250|297=>251|298=>252|299=>253|216=>254|300=>255|301=>256|328=>269|329=>265|330=>266|331=>270|332=>271|215=>214|343=>276|n=>n,fun|28=>33|3=>3|46=>275|0=>0|51=>304|53=>172|4=>4|183=>298|182=>297|131=>289|5=>5|9=>9|218=>320|222=>324|228=>335|229=>268|n=>n,fun|n=>n⟩
theorem Tryz.lays189:Go.Proofs.Lays.n189 Tryz.prog Tryz.lays189_ren:={
 mixed:=by kernel_rfl
 f125:=Tryz.func213.trans (congrArg some (by kernel_rfl))
 f128:=Tryz.func246.trans (congrArg some (by kernel_rfl))
 f129:=Tryz.func247.trans (congrArg some (by kernel_rfl))
 f189:=Tryz.func159.trans (congrArg some (by kernel_rfl))
 f215:=Tryz.func214.trans (congrArg some (by kernel_rfl))
 f216:=Tryz.func254.trans (congrArg some (by kernel_rfl))
 f257:=Tryz.func216.trans (congrArg some (by kernel_rfl))
 f294:=Tryz.func248.trans (congrArg some (by kernel_rfl))
 f295:=Tryz.func249.trans (congrArg some (by kernel_rfl))
 f296:=Tryz.func250.trans (congrArg some (by kernel_rfl))
 f297:=Tryz.func251.trans (congrArg some (by kernel_rfl))
 f298:=Tryz.func252.trans (congrArg some (by kernel_rfl))
 f299:=Tryz.func253.trans (congrArg some (by kernel_rfl))
 f300:=Tryz.func255.trans (congrArg some (by kernel_rfl))
 f301:=Tryz.func256.trans (congrArg some (by kernel_rfl))
 f328:=Tryz.func269.trans (congrArg some (by kernel_rfl))
 f329:=Tryz.func265.trans (congrArg some (by kernel_rfl))
 f330:=Tryz.func266.trans (congrArg some (by kernel_rfl))
 f331:=Tryz.func270.trans (congrArg some (by kernel_rfl))
 f332:=Tryz.func271.trans (congrArg some (by kernel_rfl))
 f343:=Tryz.func276.trans (congrArg some (by kernel_rfl))
 t0:=Tryz.underlying0
 a0:=Tryz.isAgg0
 z0:=Tryz.sizeOf0
 v0:=Tryz.zeroValue0
 t3:=Tryz.underlying3
 a3:=Tryz.isAgg3
 z3:=Tryz.sizeOf3
 v3:=Tryz.zeroValue3
 t4:=Tryz.underlying4
 a4:=Tryz.isAgg4
 z4:=Tryz.sizeOf4
 v4:=Tryz.zeroValue4
 t5:=Tryz.underlying5
 a5:=Tryz.isAgg5
 z5:=Tryz.sizeOf5
 v5:=Tryz.zeroValue5
 t9:=Tryz.underlying9
 a9:=Tryz.isAgg9
 z9:=Tryz.sizeOf9
 v9:=Tryz.zeroValue9
 t28:=Tryz.underlying33
 a28:=Tryz.isAgg33
 z28:=Tryz.sizeOf33
 v28:=Tryz.zeroValue33
 t46:=Tryz.underlying275
 a46:=Tryz.isAgg275
 z46:=Tryz.sizeOf275
 v46:=Tryz.zeroValue275
 t51:=Tryz.underlying304
 a51:=Tryz.isAgg304
 z51:=Tryz.sizeOf304
 v51:=Tryz.zeroValue304
 t53:=Tryz.underlying172
 a53:=Tryz.isAgg172
 z53:=Tryz.sizeOf172
 v53:=Tryz.zeroValue172
 t131:=Tryz.underlying289
 a131:=Tryz.isAgg289
 z131:=Tryz.sizeOf289
 v131:=Tryz.zeroValue289
 t182:=Tryz.underlying297
 a182:=Tryz.isAgg297
 z182:=Tryz.sizeOf297
 v182:=Tryz.zeroValue297
 t183:=Tryz.underlying298
 a183:=Tryz.isAgg298
 z183:=Tryz.sizeOf298
 v183:=Tryz.zeroValue298
 t218:=Tryz.underlying320
 a218:=Tryz.isAgg320
 z218:=Tryz.sizeOf320
 v218:=Tryz.zeroValue320
 t222:=Tryz.underlying324
 a222:=Tryz.isAgg324
 z222:=Tryz.sizeOf324
 v222:=Tryz.zeroValue324
 t228:=Tryz.underlying335
 a228:=Tryz.isAgg335
 z228:=Tryz.sizeOf335
 v228:=Tryz.zeroValue335
 t229:=Tryz.underlying268
 a229:=Tryz.isAgg268
 z229:=Tryz.sizeOf268
 v229:=Tryz.zeroValue268}
open Go.Sort Go.RowKit in
theorem Tryz.slices_Sort_int(blk off cap:Nat)(zs:List Int)(w:World)(hH:Holds (Value.int .i64) w blk off zs.toArray)(hblk:blk<w.heap.size)(hsz:zs.length<4611686018427387904):
 Calls Tryz.prog 159 #[.slice (some ⟨blk,off,none⟩) zs.length cap] w fun e w'=>
  e= .returned (.tuple #[])∧∃n os,w'=grow (putRow (Value.int .i64) (Sort.ahead w n) blk off (zs.mergeSort fun x y=>decide (x≤y)).toArray) os:=Any.slices_Sort_int Tryz.lays189 blk off cap zs w hH hblk hsz
def Tryz.laysNm220_ren:Go.Shelf.Ren:=⟨fun|20=>184|n=>n,fun|22=>33|3=>3|4=>4|0=>0|n=>n,fun|n=>n⟩
theorem Tryz.laysNm220:Go.Proofs.Lays2.n20 Tryz.prog Tryz.laysNm220_ren:={
 mixed:=by kernel_rfl
 f20:=Tryz.func184.trans (congrArg some (by kernel_rfl))
 t0:=Tryz.underlying0
 a0:=Tryz.isAgg0
 z0:=Tryz.sizeOf0
 v0:=Tryz.zeroValue0
 t3:=Tryz.underlying3
 a3:=Tryz.isAgg3
 z3:=Tryz.sizeOf3
 v3:=Tryz.zeroValue3
 t4:=Tryz.underlying4
 a4:=Tryz.isAgg4
 z4:=Tryz.sizeOf4
 v4:=Tryz.zeroValue4
 t22:=Tryz.underlying33
 a22:=Tryz.isAgg33
 z22:=Tryz.sizeOf33
 v22:=Tryz.zeroValue33
 i3:=by kernel_rfl}
open Go.RowKit Go.Lib Go.Sort in
theorem Tryz.slices_Compact_int(blk off cap:Nat)(zs:List Int)(w:World)(hH:Holds (Value.int .i64) w blk off zs.toArray)(hsz:zs.length≤9223372036854775807)(hcap:zs.length≤cap):
 Calls Tryz.prog 184 #[.slice (some ⟨blk,off,none⟩) zs.length cap] w fun e w'=>e= .returned (.slice (some ⟨blk,off,none⟩) (Lib.compact zs).length cap)∧∃q,w'=putRow (Value.int .i64) (Sort.ahead w q) blk off (Lib.compact zs++List.replicate (zs.length-(Lib.compact zs).length) 0).toArray:=Any.slices_Compact_int Tryz.laysNm220 blk off cap zs w hH hsz hcap
open Go.RowKit Go.Lib Go.Sort in
theorem Tryz.slices_Compact_int_empty(a:Option Addr)(cap:Nat)(w:World):
 Calls Tryz.prog 184 #[.slice a 0 cap] w fun e w'=>e= .returned (.slice a 0 cap)∧w'=w:=Any.slices_Compact_int_empty Tryz.laysNm220 a cap w
open Go.RowKit Go.Sort in
theorem Tryz.slices_Sort_int_none(p:Option Addr)(cap:Nat)(w:World):
 Calls Tryz.prog 159 #[.slice p 0 cap] w fun e w'=>e= .returned (.tuple #[])∧w'=w:=Any.slices_Sort_int_none Tryz.lays189 p cap w
end Go.Proofs

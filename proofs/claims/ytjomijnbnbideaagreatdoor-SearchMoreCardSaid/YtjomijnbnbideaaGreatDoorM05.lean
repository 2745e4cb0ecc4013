/-
  Contracts of the library at this dump, as the shelf lays them, in plain words.
-/
import Derived.Shelf.Small.Bits
import Derived.Shelf.Strconv.Itoa0
import Derived.Shelf.Sort.Plain
import Derived.Shelf.Slices.Turned
import Derived.Ground.Names2Prog
import Derived.Shelf.Slices.Clone
import Derived.Shelf.Slices.CompactI
import Derived.Shelf.Slices.SearchI
import Derived.Shelf.Slices.Cells
import Derived.Shelf.Slices.In.SortNone
import Derived.Test.YtjomijnbnbideaaGreatDoorProg
set_option linter.unusedVariables false
set_option linter.unusedSimpArgs false
namespace Go.Proofs
open Go.Shelf
def Tryz.lays189_ren : Go.Shelf.Ren := ⟨fun | 189 => 153 | 125 => 202 | 257 => 201 | 128 => 235 | 129 => 236 | 294 => 226 | 295 => 227 | 296 => 228 | 297 => 229 | 298 => 230 | 299 => 231 | 216 => 232 | 300 => 233 | 301 => 234 | 328 => 245 | 329 => 246 | 330 => 247 | 331 => 248 | 332 => 249 | 215 => 250 | 343 => 252 | n => n, fun | 28 => 27 | 3 => 3 | 46 => 249 | 0 => 0 | 51 => 283 | 53 => 145 | 4 => 4 | 183 => 277 | 182 => 276 | 131 => 262 | 5 => 5 | 9 => 9 | 218 => 292 | 222 => 296 | 228 => 300 | 229 => 253 | n => n, fun | n => n⟩
theorem Tryz.lays189 : Go.Proofs.Lays.n189 Tryz.prog Tryz.lays189_ren := {
  mixed := by kernel_rfl
  f125 := Tryz.func202.trans (congrArg some (by kernel_rfl))
  f128 := Tryz.func235.trans (congrArg some (by kernel_rfl))
  f129 := Tryz.func236.trans (congrArg some (by kernel_rfl))
  f189 := Tryz.func153.trans (congrArg some (by kernel_rfl))
  f215 := Tryz.func250.trans (congrArg some (by kernel_rfl))
  f216 := Tryz.func232.trans (congrArg some (by kernel_rfl))
  f257 := Tryz.func201.trans (congrArg some (by kernel_rfl))
  f294 := Tryz.func226.trans (congrArg some (by kernel_rfl))
  f295 := Tryz.func227.trans (congrArg some (by kernel_rfl))
  f296 := Tryz.func228.trans (congrArg some (by kernel_rfl))
  f297 := Tryz.func229.trans (congrArg some (by kernel_rfl))
  f298 := Tryz.func230.trans (congrArg some (by kernel_rfl))
  f299 := Tryz.func231.trans (congrArg some (by kernel_rfl))
  f300 := Tryz.func233.trans (congrArg some (by kernel_rfl))
  f301 := Tryz.func234.trans (congrArg some (by kernel_rfl))
  f328 := Tryz.func245.trans (congrArg some (by kernel_rfl))
  f329 := Tryz.func246.trans (congrArg some (by kernel_rfl))
  f330 := Tryz.func247.trans (congrArg some (by kernel_rfl))
  f331 := Tryz.func248.trans (congrArg some (by kernel_rfl))
  f332 := Tryz.func249.trans (congrArg some (by kernel_rfl))
  f343 := Tryz.func252.trans (congrArg some (by kernel_rfl))
  t0 := Tryz.underlying0
  a0 := Tryz.isAgg0
  z0 := Tryz.sizeOf0
  v0 := Tryz.zeroValue0
  t3 := Tryz.underlying3
  a3 := Tryz.isAgg3
  z3 := Tryz.sizeOf3
  v3 := Tryz.zeroValue3
  t4 := Tryz.underlying4
  a4 := Tryz.isAgg4
  z4 := Tryz.sizeOf4
  v4 := Tryz.zeroValue4
  t5 := Tryz.underlying5
  a5 := Tryz.isAgg5
  z5 := Tryz.sizeOf5
  v5 := Tryz.zeroValue5
  t9 := Tryz.underlying9
  a9 := Tryz.isAgg9
  z9 := Tryz.sizeOf9
  v9 := Tryz.zeroValue9
  t28 := Tryz.underlying27
  a28 := Tryz.isAgg27
  z28 := Tryz.sizeOf27
  v28 := Tryz.zeroValue27
  t46 := Tryz.underlying249
  a46 := Tryz.isAgg249
  z46 := Tryz.sizeOf249
  v46 := Tryz.zeroValue249
  t51 := Tryz.underlying283
  a51 := Tryz.isAgg283
  z51 := Tryz.sizeOf283
  v51 := Tryz.zeroValue283
  t53 := Tryz.underlying145
  a53 := Tryz.isAgg145
  z53 := Tryz.sizeOf145
  v53 := Tryz.zeroValue145
  t131 := Tryz.underlying262
  a131 := Tryz.isAgg262
  z131 := Tryz.sizeOf262
  v131 := Tryz.zeroValue262
  t182 := Tryz.underlying276
  a182 := Tryz.isAgg276
  z182 := Tryz.sizeOf276
  v182 := Tryz.zeroValue276
  t183 := Tryz.underlying277
  a183 := Tryz.isAgg277
  z183 := Tryz.sizeOf277
  v183 := Tryz.zeroValue277
  t218 := Tryz.underlying292
  a218 := Tryz.isAgg292
  z218 := Tryz.sizeOf292
  v218 := Tryz.zeroValue292
  t222 := Tryz.underlying296
  a222 := Tryz.isAgg296
  z222 := Tryz.sizeOf296
  v222 := Tryz.zeroValue296
  t228 := Tryz.underlying300
  a228 := Tryz.isAgg300
  z228 := Tryz.sizeOf300
  v228 := Tryz.zeroValue300
  t229 := Tryz.underlying253
  a229 := Tryz.isAgg253
  z229 := Tryz.sizeOf253
  v229 := Tryz.zeroValue253 }
open Go.Sort Go.RowKit in
theorem Tryz.slices_Sort_int (blk off cap : Nat) (zs : List Int) (w : World) (hH : Holds (Value.int .i64) w blk off zs.toArray) (hblk : blk < w.heap.size) (hsz : zs.length < 4611686018427387904) :
    Calls Tryz.prog 153 #[.slice (some ⟨blk, off, none⟩) zs.length cap] w fun e w' =>
      e = .returned (.tuple #[]) ∧ ∃ n os, w' = grow (putRow (Value.int .i64) (Sort.ahead w n) blk off (zs.mergeSort fun x y => decide (x ≤ y)).toArray) os := Any.slices_Sort_int Tryz.lays189 blk off cap zs w hH hblk hsz
def Tryz.laysNm220_ren : Go.Shelf.Ren := ⟨fun | 20 => 154 | n => n, fun | 22 => 27 | 3 => 3 | 4 => 4 | 0 => 0 | n => n, fun | n => n⟩
theorem Tryz.laysNm220 : Go.Proofs.Lays2.n20 Tryz.prog Tryz.laysNm220_ren := {
  mixed := by kernel_rfl
  f20 := Tryz.func154.trans (congrArg some (by kernel_rfl))
  t0 := Tryz.underlying0
  a0 := Tryz.isAgg0
  z0 := Tryz.sizeOf0
  v0 := Tryz.zeroValue0
  t3 := Tryz.underlying3
  a3 := Tryz.isAgg3
  z3 := Tryz.sizeOf3
  v3 := Tryz.zeroValue3
  t4 := Tryz.underlying4
  a4 := Tryz.isAgg4
  z4 := Tryz.sizeOf4
  v4 := Tryz.zeroValue4
  t22 := Tryz.underlying27
  a22 := Tryz.isAgg27
  z22 := Tryz.sizeOf27
  v22 := Tryz.zeroValue27
  i3 := by kernel_rfl }
open Go.RowKit Go.Lib Go.Sort in
theorem Tryz.slices_Compact_int (blk off cap : Nat) (zs : List Int) (w : World) (hH : Holds (Value.int .i64) w blk off zs.toArray) (hsz : zs.length ≤ 9223372036854775807) (hcap : zs.length ≤ cap) :
    Calls Tryz.prog 154 #[.slice (some ⟨blk, off, none⟩) zs.length cap] w fun e w' => e = .returned (.slice (some ⟨blk, off, none⟩) (Lib.compact zs).length cap) ∧ ∃ q, w' = putRow (Value.int .i64) (Sort.ahead w q) blk off (Lib.compact zs ++ List.replicate (zs.length - (Lib.compact zs).length) 0).toArray := Any.slices_Compact_int Tryz.laysNm220 blk off cap zs w hH hsz hcap
open Go.RowKit Go.Lib Go.Sort in
theorem Tryz.slices_Compact_int_empty (a : Option Addr) (cap : Nat) (w : World) :
    Calls Tryz.prog 154 #[.slice a 0 cap] w fun e w' => e = .returned (.slice a 0 cap) ∧ w' = w := Any.slices_Compact_int_empty Tryz.laysNm220 a cap w
open Go.RowKit Go.Sort in
theorem Tryz.slices_Sort_int_none (p : Option Addr) (cap : Nat) (w : World) :
    Calls Tryz.prog 153 #[.slice p 0 cap] w fun e w' => e = .returned (.tuple #[]) ∧ w' = w := Any.slices_Sort_int_none Tryz.lays189 p cap w
end Go.Proofs

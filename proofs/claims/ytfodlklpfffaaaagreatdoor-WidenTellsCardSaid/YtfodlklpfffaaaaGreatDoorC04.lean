/-
  Contracts of the library at this dump, as the shelf lays them, in plain words.
-/
import Derived.Shelf.Small.Bits
import Derived.Shelf.Strconv.Itoa0
import Derived.Shelf.Sort.Plain
import Derived.Shelf.Slices.Turned
import Derived.Ground.Names2Prog
import Derived.Shelf.Slices.Clone
import Derived.Shelf.Slices.CompactI
import Derived.Shelf.Slices.SearchI
import Derived.Shelf.Slices.Cells
import Derived.Shelf.Slices.In.SortNone
import Derived.Ground.SlgnProg
import Derived.Shelf.SlicesE.Clone
import Derived.Test.YtfodlklpfffaaaaGreatDoorProg
set_option linter.unusedVariables false
set_option linter.unusedSimpArgs false
namespace Go.Proofs
open Go.Shelf
def Tryz.lays189_ren : Go.Shelf.Ren := ⟨fun | 189 => 118 | 125 => 128 | 257 => 127 | 128 => 139 | 129 => 140 | 294 => 130 | 295 => 131 | 296 => 132 | 297 => 133 | 298 => 134 | 299 => 135 | 216 => 136 | 300 => 137 | 301 => 138 | 328 => 141 | 329 => 142 | 330 => 143 | 331 => 144 | 332 => 145 | 215 => 146 | 343 => 147 | n => n, fun | 28 => 25 | 3 => 3 | 46 => 163 | 0 => 0 | 51 => 175 | 53 => 101 | 4 => 4 | 183 => 169 | 182 => 168 | 131 => 153 | 5 => 5 | 9 => 9 | 218 => 176 | 222 => 180 | 228 => 182 | 229 => 183 | n => n, fun | n => n⟩
theorem Tryz.lays189 : Go.Proofs.Lays.n189 Tryz.prog Tryz.lays189_ren := {
  mixed := by kernel_rfl
  f125 := Tryz.func128.trans (congrArg some (by kernel_rfl))
  f128 := Tryz.func139.trans (congrArg some (by kernel_rfl))
  f129 := Tryz.func140.trans (congrArg some (by kernel_rfl))
  f189 := Tryz.func118.trans (congrArg some (by kernel_rfl))
  f215 := Tryz.func146.trans (congrArg some (by kernel_rfl))
  f216 := Tryz.func136.trans (congrArg some (by kernel_rfl))
  f257 := Tryz.func127.trans (congrArg some (by kernel_rfl))
  f294 := Tryz.func130.trans (congrArg some (by kernel_rfl))
  f295 := Tryz.func131.trans (congrArg some (by kernel_rfl))
  f296 := Tryz.func132.trans (congrArg some (by kernel_rfl))
  f297 := Tryz.func133.trans (congrArg some (by kernel_rfl))
  f298 := Tryz.func134.trans (congrArg some (by kernel_rfl))
  f299 := Tryz.func135.trans (congrArg some (by kernel_rfl))
  f300 := Tryz.func137.trans (congrArg some (by kernel_rfl))
  f301 := Tryz.func138.trans (congrArg some (by kernel_rfl))
  f328 := Tryz.func141.trans (congrArg some (by kernel_rfl))
  f329 := Tryz.func142.trans (congrArg some (by kernel_rfl))
  f330 := Tryz.func143.trans (congrArg some (by kernel_rfl))
  f331 := Tryz.func144.trans (congrArg some (by kernel_rfl))
  f332 := Tryz.func145.trans (congrArg some (by kernel_rfl))
  f343 := Tryz.func147.trans (congrArg some (by kernel_rfl))
  t0 := Tryz.underlying0
  a0 := Tryz.isAgg0
  z0 := Tryz.sizeOf0
  v0 := Tryz.zeroValue0
  t3 := Tryz.underlying3
  a3 := Tryz.isAgg3
  z3 := Tryz.sizeOf3
  v3 := Tryz.zeroValue3
  t4 := Tryz.underlying4
  a4 := Tryz.isAgg4
  z4 := Tryz.sizeOf4
  v4 := Tryz.zeroValue4
  t5 := Tryz.underlying5
  a5 := Tryz.isAgg5
  z5 := Tryz.sizeOf5
  v5 := Tryz.zeroValue5
  t9 := Tryz.underlying9
  a9 := Tryz.isAgg9
  z9 := Tryz.sizeOf9
  v9 := Tryz.zeroValue9
  t28 := Tryz.underlying25
  a28 := Tryz.isAgg25
  z28 := Tryz.sizeOf25
  v28 := Tryz.zeroValue25
  t46 := Tryz.underlying163
  a46 := Tryz.isAgg163
  z46 := Tryz.sizeOf163
  v46 := Tryz.zeroValue163
  t51 := Tryz.underlying175
  a51 := Tryz.isAgg175
  z51 := Tryz.sizeOf175
  v51 := Tryz.zeroValue175
  t53 := Tryz.underlying101
  a53 := Tryz.isAgg101
  z53 := Tryz.sizeOf101
  v53 := Tryz.zeroValue101
  t131 := Tryz.underlying153
  a131 := Tryz.isAgg153
  z131 := Tryz.sizeOf153
  v131 := Tryz.zeroValue153
  t182 := Tryz.underlying168
  a182 := Tryz.isAgg168
  z182 := Tryz.sizeOf168
  v182 := Tryz.zeroValue168
  t183 := Tryz.underlying169
  a183 := Tryz.isAgg169
  z183 := Tryz.sizeOf169
  v183 := Tryz.zeroValue169
  t218 := Tryz.underlying176
  a218 := Tryz.isAgg176
  z218 := Tryz.sizeOf176
  v218 := Tryz.zeroValue176
  t222 := Tryz.underlying180
  a222 := Tryz.isAgg180
  z222 := Tryz.sizeOf180
  v222 := Tryz.zeroValue180
  t228 := Tryz.underlying182
  a228 := Tryz.isAgg182
  z228 := Tryz.sizeOf182
  v228 := Tryz.zeroValue182
  t229 := Tryz.underlying183
  a229 := Tryz.isAgg183
  z229 := Tryz.sizeOf183
  v229 := Tryz.zeroValue183 }
open Go.Sort Go.RowKit in
theorem Tryz.slices_Sort_int (blk off cap : Nat) (zs : List Int) (w : World) (hH : Holds (Value.int .i64) w blk off zs.toArray) (hblk : blk < w.heap.size) (hsz : zs.length < 4611686018427387904) :
    Calls Tryz.prog 118 #[.slice (some ⟨blk, off, none⟩) zs.length cap] w fun e w' =>
      e = .returned (.tuple #[]) ∧ ∃ n os, w' = grow (putRow (Value.int .i64) (Sort.ahead w n) blk off (zs.mergeSort fun x y => decide (x ≤ y)).toArray) os := Any.slices_Sort_int Tryz.lays189 blk off cap zs w hH hblk hsz
def Tryz.laysNm220_ren : Go.Shelf.Ren := ⟨fun | 20 => 119 | n => n, fun | 22 => 25 | 3 => 3 | 4 => 4 | 0 => 0 | n => n, fun | n => n⟩
theorem Tryz.laysNm220 : Go.Proofs.Lays2.n20 Tryz.prog Tryz.laysNm220_ren := {
  mixed := by kernel_rfl
  f20 := Tryz.func119.trans (congrArg some (by kernel_rfl))
  t0 := Tryz.underlying0
  a0 := Tryz.isAgg0
  z0 := Tryz.sizeOf0
  v0 := Tryz.zeroValue0
  t3 := Tryz.underlying3
  a3 := Tryz.isAgg3
  z3 := Tryz.sizeOf3
  v3 := Tryz.zeroValue3
  t4 := Tryz.underlying4
  a4 := Tryz.isAgg4
  z4 := Tryz.sizeOf4
  v4 := Tryz.zeroValue4
  t22 := Tryz.underlying25
  a22 := Tryz.isAgg25
  z22 := Tryz.sizeOf25
  v22 := Tryz.zeroValue25
  i3 := by kernel_rfl }
open Go.RowKit Go.Lib Go.Sort in
theorem Tryz.slices_Compact_int (blk off cap : Nat) (zs : List Int) (w : World) (hH : Holds (Value.int .i64) w blk off zs.toArray) (hsz : zs.length ≤ 9223372036854775807) (hcap : zs.length ≤ cap) :
    Calls Tryz.prog 119 #[.slice (some ⟨blk, off, none⟩) zs.length cap] w fun e w' => e = .returned (.slice (some ⟨blk, off, none⟩) (Lib.compact zs).length cap) ∧ ∃ q, w' = putRow (Value.int .i64) (Sort.ahead w q) blk off (Lib.compact zs ++ List.replicate (zs.length - (Lib.compact zs).length) 0).toArray := Any.slices_Compact_int Tryz.laysNm220 blk off cap zs w hH hsz hcap
open Go.RowKit Go.Lib Go.Sort in
theorem Tryz.slices_Compact_int_empty (a : Option Addr) (cap : Nat) (w : World) :
    Calls Tryz.prog 119 #[.slice a 0 cap] w fun e w' => e = .returned (.slice a 0 cap) ∧ w' = w := Any.slices_Compact_int_empty Tryz.laysNm220 a cap w
open Go.RowKit Go.Sort in
theorem Tryz.slices_Sort_int_none (p : Option Addr) (cap : Nat) (w : World) :
    Calls Tryz.prog 118 #[.slice p 0 cap] w fun e w' => e = .returned (.tuple #[]) ∧ w' = w := Any.slices_Sort_int_none Tryz.lays189 p cap w
end Go.Proofs

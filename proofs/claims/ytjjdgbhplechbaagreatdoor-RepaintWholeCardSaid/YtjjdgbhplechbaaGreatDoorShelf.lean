/- The library's contracts of slices.Sort and slices.Compact at []int, laid at this program by the shelf's tool. -/
import Derived.Shelf.Sort.Plain
import Derived.Ground.Names2Prog
import Derived.Shelf.Slices.CompactI
import Derived.Shelf.Slices.SearchI
import Derived.Shelf.Slices.Cells
import Derived.Shelf.Slices.In.SortNone
import Derived.Test.YtjjdgbhplechbaaGreatDoorProg
namespace Go.Proofs
open Go.Shelf
def Tryz.lays189_ren : Go.Shelf.Ren := ⟨fun | 189 => 95 | 125 => 99 | 257 => 98 | 128 => 111 | 129 => 112 | 294 => 102 | 295 => 103 | 296 => 104 | 297 => 105 | 298 => 106 | 299 => 107 | 216 => 108 | 300 => 109 | 301 => 110 | 328 => 114 | 329 => 115 | 330 => 116 | 331 => 117 | 332 => 118 | 215 => 119 | 343 => 120 | n => n, fun | 28 => 96 | 3 => 3 | 46 => 108 | 0 => 0 | 51 => 22 | 53 => 122 | 4 => 4 | 183 => 147 | 182 => 146 | 131 => 151 | 5 => 5 | 9 => 9 | 218 => 156 | 222 => 160 | 228 => 162 | 229 => 65 | n => n, fun | n => n⟩
theorem Tryz.lays189 : Go.Proofs.Lays.n189 Tryz.prog Tryz.lays189_ren := {
  mixed := by kernel_rfl
  f125 := Tryz.func99.trans (congrArg some (by kernel_rfl))
  f128 := Tryz.func111.trans (congrArg some (by kernel_rfl))
  f129 := Tryz.func112.trans (congrArg some (by kernel_rfl))
  f189 := Tryz.func95.trans (congrArg some (by kernel_rfl))
  f215 := Tryz.func119.trans (congrArg some (by kernel_rfl))
  f216 := Tryz.func108.trans (congrArg some (by kernel_rfl))
  f257 := Tryz.func98.trans (congrArg some (by kernel_rfl))
  f294 := Tryz.func102.trans (congrArg some (by kernel_rfl))
  f295 := Tryz.func103.trans (congrArg some (by kernel_rfl))
  f296 := Tryz.func104.trans (congrArg some (by kernel_rfl))
  f297 := Tryz.func105.trans (congrArg some (by kernel_rfl))
  f298 := Tryz.func106.trans (congrArg some (by kernel_rfl))
  f299 := Tryz.func107.trans (congrArg some (by kernel_rfl))
  f300 := Tryz.func109.trans (congrArg some (by kernel_rfl))
  f301 := Tryz.func110.trans (congrArg some (by kernel_rfl))
  f328 := Tryz.func114.trans (congrArg some (by kernel_rfl))
  f329 := Tryz.func115.trans (congrArg some (by kernel_rfl))
  f330 := Tryz.func116.trans (congrArg some (by kernel_rfl))
  f331 := Tryz.func117.trans (congrArg some (by kernel_rfl))
  f332 := Tryz.func118.trans (congrArg some (by kernel_rfl))
  f343 := Tryz.func120.trans (congrArg some (by kernel_rfl))
  t0 := Tryz.underlying0
  a0 := Tryz.isAgg0
  z0 := Tryz.sizeOf0
  v0 := Tryz.zeroValue0
  t3 := Tryz.underlying3
  a3 := Tryz.isAgg3
  z3 := Tryz.sizeOf3
  v3 := Tryz.zeroValue3
  t4 := Tryz.underlying4
  a4 := Tryz.isAgg4
  z4 := Tryz.sizeOf4
  v4 := Tryz.zeroValue4
  t5 := Tryz.underlying5
  a5 := Tryz.isAgg5
  z5 := Tryz.sizeOf5
  v5 := Tryz.zeroValue5
  t9 := Tryz.underlying9
  a9 := Tryz.isAgg9
  z9 := Tryz.sizeOf9
  v9 := Tryz.zeroValue9
  t28 := Tryz.underlying96
  a28 := Tryz.isAgg96
  z28 := Tryz.sizeOf96
  v28 := Tryz.zeroValue96
  t46 := Tryz.underlying108
  a46 := Tryz.isAgg108
  z46 := Tryz.sizeOf108
  v46 := Tryz.zeroValue108
  t51 := Tryz.underlying22
  a51 := Tryz.isAgg22
  z51 := Tryz.sizeOf22
  v51 := Tryz.zeroValue22
  t53 := Tryz.underlying122
  a53 := Tryz.isAgg122
  z53 := Tryz.sizeOf122
  v53 := Tryz.zeroValue122
  t131 := Tryz.underlying151
  a131 := Tryz.isAgg151
  z131 := Tryz.sizeOf151
  v131 := Tryz.zeroValue151
  t182 := Tryz.underlying146
  a182 := Tryz.isAgg146
  z182 := Tryz.sizeOf146
  v182 := Tryz.zeroValue146
  t183 := Tryz.underlying147
  a183 := Tryz.isAgg147
  z183 := Tryz.sizeOf147
  v183 := Tryz.zeroValue147
  t218 := Tryz.underlying156
  a218 := Tryz.isAgg156
  z218 := Tryz.sizeOf156
  v218 := Tryz.zeroValue156
  t222 := Tryz.underlying160
  a222 := Tryz.isAgg160
  z222 := Tryz.sizeOf160
  v222 := Tryz.zeroValue160
  t228 := Tryz.underlying162
  a228 := Tryz.isAgg162
  z228 := Tryz.sizeOf162
  v228 := Tryz.zeroValue162
  t229 := Tryz.underlying65
  a229 := Tryz.isAgg65
  z229 := Tryz.sizeOf65
  v229 := Tryz.zeroValue65 }
def Tryz.laysNm220_ren : Go.Shelf.Ren := ⟨fun | 20 => 96 | n => n, fun | 22 => 96 | 3 => 3 | 4 => 4 | 0 => 0 | n => n, fun | n => n⟩
theorem Tryz.laysNm220 : Go.Proofs.Lays2.n20 Tryz.prog Tryz.laysNm220_ren := {
  mixed := by kernel_rfl
  f20 := Tryz.func96.trans (congrArg some (by kernel_rfl))
  t0 := Tryz.underlying0
  a0 := Tryz.isAgg0
  z0 := Tryz.sizeOf0
  v0 := Tryz.zeroValue0
  t3 := Tryz.underlying3
  a3 := Tryz.isAgg3
  z3 := Tryz.sizeOf3
  v3 := Tryz.zeroValue3
  t4 := Tryz.underlying4
  a4 := Tryz.isAgg4
  z4 := Tryz.sizeOf4
  v4 := Tryz.zeroValue4
  t22 := Tryz.underlying96
  a22 := Tryz.isAgg96
  z22 := Tryz.sizeOf96
  v22 := Tryz.zeroValue96
  i3 := by kernel_rfl }
open Go.Sort Go.RowKit in
theorem Tryz.slices_Sort_int (blk off cap : Nat) (zs : List Int) (w : World) (hH : Holds (Value.int .i64) w blk off zs.toArray) (hblk : blk < w.heap.size) (hsz : zs.length < 4611686018427387904) :
    Calls Tryz.prog 95 #[.slice (some ⟨blk, off, none⟩) zs.length cap] w fun e w' =>
      e = .returned (.tuple #[]) ∧ ∃ n os, w' = grow (putRow (Value.int .i64) (Sort.ahead w n) blk off (zs.mergeSort fun x y => decide (x ≤ y)).toArray) os := Any.slices_Sort_int Tryz.lays189 blk off cap zs w hH hblk hsz
open Go.RowKit Go.Lib Go.Sort in
theorem Tryz.slices_Compact_int (blk off cap : Nat) (zs : List Int) (w : World) (hH : Holds (Value.int .i64) w blk off zs.toArray) (hsz : zs.length ≤ 9223372036854775807) (hcap : zs.length ≤ cap) :
    Calls Tryz.prog 96 #[.slice (some ⟨blk, off, none⟩) zs.length cap] w fun e w' => e = .returned (.slice (some ⟨blk, off, none⟩) (Lib.compact zs).length cap) ∧ ∃ q, w' = putRow (Value.int .i64) (Sort.ahead w q) blk off (Lib.compact zs ++ List.replicate (zs.length - (Lib.compact zs).length) 0).toArray := Any.slices_Compact_int Tryz.laysNm220 blk off cap zs w hH hsz hcap
open Go.RowKit Go.Lib Go.Sort in
theorem Tryz.slices_Compact_int_empty (a : Option Addr) (cap : Nat) (w : World) :
    Calls Tryz.prog 96 #[.slice a 0 cap] w fun e w' => e = .returned (.slice a 0 cap) ∧ w' = w := Any.slices_Compact_int_empty Tryz.laysNm220 a cap w
open Go.RowKit Go.Sort in
theorem Tryz.slices_Sort_int_none (p : Option Addr) (cap : Nat) (w : World) :
    Calls Tryz.prog 95 #[.slice p 0 cap] w fun e w' => e = .returned (.tuple #[]) ∧ w' = w := Any.slices_Sort_int_none Tryz.lays189 p cap w
end Go.Proofs

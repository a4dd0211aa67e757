/- The library's contracts of slices.Sort and slices.Compact at []int, laid at this program by the shelf's tool. -/
import Derived.Shelf.Sort.Plain
import Derived.Ground.Names2Prog
import Derived.Shelf.Slices.CompactI
import Derived.Shelf.Slices.SearchI
import Derived.Shelf.Slices.Cells
import Derived.Shelf.Slices.In.SortNone
import Derived.Test.YtjjdgbhplechbaaDoorProg
namespace Go.Proofs
open Go.Shelf
def Tryd.lays189_ren : Go.Shelf.Ren := ⟨fun | 189 => 110 | 125 => 114 | 257 => 113 | 128 => 126 | 129 => 127 | 294 => 117 | 295 => 118 | 296 => 119 | 297 => 120 | 298 => 121 | 299 => 122 | 216 => 123 | 300 => 124 | 301 => 125 | 328 => 129 | 329 => 130 | 330 => 131 | 331 => 132 | 332 => 133 | 215 => 134 | 343 => 135 | n => n, fun | 28 => 154 | 3 => 3 | 46 => 95 | 0 => 0 | 51 => 22 | 53 => 143 | 4 => 4 | 183 => 176 | 182 => 175 | 131 => 180 | 5 => 5 | 9 => 9 | 218 => 185 | 222 => 189 | 228 => 191 | 229 => 45 | n => n, fun | n => n⟩
theorem Tryd.lays189 : Go.Proofs.Lays.n189 Tryd.prog Tryd.lays189_ren := {
  mixed := by kernel_rfl
  f125 := Tryd.func114.trans (congrArg some (by kernel_rfl))
  f128 := Tryd.func126.trans (congrArg some (by kernel_rfl))
  f129 := Tryd.func127.trans (congrArg some (by kernel_rfl))
  f189 := Tryd.func110.trans (congrArg some (by kernel_rfl))
  f215 := Tryd.func134.trans (congrArg some (by kernel_rfl))
  f216 := Tryd.func123.trans (congrArg some (by kernel_rfl))
  f257 := Tryd.func113.trans (congrArg some (by kernel_rfl))
  f294 := Tryd.func117.trans (congrArg some (by kernel_rfl))
  f295 := Tryd.func118.trans (congrArg some (by kernel_rfl))
  f296 := Tryd.func119.trans (congrArg some (by kernel_rfl))
  f297 := Tryd.func120.trans (congrArg some (by kernel_rfl))
  f298 := Tryd.func121.trans (congrArg some (by kernel_rfl))
  f299 := Tryd.func122.trans (congrArg some (by kernel_rfl))
  f300 := Tryd.func124.trans (congrArg some (by kernel_rfl))
  f301 := Tryd.func125.trans (congrArg some (by kernel_rfl))
  f328 := Tryd.func129.trans (congrArg some (by kernel_rfl))
  f329 := Tryd.func130.trans (congrArg some (by kernel_rfl))
  f330 := Tryd.func131.trans (congrArg some (by kernel_rfl))
  f331 := Tryd.func132.trans (congrArg some (by kernel_rfl))
  f332 := Tryd.func133.trans (congrArg some (by kernel_rfl))
  f343 := Tryd.func135.trans (congrArg some (by kernel_rfl))
  t0 := Tryd.underlying0
  a0 := Tryd.isAgg0
  z0 := Tryd.sizeOf0
  v0 := Tryd.zeroValue0
  t3 := Tryd.underlying3
  a3 := Tryd.isAgg3
  z3 := Tryd.sizeOf3
  v3 := Tryd.zeroValue3
  t4 := Tryd.underlying4
  a4 := Tryd.isAgg4
  z4 := Tryd.sizeOf4
  v4 := Tryd.zeroValue4
  t5 := Tryd.underlying5
  a5 := Tryd.isAgg5
  z5 := Tryd.sizeOf5
  v5 := Tryd.zeroValue5
  t9 := Tryd.underlying9
  a9 := Tryd.isAgg9
  z9 := Tryd.sizeOf9
  v9 := Tryd.zeroValue9
  t28 := Tryd.underlying154
  a28 := Tryd.isAgg154
  z28 := Tryd.sizeOf154
  v28 := Tryd.zeroValue154
  t46 := Tryd.underlying95
  a46 := Tryd.isAgg95
  z46 := Tryd.sizeOf95
  v46 := Tryd.zeroValue95
  t51 := Tryd.underlying22
  a51 := Tryd.isAgg22
  z51 := Tryd.sizeOf22
  v51 := Tryd.zeroValue22
  t53 := Tryd.underlying143
  a53 := Tryd.isAgg143
  z53 := Tryd.sizeOf143
  v53 := Tryd.zeroValue143
  t131 := Tryd.underlying180
  a131 := Tryd.isAgg180
  z131 := Tryd.sizeOf180
  v131 := Tryd.zeroValue180
  t182 := Tryd.underlying175
  a182 := Tryd.isAgg175
  z182 := Tryd.sizeOf175
  v182 := Tryd.zeroValue175
  t183 := Tryd.underlying176
  a183 := Tryd.isAgg176
  z183 := Tryd.sizeOf176
  v183 := Tryd.zeroValue176
  t218 := Tryd.underlying185
  a218 := Tryd.isAgg185
  z218 := Tryd.sizeOf185
  v218 := Tryd.zeroValue185
  t222 := Tryd.underlying189
  a222 := Tryd.isAgg189
  z222 := Tryd.sizeOf189
  v222 := Tryd.zeroValue189
  t228 := Tryd.underlying191
  a228 := Tryd.isAgg191
  z228 := Tryd.sizeOf191
  v228 := Tryd.zeroValue191
  t229 := Tryd.underlying45
  a229 := Tryd.isAgg45
  z229 := Tryd.sizeOf45
  v229 := Tryd.zeroValue45 }
def Tryd.laysNm220_ren : Go.Shelf.Ren := ⟨fun | 20 => 111 | n => n, fun | 22 => 154 | 3 => 3 | 4 => 4 | 0 => 0 | n => n, fun | n => n⟩
theorem Tryd.laysNm220 : Go.Proofs.Lays2.n20 Tryd.prog Tryd.laysNm220_ren := {
  mixed := by kernel_rfl
  f20 := Tryd.func111.trans (congrArg some (by kernel_rfl))
  t0 := Tryd.underlying0
  a0 := Tryd.isAgg0
  z0 := Tryd.sizeOf0
  v0 := Tryd.zeroValue0
  t3 := Tryd.underlying3
  a3 := Tryd.isAgg3
  z3 := Tryd.sizeOf3
  v3 := Tryd.zeroValue3
  t4 := Tryd.underlying4
  a4 := Tryd.isAgg4
  z4 := Tryd.sizeOf4
  v4 := Tryd.zeroValue4
  t22 := Tryd.underlying154
  a22 := Tryd.isAgg154
  z22 := Tryd.sizeOf154
  v22 := Tryd.zeroValue154
  i3 := by kernel_rfl }
open Go.Sort Go.RowKit in
theorem Tryd.slices_Sort_int (blk off cap : Nat) (zs : List Int) (w : World) (hH : Holds (Value.int .i64) w blk off zs.toArray) (hblk : blk < w.heap.size) (hsz : zs.length < 4611686018427387904) :
    Calls Tryd.prog 110 #[.slice (some ⟨blk, off, none⟩) zs.length cap] w fun e w' =>
      e = .returned (.tuple #[]) ∧ ∃ n os, w' = grow (putRow (Value.int .i64) (Sort.ahead w n) blk off (zs.mergeSort fun x y => decide (x ≤ y)).toArray) os := Any.slices_Sort_int Tryd.lays189 blk off cap zs w hH hblk hsz
open Go.RowKit Go.Lib Go.Sort in
theorem Tryd.slices_Compact_int (blk off cap : Nat) (zs : List Int) (w : World) (hH : Holds (Value.int .i64) w blk off zs.toArray) (hsz : zs.length ≤ 9223372036854775807) (hcap : zs.length ≤ cap) :
    Calls Tryd.prog 111 #[.slice (some ⟨blk, off, none⟩) zs.length cap] w fun e w' => e = .returned (.slice (some ⟨blk, off, none⟩) (Lib.compact zs).length cap) ∧ ∃ q, w' = putRow (Value.int .i64) (Sort.ahead w q) blk off (Lib.compact zs ++ List.replicate (zs.length - (Lib.compact zs).length) 0).toArray := Any.slices_Compact_int Tryd.laysNm220 blk off cap zs w hH hsz hcap
open Go.RowKit Go.Lib Go.Sort in
theorem Tryd.slices_Compact_int_empty (a : Option Addr) (cap : Nat) (w : World) :
    Calls Tryd.prog 111 #[.slice a 0 cap] w fun e w' => e = .returned (.slice a 0 cap) ∧ w' = w := Any.slices_Compact_int_empty Tryd.laysNm220 a cap w
open Go.RowKit Go.Sort in
theorem Tryd.slices_Sort_int_none (p : Option Addr) (cap : Nat) (w : World) :
    Calls Tryd.prog 110 #[.slice p 0 cap] w fun e w' => e = .returned (.tuple #[]) ∧ w' = w := Any.slices_Sort_int_none Tryd.lays189 p cap w
end Go.Proofs

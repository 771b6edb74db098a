/- The shelf's contract of slices.Sort for ints, at this seat's program: written by the kit's tools (lay-shelf, lay-plain). Conditions: none. -/
import Derived.Shelf.Sort.Plain
import Derived.Shelf.Slices.In.SortNone
import Derived.KernelRfl
import Derived.Test.YtfgecfbknpifjaaProg
set_option linter.all false
namespace Go.Proofs
open Go.Shelf
def Try.lays189_ren : Go.Shelf.Ren := ⟨fun | 189 => 37 | 125 => 52 | 257 => 51 | 128 => 73 | 129 => 74 | 294 => 64 | 295 => 65 | 296 => 66 | 297 => 67 | 298 => 68 | 299 => 69 | 216 => 70 | 300 => 71 | 301 => 72 | 328 => 81 | 329 => 82 | 330 => 83 | 331 => 84 | 332 => 85 | 215 => 86 | 343 => 87 | n => n, fun | 28 => 47 | 3 => 3 | 46 => 83 | 0 => 0 | 51 => 121 | 53 => 59 | 4 => 4 | 183 => 114 | 182 => 113 | 131 => 118 | 5 => 5 | 9 => 9 | 218 => 122 | 222 => 126 | 228 => 129 | 229 => 97 | n => n, fun | n => n⟩
theorem Try.lays189 : Go.Proofs.Lays.n189 Try.prog Try.lays189_ren := {
  mixed := by kernel_rfl
  f125 := Try.func52.trans (congrArg some (by kernel_rfl))
  f128 := Try.func73.trans (congrArg some (by kernel_rfl))
  f129 := Try.func74.trans (congrArg some (by kernel_rfl))
  f189 := Try.func37.trans (congrArg some (by kernel_rfl))
  f215 := Try.func86.trans (congrArg some (by kernel_rfl))
  f216 := Try.func70.trans (congrArg some (by kernel_rfl))
  f257 := Try.func51.trans (congrArg some (by kernel_rfl))
  f294 := Try.func64.trans (congrArg some (by kernel_rfl))
  f295 := Try.func65.trans (congrArg some (by kernel_rfl))
  f296 := Try.func66.trans (congrArg some (by kernel_rfl))
  f297 := Try.func67.trans (congrArg some (by kernel_rfl))
  f298 := Try.func68.trans (congrArg some (by kernel_rfl))
  f299 := Try.func69.trans (congrArg some (by kernel_rfl))
  f300 := Try.func71.trans (congrArg some (by kernel_rfl))
  f301 := Try.func72.trans (congrArg some (by kernel_rfl))
  f328 := Try.func81.trans (congrArg some (by kernel_rfl))
  f329 := Try.func82.trans (congrArg some (by kernel_rfl))
  f330 := Try.func83.trans (congrArg some (by kernel_rfl))
  f331 := Try.func84.trans (congrArg some (by kernel_rfl))
  f332 := Try.func85.trans (congrArg some (by kernel_rfl))
  f343 := Try.func87.trans (congrArg some (by kernel_rfl))
  t0 := Try.underlying0
  a0 := Try.isAgg0
  z0 := Try.sizeOf0
  v0 := Try.zeroValue0
  t3 := Try.underlying3
  a3 := Try.isAgg3
  z3 := Try.sizeOf3
  v3 := Try.zeroValue3
  t4 := Try.underlying4
  a4 := Try.isAgg4
  z4 := Try.sizeOf4
  v4 := Try.zeroValue4
  t5 := Try.underlying5
  a5 := Try.isAgg5
  z5 := Try.sizeOf5
  v5 := Try.zeroValue5
  t9 := Try.underlying9
  a9 := Try.isAgg9
  z9 := Try.sizeOf9
  v9 := Try.zeroValue9
  t28 := Try.underlying47
  a28 := Try.isAgg47
  z28 := Try.sizeOf47
  v28 := Try.zeroValue47
  t46 := Try.underlying83
  a46 := Try.isAgg83
  z46 := Try.sizeOf83
  v46 := Try.zeroValue83
  t51 := Try.underlying121
  a51 := Try.isAgg121
  z51 := Try.sizeOf121
  v51 := Try.zeroValue121
  t53 := Try.underlying59
  a53 := Try.isAgg59
  z53 := Try.sizeOf59
  v53 := Try.zeroValue59
  t131 := Try.underlying118
  a131 := Try.isAgg118
  z131 := Try.sizeOf118
  v131 := Try.zeroValue118
  t182 := Try.underlying113
  a182 := Try.isAgg113
  z182 := Try.sizeOf113
  v182 := Try.zeroValue113
  t183 := Try.underlying114
  a183 := Try.isAgg114
  z183 := Try.sizeOf114
  v183 := Try.zeroValue114
  t218 := Try.underlying122
  a218 := Try.isAgg122
  z218 := Try.sizeOf122
  v218 := Try.zeroValue122
  t222 := Try.underlying126
  a222 := Try.isAgg126
  z222 := Try.sizeOf126
  v222 := Try.zeroValue126
  t228 := Try.underlying129
  a228 := Try.isAgg129
  z228 := Try.sizeOf129
  v228 := Try.zeroValue129
  t229 := Try.underlying97
  a229 := Try.isAgg97
  z229 := Try.sizeOf97
  v229 := Try.zeroValue97 }
open Go.Sort Go.RowKit in
theorem Try.slices_Sort_int (blk off cap : Nat) (zs : List Int) (w : World) (hH : Holds (Value.int .i64) w blk off zs.toArray) (hblk : blk < w.heap.size) (hsz : zs.length < 4611686018427387904) :
    Calls Try.prog 37 #[.slice (some ⟨blk, off, none⟩) zs.length cap] w fun e w' =>
      e = .returned (.tuple #[]) ∧ ∃ n os, w' = grow (putRow (Value.int .i64) (Sort.ahead w n) blk off (zs.mergeSort fun x y => decide (x ≤ y)).toArray) os := Any.slices_Sort_int Try.lays189 blk off cap zs w hH hblk hsz
open Go.RowKit Go.Sort in
/-- .. and plain. (LAID: no walk: one application.) -/
theorem Try.slices_Sort_int_none (p : Option Addr) (cap : Nat) (w : World) :
    Calls Try.prog 37 #[.slice p 0 cap] w fun e w' => e = .returned (.tuple #[]) ∧ w' = w := Any.slices_Sort_int_none Try.lays189 p cap w
end Go.Proofs

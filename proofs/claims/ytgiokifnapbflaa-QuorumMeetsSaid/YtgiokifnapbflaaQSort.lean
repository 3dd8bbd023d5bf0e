/-
  slices.Sort at slices of numbers: its contract, as the kit's shelf lays it.
-/
import Derived.Shelf.Sort.Plain
import Derived.Sort.OwnSortedInts
import Derived.Test.YtgiokifnapbflaaProg
namespace Go.Proofs.Ytgiokifnapbflaa
open Go.Shelf Go.Sort Go.RowKit
def sortLays_ren : Go.Shelf.Ren := ⟨fun | 189 => 16 | 125 => 20 | 257 => 19 | 128 => 31 | 129 => 32 | 294 => 22 | 295 => 23 | 296 => 24 | 297 => 25 | 298 => 26 | 299 => 27 | 216 => 28 | 300 => 29 | 301 => 30 | 328 => 34 | 329 => 35 | 330 => 36 | 331 => 37 | 332 => 38 | 215 => 39 | 343 => 41 | n => n, fun | 28 => 26 | 3 => 3 | 46 => 48 | 0 => 0 | 51 => 58 | 53 => 60 | 4 => 4 | 183 => 52 | 182 => 51 | 131 => 44 | 5 => 5 | 9 => 9 | 218 => 62 | 222 => 66 | 228 => 70 | 229 => 42 | n => n, fun | n => n⟩
theorem sortLays : Go.Proofs.Lays.n189 Try.prog sortLays_ren := {
  mixed := by kernel_rfl
  f125 := Try.func20.trans (congrArg some (by kernel_rfl))
  f128 := Try.func31.trans (congrArg some (by kernel_rfl))
  f129 := Try.func32.trans (congrArg some (by kernel_rfl))
  f189 := Try.func16.trans (congrArg some (by kernel_rfl))
  f215 := Try.func39.trans (congrArg some (by kernel_rfl))
  f216 := Try.func28.trans (congrArg some (by kernel_rfl))
  f257 := Try.func19.trans (congrArg some (by kernel_rfl))
  f294 := Try.func22.trans (congrArg some (by kernel_rfl))
  f295 := Try.func23.trans (congrArg some (by kernel_rfl))
  f296 := Try.func24.trans (congrArg some (by kernel_rfl))
  f297 := Try.func25.trans (congrArg some (by kernel_rfl))
  f298 := Try.func26.trans (congrArg some (by kernel_rfl))
  f299 := Try.func27.trans (congrArg some (by kernel_rfl))
  f300 := Try.func29.trans (congrArg some (by kernel_rfl))
  f301 := Try.func30.trans (congrArg some (by kernel_rfl))
  f328 := Try.func34.trans (congrArg some (by kernel_rfl))
  f329 := Try.func35.trans (congrArg some (by kernel_rfl))
  f330 := Try.func36.trans (congrArg some (by kernel_rfl))
  f331 := Try.func37.trans (congrArg some (by kernel_rfl))
  f332 := Try.func38.trans (congrArg some (by kernel_rfl))
  f343 := Try.func41.trans (congrArg some (by kernel_rfl))
  t0 := Try.underlying0
  a0 := Try.isAgg0
  z0 := Try.sizeOf0
  v0 := Try.zeroValue0
  t3 := Try.underlying3
  a3 := Try.isAgg3
  z3 := Try.sizeOf3
  v3 := Try.zeroValue3
  t4 := Try.underlying4
  a4 := Try.isAgg4
  z4 := Try.sizeOf4
  v4 := Try.zeroValue4
  t5 := Try.underlying5
  a5 := Try.isAgg5
  z5 := Try.sizeOf5
  v5 := Try.zeroValue5
  t9 := Try.underlying9
  a9 := Try.isAgg9
  z9 := Try.sizeOf9
  v9 := Try.zeroValue9
  t28 := Try.underlying26
  a28 := Try.isAgg26
  z28 := Try.sizeOf26
  v28 := Try.zeroValue26
  t46 := Try.underlying48
  a46 := Try.isAgg48
  z46 := Try.sizeOf48
  v46 := Try.zeroValue48
  t51 := Try.underlying58
  a51 := Try.isAgg58
  z51 := Try.sizeOf58
  v51 := Try.zeroValue58
  t53 := Try.underlying60
  a53 := Try.isAgg60
  z53 := Try.sizeOf60
  v53 := Try.zeroValue60
  t131 := Try.underlying44
  a131 := Try.isAgg44
  z131 := Try.sizeOf44
  v131 := Try.zeroValue44
  t182 := Try.underlying51
  a182 := Try.isAgg51
  z182 := Try.sizeOf51
  v182 := Try.zeroValue51
  t183 := Try.underlying52
  a183 := Try.isAgg52
  z183 := Try.sizeOf52
  v183 := Try.zeroValue52
  t218 := Try.underlying62
  a218 := Try.isAgg62
  z218 := Try.sizeOf62
  v218 := Try.zeroValue62
  t222 := Try.underlying66
  a222 := Try.isAgg66
  z222 := Try.sizeOf66
  v222 := Try.zeroValue66
  t228 := Try.underlying70
  a228 := Try.isAgg70
  z228 := Try.sizeOf70
  v228 := Try.zeroValue70
  t229 := Try.underlying42
  a229 := Try.isAgg42
  z229 := Try.sizeOf42
  v229 := Try.zeroValue42 }

theorem sort_any (blk off cap : Nat) (zs : List Int) (w : World) (hH : Go.Sort.Holds (Value.int .i64) w blk off zs.toArray) (hblk : blk < w.heap.size) (hsz : zs.length < 4611686018427387904) :
    Calls Try.prog 16 #[.slice (some ⟨blk, off, none⟩) zs.length cap] w fun e w' =>
      e = .returned (.tuple #[]) ∧ ∃ n os, w' = grow (putRow (Value.int .i64) (Sort.ahead w n) blk off (zs.mergeSort fun x y => decide (x ≤ y)).toArray) os := Any.slices_Sort_int sortLays blk off cap zs w hH hblk hsz
end Go.Proofs.Ytgiokifnapbflaa

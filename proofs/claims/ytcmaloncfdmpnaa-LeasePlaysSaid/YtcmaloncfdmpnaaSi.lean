/- The library's contracts at this program, laid: numbers, and one application each; no condition. -/
import Derived.Shelf.SlIterI.Nil
import Derived.Shelf.SortM.Plain
import Derived.Shelf.SortM.SortNone
import Derived.Ground.GgzProg
import Derived.Ground.SlgmProg
import Derived.Test.YtcmaloncfdmpnaaProg
namespace Go.Proofs
open Go.Shelf
def Try.keysL_ren : Go.Shelf.Ren := ⟨fun | 7 => 115 | 10 => 146 | n => n, fun | 23 => 158 | 26 => 3 | 3 => 109 | 28 => 156 | 0 => 0 | 27 => 155 | 33 => 43 | 4 => 4 | n => n, fun | n => n⟩
theorem Try.keysL : Go.Proofs.SlLaysZI.n7 Try.prog Try.keysL_ren := {
  mixed := by kernel_rfl
  f7 := ⟨Try.f115.name, by decide, Try.func115.trans (congrArg some (by kernel_rfl))⟩
  f10 := ⟨Try.f146.name, by decide, Try.func146.trans (congrArg some (by kernel_rfl))⟩
  t0 := Try.underlying0
  a0 := Try.isAgg0
  z0 := Try.sizeOf0
  v0 := Try.zeroValue0
  t4 := Try.underlying4
  a4 := Try.isAgg4
  z4 := Try.sizeOf4
  v4 := Try.zeroValue4
  t23 := Try.underlying158
  a23 := Try.isAgg158
  z23 := Try.sizeOf158
  v23 := Try.zeroValue158
  t26 := Try.underlying3
  a26 := Try.isAgg3
  z26 := Try.sizeOf3
  v26 := Try.zeroValue3
  t27 := Try.underlying155
  a27 := Try.isAgg155
  z27 := Try.sizeOf155
  v27 := Try.zeroValue155
  t28 := Try.underlying156
  a28 := Try.isAgg156
  z28 := Try.sizeOf156
  v28 := Try.zeroValue156
  t33 := Try.underlying43
  a33 := Try.isAgg43
  z33 := Try.sizeOf43
  v33 := Try.zeroValue43 }
end Go.Proofs

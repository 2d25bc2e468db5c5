/- The library's contracts at this program, laid: numbers, and one application each; no condition. -/
import Derived.Shelf.SlicesG.CompactI
import Derived.Shelf.SortM.Plain
import Derived.Shelf.SortM.SortNone
import Derived.Ground.SlgnProg
import Derived.Ground.SlgmProg
import Derived.Test.YtmaielpfeajelaaDoorProg
namespace Go.Proofs
open Go.Shelf
def Tryd.sortA_ren : Go.Shelf.Ren := ⟨fun | 5 => 56 | 8 => 64 | 7 => 63 | 19 => 75 | 20 => 76 | 10 => 66 | 11 => 67 | 12 => 68 | 13 => 69 | 14 => 70 | 15 => 71 | 16 => 72 | 17 => 73 | 18 => 74 | 30 => 78 | 31 => 79 | 32 => 80 | 33 => 81 | 34 => 82 | 35 => 83 | 40 => 84 | n => n, fun | 23 => 35 | 25 => 3 | 3 => 3 | 32 => 71 | 22 => 35 | 0 => 0 | 44 => 46 | 46 => 39 | 4 => 4 | 36 => 90 | 35 => 89 | 41 => 58 | 5 => 5 | 9 => 9 | 53 => 97 | 57 => 101 | 63 => 103 | 64 => 104 | n => n, fun | n => n⟩
theorem Tryd.sortA : Go.Proofs.SlLaysM.n5 Tryd.prog Tryd.sortA_ren := {
  mixed := by kernel_rfl
  f5 := ⟨Tryd.f56.name, by decide, Tryd.func56.trans (congrArg some (by kernel_rfl))⟩
  f7 := ⟨Tryd.f63.name, by decide, Tryd.func63.trans (congrArg some (by kernel_rfl))⟩
  f8 := Tryd.func64.trans (congrArg some (by kernel_rfl))
  f10 := ⟨Tryd.f66.name, by decide, Tryd.func66.trans (congrArg some (by kernel_rfl))⟩
  f11 := ⟨Tryd.f67.name, by decide, Tryd.func67.trans (congrArg some (by kernel_rfl))⟩
  f12 := ⟨Tryd.f68.name, by decide, Tryd.func68.trans (congrArg some (by kernel_rfl))⟩
  f13 := ⟨Tryd.f69.name, by decide, Tryd.func69.trans (congrArg some (by kernel_rfl))⟩
  f14 := ⟨Tryd.f70.name, by decide, Tryd.func70.trans (congrArg some (by kernel_rfl))⟩
  f15 := ⟨Tryd.f71.name, by decide, Tryd.func71.trans (congrArg some (by kernel_rfl))⟩
  f16 := ⟨Tryd.f72.name, by decide, Tryd.func72.trans (congrArg some (by kernel_rfl))⟩
  f17 := ⟨Tryd.f73.name, by decide, Tryd.func73.trans (congrArg some (by kernel_rfl))⟩
  f18 := ⟨Tryd.f74.name, by decide, Tryd.func74.trans (congrArg some (by kernel_rfl))⟩
  f19 := Tryd.func75.trans (congrArg some (by kernel_rfl))
  f20 := Tryd.func76.trans (congrArg some (by kernel_rfl))
  f30 := ⟨Tryd.f78.name, by decide, Tryd.func78.trans (congrArg some (by kernel_rfl))⟩
  f31 := Tryd.func79.trans (congrArg some (by kernel_rfl))
  f32 := Tryd.func80.trans (congrArg some (by kernel_rfl))
  f33 := ⟨Tryd.f81.name, by decide, Tryd.func81.trans (congrArg some (by kernel_rfl))⟩
  f34 := ⟨Tryd.f82.name, by decide, Tryd.func82.trans (congrArg some (by kernel_rfl))⟩
  f35 := ⟨Tryd.f83.name, by decide, Tryd.func83.trans (congrArg some (by kernel_rfl))⟩
  f40 := ⟨Tryd.f84.name, by decide, Tryd.func84.trans (congrArg some (by kernel_rfl))⟩
  t0 := Tryd.underlying0
  a0 := Tryd.isAgg0
  z0 := Tryd.sizeOf0
  v0 := Tryd.zeroValue0
  t3 := Tryd.underlying3
  a3 := Tryd.isAgg3
  z3 := Tryd.sizeOf3
  v3 := Tryd.zeroValue3
  t4 := Tryd.underlying4
  a4 := Tryd.isAgg4
  z4 := Tryd.sizeOf4
  v4 := Tryd.zeroValue4
  t5 := Tryd.underlying5
  a5 := Tryd.isAgg5
  z5 := Tryd.sizeOf5
  v5 := Tryd.zeroValue5
  t9 := Tryd.underlying9
  a9 := Tryd.isAgg9
  z9 := Tryd.sizeOf9
  v9 := Tryd.zeroValue9
  t22 := Tryd.underlying35
  a22 := Tryd.isAgg35
  z22 := Tryd.sizeOf35
  v22 := Tryd.zeroValue35
  t23 := Tryd.underlying35
  a23 := Tryd.isAgg35
  z23 := Tryd.sizeOf35
  v23 := Tryd.zeroValue35
  t25 := Tryd.underlying3
  a25 := Tryd.isAgg3
  z25 := Tryd.sizeOf3
  v25 := Tryd.zeroValue3
  t32 := Tryd.underlying71
  a32 := Tryd.isAgg71
  z32 := Tryd.sizeOf71
  v32 := Tryd.zeroValue71
  t35 := Tryd.underlying89
  a35 := Tryd.isAgg89
  z35 := Tryd.sizeOf89
  v35 := Tryd.zeroValue89
  t36 := Tryd.underlying90
  a36 := Tryd.isAgg90
  z36 := Tryd.sizeOf90
  v36 := Tryd.zeroValue90
  t41 := Tryd.underlying58
  a41 := Tryd.isAgg58
  z41 := Tryd.sizeOf58
  v41 := Tryd.zeroValue58
  t44 := Tryd.underlying46
  a44 := Tryd.isAgg46
  z44 := Tryd.sizeOf46
  v44 := Tryd.zeroValue46
  t46 := Tryd.underlying39
  a46 := Tryd.isAgg39
  z46 := Tryd.sizeOf39
  v46 := Tryd.zeroValue39
  t53 := Tryd.underlying97
  a53 := Tryd.isAgg97
  z53 := Tryd.sizeOf97
  v53 := Tryd.zeroValue97
  t57 := Tryd.underlying101
  a57 := Tryd.isAgg101
  z57 := Tryd.sizeOf101
  v57 := Tryd.zeroValue101
  t63 := Tryd.underlying103
  a63 := Tryd.isAgg103
  z63 := Tryd.sizeOf103
  v63 := Tryd.zeroValue103
  t64 := Tryd.underlying104
  a64 := Tryd.isAgg104
  z64 := Tryd.sizeOf104
  v64 := Tryd.zeroValue104 }
end Go.Proofs

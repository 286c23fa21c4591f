/-
  slices.SortFunc at places: the library's contract, laid in plain words by the kit's lay-plain.
-/
import Derived.Shelf.SlSortCmp.NoneTotal
import Derived.Test.YtichklplcpkjdaaDoorProg
namespace Go.Proofs
open Go.Shelf
def Tryd.sortPl_ren : Go.Shelf.Ren := ⟨fun | 6 => 50 | 15 => 63 | 14 => 62 | 28 => 75 | 29 => 76 | 20 => 67 | 21 => 68 | 22 => 69 | 23 => 70 | 24 => 71 | 25 => 72 | 26 => 73 | 27 => 74 | 46 => 78 | 47 => 79 | 48 => 80 | 49 => 81 | 50 => 82 | 57 => 83 | n => n, fun | 22 => 76 | 24 => 74 | 25 => 90 | 3 => 3 | 39 => 69 | 0 => 0 | 53 => 82 | 55 => 23 | 4 => 4 | 46 => 114 | 45 => 113 | 50 => 118 | 5 => 5 | 9 => 9 | 66 => 124 | 70 => 128 | 76 => 130 | 77 => 131 | n => n, fun | n => n⟩
theorem Tryd.sortPl : Go.Proofs.SlLaysF0.n6 Tryd.prog Tryd.sortPl_ren := {
  mixed := by kernel_rfl
  f6 := ⟨Tryd.f50.name, by decide, Tryd.func50.trans (congrArg some (by kernel_rfl))⟩
  f14 := ⟨Tryd.f62.name, by decide, Tryd.func62.trans (congrArg some (by kernel_rfl))⟩
  f15 := Tryd.func63.trans (congrArg some (by kernel_rfl))
  f20 := ⟨Tryd.f67.name, by decide, Tryd.func67.trans (congrArg some (by kernel_rfl))⟩
  f21 := ⟨Tryd.f68.name, by decide, Tryd.func68.trans (congrArg some (by kernel_rfl))⟩
  f22 := ⟨Tryd.f69.name, by decide, Tryd.func69.trans (congrArg some (by kernel_rfl))⟩
  f23 := ⟨Tryd.f70.name, by decide, Tryd.func70.trans (congrArg some (by kernel_rfl))⟩
  f24 := ⟨Tryd.f71.name, by decide, Tryd.func71.trans (congrArg some (by kernel_rfl))⟩
  f25 := ⟨Tryd.f72.name, by decide, Tryd.func72.trans (congrArg some (by kernel_rfl))⟩
  f26 := ⟨Tryd.f73.name, by decide, Tryd.func73.trans (congrArg some (by kernel_rfl))⟩
  f27 := ⟨Tryd.f74.name, by decide, Tryd.func74.trans (congrArg some (by kernel_rfl))⟩
  f28 := Tryd.func75.trans (congrArg some (by kernel_rfl))
  f29 := Tryd.func76.trans (congrArg some (by kernel_rfl))
  f46 := ⟨Tryd.f78.name, by decide, Tryd.func78.trans (congrArg some (by kernel_rfl))⟩
  f47 := Tryd.func79.trans (congrArg some (by kernel_rfl))
  f48 := Tryd.func80.trans (congrArg some (by kernel_rfl))
  f49 := ⟨Tryd.f81.name, by decide, Tryd.func81.trans (congrArg some (by kernel_rfl))⟩
  f50 := ⟨Tryd.f82.name, by decide, Tryd.func82.trans (congrArg some (by kernel_rfl))⟩
  f57 := ⟨Tryd.f83.name, by decide, Tryd.func83.trans (congrArg some (by kernel_rfl))⟩
  t0 := Tryd.underlying0
  a0 := Tryd.isAgg0
  z0 := Tryd.sizeOf0
  v0 := Tryd.zeroValue0
  t3 := Tryd.underlying3
  a3 := Tryd.isAgg3
  z3 := Tryd.sizeOf3
  v3 := Tryd.zeroValue3
  t4 := Tryd.underlying4
  a4 := Tryd.isAgg4
  z4 := Tryd.sizeOf4
  v4 := Tryd.zeroValue4
  t5 := Tryd.underlying5
  a5 := Tryd.isAgg5
  z5 := Tryd.sizeOf5
  v5 := Tryd.zeroValue5
  t9 := Tryd.underlying9
  a9 := Tryd.isAgg9
  z9 := Tryd.sizeOf9
  v9 := Tryd.zeroValue9
  t22 := Tryd.underlying76
  a22 := Tryd.isAgg76
  z22 := Tryd.sizeOf76
  v22 := Tryd.zeroValue76
  t25 := Tryd.underlying90
  a25 := Tryd.isAgg90
  z25 := Tryd.sizeOf90
  v25 := Tryd.zeroValue90
  t39 := Tryd.underlying69
  a39 := Tryd.isAgg69
  z39 := Tryd.sizeOf69
  v39 := Tryd.zeroValue69
  t45 := Tryd.underlying113
  a45 := Tryd.isAgg113
  z45 := Tryd.sizeOf113
  v45 := Tryd.zeroValue113
  t46 := Tryd.underlying114
  a46 := Tryd.isAgg114
  z46 := Tryd.sizeOf114
  v46 := Tryd.zeroValue114
  t50 := Tryd.underlying118
  a50 := Tryd.isAgg118
  z50 := Tryd.sizeOf118
  v50 := Tryd.zeroValue118
  t53 := Tryd.underlying82
  a53 := Tryd.isAgg82
  z53 := Tryd.sizeOf82
  v53 := Tryd.zeroValue82
  t55 := Tryd.underlying23
  a55 := Tryd.isAgg23
  z55 := Tryd.sizeOf23
  v55 := Tryd.zeroValue23
  t66 := Tryd.underlying124
  a66 := Tryd.isAgg124
  z66 := Tryd.sizeOf124
  v66 := Tryd.zeroValue124
  t70 := Tryd.underlying128
  a70 := Tryd.isAgg128
  z70 := Tryd.sizeOf128
  v70 := Tryd.zeroValue128
  t76 := Tryd.underlying130
  a76 := Tryd.isAgg130
  z76 := Tryd.sizeOf130
  v76 := Tryd.zeroValue130
  t77 := Tryd.underlying131
  a77 := Tryd.isAgg131
  z77 := Tryd.sizeOf131
  v77 := Tryd.zeroValue131 }
end Go.Proofs

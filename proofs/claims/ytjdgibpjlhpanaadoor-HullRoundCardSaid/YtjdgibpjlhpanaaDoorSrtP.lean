/-
  A contract of the shelf laid at this program: the table of numbers, and one theorem.
-/
import Derived.Shelf.SlSortCmp.NoneTotal
import Derived.Test.YtjdgibpjlhpanaaDoorProg
namespace Go.Proofs
open Go.Shelf
def Tryd.sortPt_ren : Go.Shelf.Ren := ⟨fun | 6 => 36 | 15 => 61 | 14 => 60 | 28 => 81 | 29 => 82 | 20 => 73 | 21 => 74 | 22 => 75 | 23 => 76 | 24 => 77 | 25 => 78 | 26 => 79 | 27 => 80 | 46 => 87 | 47 => 88 | 48 => 89 | 49 => 90 | 50 => 91 | 57 => 96 | n => n, fun | 22 => 39 | 24 => 23 | 25 => 77 | 3 => 3 | 39 => 105 | 0 => 0 | 53 => 140 | 55 => 86 | 4 => 4 | 46 => 133 | 45 => 132 | 50 => 137 | 5 => 5 | 9 => 9 | 66 => 147 | 70 => 151 | 76 => 154 | 77 => 155 | n => n, fun | n => n⟩
theorem Tryd.sortPt : Go.Proofs.SlLaysF0.n6 Tryd.prog Tryd.sortPt_ren := {
  mixed := by kernel_rfl
  f6 := ⟨Tryd.f36.name, by decide, Tryd.func36.trans (congrArg some (by kernel_rfl))⟩
  f14 := ⟨Tryd.f60.name, by decide, Tryd.func60.trans (congrArg some (by kernel_rfl))⟩
  f15 := Tryd.func61.trans (congrArg some (by kernel_rfl))
  f20 := ⟨Tryd.f73.name, by decide, Tryd.func73.trans (congrArg some (by kernel_rfl))⟩
  f21 := ⟨Tryd.f74.name, by decide, Tryd.func74.trans (congrArg some (by kernel_rfl))⟩
  f22 := ⟨Tryd.f75.name, by decide, Tryd.func75.trans (congrArg some (by kernel_rfl))⟩
  f23 := ⟨Tryd.f76.name, by decide, Tryd.func76.trans (congrArg some (by kernel_rfl))⟩
  f24 := ⟨Tryd.f77.name, by decide, Tryd.func77.trans (congrArg some (by kernel_rfl))⟩
  f25 := ⟨Tryd.f78.name, by decide, Tryd.func78.trans (congrArg some (by kernel_rfl))⟩
  f26 := ⟨Tryd.f79.name, by decide, Tryd.func79.trans (congrArg some (by kernel_rfl))⟩
  f27 := ⟨Tryd.f80.name, by decide, Tryd.func80.trans (congrArg some (by kernel_rfl))⟩
  f28 := Tryd.func81.trans (congrArg some (by kernel_rfl))
  f29 := Tryd.func82.trans (congrArg some (by kernel_rfl))
  f46 := ⟨Tryd.f87.name, by decide, Tryd.func87.trans (congrArg some (by kernel_rfl))⟩
  f47 := Tryd.func88.trans (congrArg some (by kernel_rfl))
  f48 := Tryd.func89.trans (congrArg some (by kernel_rfl))
  f49 := ⟨Tryd.f90.name, by decide, Tryd.func90.trans (congrArg some (by kernel_rfl))⟩
  f50 := ⟨Tryd.f91.name, by decide, Tryd.func91.trans (congrArg some (by kernel_rfl))⟩
  f57 := ⟨Tryd.f96.name, by decide, Tryd.func96.trans (congrArg some (by kernel_rfl))⟩
  t0 := Tryd.underlying0
  a0 := Tryd.isAgg0
  z0 := Tryd.sizeOf0
  v0 := Tryd.zeroValue0
  t3 := Tryd.underlying3
  a3 := Tryd.isAgg3
  z3 := Tryd.sizeOf3
  v3 := Tryd.zeroValue3
  t4 := Tryd.underlying4
  a4 := Tryd.isAgg4
  z4 := Tryd.sizeOf4
  v4 := Tryd.zeroValue4
  t5 := Tryd.underlying5
  a5 := Tryd.isAgg5
  z5 := Tryd.sizeOf5
  v5 := Tryd.zeroValue5
  t9 := Tryd.underlying9
  a9 := Tryd.isAgg9
  z9 := Tryd.sizeOf9
  v9 := Tryd.zeroValue9
  t22 := Tryd.underlying39
  a22 := Tryd.isAgg39
  z22 := Tryd.sizeOf39
  v22 := Tryd.zeroValue39
  t25 := Tryd.underlying77
  a25 := Tryd.isAgg77
  z25 := Tryd.sizeOf77
  v25 := Tryd.zeroValue77
  t39 := Tryd.underlying105
  a39 := Tryd.isAgg105
  z39 := Tryd.sizeOf105
  v39 := Tryd.zeroValue105
  t45 := Tryd.underlying132
  a45 := Tryd.isAgg132
  z45 := Tryd.sizeOf132
  v45 := Tryd.zeroValue132
  t46 := Tryd.underlying133
  a46 := Tryd.isAgg133
  z46 := Tryd.sizeOf133
  v46 := Tryd.zeroValue133
  t50 := Tryd.underlying137
  a50 := Tryd.isAgg137
  z50 := Tryd.sizeOf137
  v50 := Tryd.zeroValue137
  t53 := Tryd.underlying140
  a53 := Tryd.isAgg140
  z53 := Tryd.sizeOf140
  v53 := Tryd.zeroValue140
  t55 := Tryd.underlying86
  a55 := Tryd.isAgg86
  z55 := Tryd.sizeOf86
  v55 := Tryd.zeroValue86
  t66 := Tryd.underlying147
  a66 := Tryd.isAgg147
  z66 := Tryd.sizeOf147
  v66 := Tryd.zeroValue147
  t70 := Tryd.underlying151
  a70 := Tryd.isAgg151
  z70 := Tryd.sizeOf151
  v70 := Tryd.zeroValue151
  t76 := Tryd.underlying154
  a76 := Tryd.isAgg154
  z76 := Tryd.sizeOf154
  v76 := Tryd.zeroValue154
  t77 := Tryd.underlying155
  a77 := Tryd.isAgg155
  z77 := Tryd.sizeOf155
  v77 := Tryd.zeroValue155 }
end Go.Proofs

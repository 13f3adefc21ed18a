/-
  The library's slices.SortFunc at this seat's program: its functions and types, paired with those of the kit's contract.
-/
import Derived.Shelf.SlGeneric
import Derived.Test.YtlhmjhildlnokaaGreatChecked
import Derived.Shelf.SlSortCmp.WholeK
import Derived.Ground.SlsfProg
namespace Go.Proofs.YtlhmjhildlnokaaGreat
open Go.Shelf
def sortT_ren : Go.Shelf.Ren := ⟨
  fun
 
  | 6 => 32
  | 15 => 53
  | 14 => 52
  | 28 => 76
  | 29 => 77
  | 20 => 68
  | 21 => 69
  | 22 => 70
  | 23 => 71
  | 24 => 72
  | 25 => 73
  | 26 => 74
  | 27 => 75
  | 46 => 90
  | 47 => 91
  | 48 => 92
  | 49 => 93
  | 50 => 94
  | 57 => 106
  | n => n,
  fun
 
  | 22 => 51
  | 24 => 78
  | 25 => 87
  | 3 => 3
  | 39 => 113
  | 0 => 0
  | 53 => 136
  | 55 => 103
  | 4 => 4
  | 46 => 129
  | 45 => 128
  | 50 => 133
  | 5 => 5
  | 9 => 9
  | 66 => 146
  | 70 => 150
  | 76 => 161
  | 77 => 162
  | n => n,
  fun
 
  | n => n⟩
theorem sortT : Go.Proofs.SlLaysF0.n6 Tryz.prog sortT_ren := {
  mixed := by kernel_rfl,
  f6 := ⟨Tryz.f32.name, by decide, Tryz.func32.trans (congrArg some (by kernel_rfl))⟩,
  f14 := ⟨Tryz.f52.name, by decide, Tryz.func52.trans (congrArg some (by kernel_rfl))⟩,
  f15 := Tryz.func53.trans (congrArg some (by kernel_rfl)),
  f20 := ⟨Tryz.f68.name, by decide, Tryz.func68.trans (congrArg some (by kernel_rfl))⟩,
  f21 := ⟨Tryz.f69.name, by decide, Tryz.func69.trans (congrArg some (by kernel_rfl))⟩,
  f22 := ⟨Tryz.f70.name, by decide, Tryz.func70.trans (congrArg some (by kernel_rfl))⟩,
  f23 := ⟨Tryz.f71.name, by decide, Tryz.func71.trans (congrArg some (by kernel_rfl))⟩,
  f24 := ⟨Tryz.f72.name, by decide, Tryz.func72.trans (congrArg some (by kernel_rfl))⟩,
  f25 := ⟨Tryz.f73.name, by decide, Tryz.func73.trans (congrArg some (by kernel_rfl))⟩,
  f26 := ⟨Tryz.f74.name, by decide, Tryz.func74.trans (congrArg some (by kernel_rfl))⟩,
  f27 := ⟨Tryz.f75.name, by decide, Tryz.func75.trans (congrArg some (by kernel_rfl))⟩,
  f28 := Tryz.func76.trans (congrArg some (by kernel_rfl)),
  f29 := Tryz.func77.trans (congrArg some (by kernel_rfl)),
  f46 := ⟨Tryz.f90.name, by decide, Tryz.func90.trans (congrArg some (by kernel_rfl))⟩,
  f47 := Tryz.func91.trans (congrArg some (by kernel_rfl)),
  f48 := Tryz.func92.trans (congrArg some (by kernel_rfl)),
  f49 := ⟨Tryz.f93.name, by decide, Tryz.func93.trans (congrArg some (by kernel_rfl))⟩,
  f50 := ⟨Tryz.f94.name, by decide, Tryz.func94.trans (congrArg some (by kernel_rfl))⟩,
  f57 := ⟨Tryz.f106.name, by decide, Tryz.func106.trans (congrArg some (by kernel_rfl))⟩,
  t0 := Tryz.underlying0,
  a0 := Tryz.isAgg0,
  z0 := Tryz.sizeOf0,
  v0 := Tryz.zeroValue0,
  t3 := Tryz.underlying3,
  a3 := Tryz.isAgg3,
  z3 := Tryz.sizeOf3,
  v3 := Tryz.zeroValue3,
  t4 := Tryz.underlying4,
  a4 := Tryz.isAgg4,
  z4 := Tryz.sizeOf4,
  v4 := Tryz.zeroValue4,
  t5 := Tryz.underlying5,
  a5 := Tryz.isAgg5,
  z5 := Tryz.sizeOf5,
  v5 := Tryz.zeroValue5,
  t9 := Tryz.underlying9,
  a9 := Tryz.isAgg9,
  z9 := Tryz.sizeOf9,
  v9 := Tryz.zeroValue9,
  t22 := Tryz.underlying51,
  a22 := Tryz.isAgg51,
  z22 := Tryz.sizeOf51,
  v22 := Tryz.zeroValue51,
  t25 := Tryz.underlying87,
  a25 := Tryz.isAgg87,
  z25 := Tryz.sizeOf87,
  v25 := Tryz.zeroValue87,
  t39 := Tryz.underlying113,
  a39 := Tryz.isAgg113,
  z39 := Tryz.sizeOf113,
  v39 := Tryz.zeroValue113,
  t45 := Tryz.underlying128,
  a45 := Tryz.isAgg128,
  z45 := Tryz.sizeOf128,
  v45 := Tryz.zeroValue128,
  t46 := Tryz.underlying129,
  a46 := Tryz.isAgg129,
  z46 := Tryz.sizeOf129,
  v46 := Tryz.zeroValue129,
  t50 := Tryz.underlying133,
  a50 := Tryz.isAgg133,
  z50 := Tryz.sizeOf133,
  v50 := Tryz.zeroValue133,
  t53 := Tryz.underlying136,
  a53 := Tryz.isAgg136,
  z53 := Tryz.sizeOf136,
  v53 := Tryz.zeroValue136,
  t55 := Tryz.underlying103,
  a55 := Tryz.isAgg103,
  z55 := Tryz.sizeOf103,
  v55 := Tryz.zeroValue103,
  t66 := Tryz.underlying146,
  a66 := Tryz.isAgg146,
  z66 := Tryz.sizeOf146,
  v66 := Tryz.zeroValue146,
  t70 := Tryz.underlying150,
  a70 := Tryz.isAgg150,
  z70 := Tryz.sizeOf150,
  v70 := Tryz.zeroValue150,
  t76 := Tryz.underlying161,
  a76 := Tryz.isAgg161,
  z76 := Tryz.sizeOf161,
  v76 := Tryz.zeroValue161,
  t77 := Tryz.underlying162,
  a77 := Tryz.isAgg162,
  z77 := Tryz.sizeOf162,
  v77 := Tryz.zeroValue162 }

end Go.Proofs.YtlhmjhildlnokaaGreat

/-
  The library's slices.SortFunc at this seat's program: its functions and types, paired with those of the kit's contract.
-/
import Derived.Shelf.SlGeneric
import Derived.Test.YtlhmjhildlnokaaChecked
import Derived.Shelf.SlSortCmp.WholeK
import Derived.Ground.SlsfProg
namespace Go.Proofs.Ytlhmjhildlnokaa
open Go.Shelf
def sortT_ren : Go.Shelf.Ren := ⟨
  fun
 
  | 6 => 64
  | 15 => 85
  | 14 => 84
  | 28 => 105
  | 29 => 106
  | 20 => 97
  | 21 => 98
  | 22 => 99
  | 23 => 100
  | 24 => 101
  | 25 => 102
  | 26 => 103
  | 27 => 104
  | 46 => 117
  | 47 => 118
  | 48 => 119
  | 49 => 120
  | 50 => 121
  | 57 => 133
  | n => n,
  fun
 
  | 22 => 66
  | 24 => 73
  | 25 => 124
  | 3 => 3
  | 39 => 140
  | 0 => 0
  | 53 => 156
  | 55 => 158
  | 4 => 4
  | 46 => 149
  | 45 => 148
  | 50 => 153
  | 5 => 5
  | 9 => 9
  | 66 => 166
  | 70 => 170
  | 76 => 179
  | 77 => 180
  | n => n,
  fun
 
  | n => n⟩
theorem sortT : Go.Proofs.SlLaysF0.n6 Try.prog sortT_ren := {
  mixed := by kernel_rfl,
  f6 := ⟨Try.f64.name, by decide, Try.func64.trans (congrArg some (by kernel_rfl))⟩,
  f14 := ⟨Try.f84.name, by decide, Try.func84.trans (congrArg some (by kernel_rfl))⟩,
  f15 := Try.func85.trans (congrArg some (by kernel_rfl)),
  f20 := ⟨Try.f97.name, by decide, Try.func97.trans (congrArg some (by kernel_rfl))⟩,
  f21 := ⟨Try.f98.name, by decide, Try.func98.trans (congrArg some (by kernel_rfl))⟩,
  f22 := ⟨Try.f99.name, by decide, Try.func99.trans (congrArg some (by kernel_rfl))⟩,
  f23 := ⟨Try.f100.name, by decide, Try.func100.trans (congrArg some (by kernel_rfl))⟩,
  f24 := ⟨Try.f101.name, by decide, Try.func101.trans (congrArg some (by kernel_rfl))⟩,
  f25 := ⟨Try.f102.name, by decide, Try.func102.trans (congrArg some (by kernel_rfl))⟩,
  f26 := ⟨Try.f103.name, by decide, Try.func103.trans (congrArg some (by kernel_rfl))⟩,
  f27 := ⟨Try.f104.name, by decide, Try.func104.trans (congrArg some (by kernel_rfl))⟩,
  f28 := Try.func105.trans (congrArg some (by kernel_rfl)),
  f29 := Try.func106.trans (congrArg some (by kernel_rfl)),
  f46 := ⟨Try.f117.name, by decide, Try.func117.trans (congrArg some (by kernel_rfl))⟩,
  f47 := Try.func118.trans (congrArg some (by kernel_rfl)),
  f48 := Try.func119.trans (congrArg some (by kernel_rfl)),
  f49 := ⟨Try.f120.name, by decide, Try.func120.trans (congrArg some (by kernel_rfl))⟩,
  f50 := ⟨Try.f121.name, by decide, Try.func121.trans (congrArg some (by kernel_rfl))⟩,
  f57 := ⟨Try.f133.name, by decide, Try.func133.trans (congrArg some (by kernel_rfl))⟩,
  t0 := Try.underlying0,
  a0 := Try.isAgg0,
  z0 := Try.sizeOf0,
  v0 := Try.zeroValue0,
  t3 := Try.underlying3,
  a3 := Try.isAgg3,
  z3 := Try.sizeOf3,
  v3 := Try.zeroValue3,
  t4 := Try.underlying4,
  a4 := Try.isAgg4,
  z4 := Try.sizeOf4,
  v4 := Try.zeroValue4,
  t5 := Try.underlying5,
  a5 := Try.isAgg5,
  z5 := Try.sizeOf5,
  v5 := Try.zeroValue5,
  t9 := Try.underlying9,
  a9 := Try.isAgg9,
  z9 := Try.sizeOf9,
  v9 := Try.zeroValue9,
  t22 := Try.underlying66,
  a22 := Try.isAgg66,
  z22 := Try.sizeOf66,
  v22 := Try.zeroValue66,
  t25 := Try.underlying124,
  a25 := Try.isAgg124,
  z25 := Try.sizeOf124,
  v25 := Try.zeroValue124,
  t39 := Try.underlying140,
  a39 := Try.isAgg140,
  z39 := Try.sizeOf140,
  v39 := Try.zeroValue140,
  t45 := Try.underlying148,
  a45 := Try.isAgg148,
  z45 := Try.sizeOf148,
  v45 := Try.zeroValue148,
  t46 := Try.underlying149,
  a46 := Try.isAgg149,
  z46 := Try.sizeOf149,
  v46 := Try.zeroValue149,
  t50 := Try.underlying153,
  a50 := Try.isAgg153,
  z50 := Try.sizeOf153,
  v50 := Try.zeroValue153,
  t53 := Try.underlying156,
  a53 := Try.isAgg156,
  z53 := Try.sizeOf156,
  v53 := Try.zeroValue156,
  t55 := Try.underlying158,
  a55 := Try.isAgg158,
  z55 := Try.sizeOf158,
  v55 := Try.zeroValue158,
  t66 := Try.underlying166,
  a66 := Try.isAgg166,
  z66 := Try.sizeOf166,
  v66 := Try.zeroValue166,
  t70 := Try.underlying170,
  a70 := Try.isAgg170,
  z70 := Try.sizeOf170,
  v70 := Try.zeroValue170,
  t76 := Try.underlying179,
  a76 := Try.isAgg179,
  z76 := Try.sizeOf179,
  v76 := Try.zeroValue179,
  t77 := Try.underlying180,
  a77 := Try.isAgg180,
  z77 := Try.sizeOf180,
  v77 := Try.zeroValue180 }

end Go.Proofs.Ytlhmjhildlnokaa

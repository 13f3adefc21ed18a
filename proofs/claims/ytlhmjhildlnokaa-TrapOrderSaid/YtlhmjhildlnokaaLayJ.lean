/-
  The library's slices.SortFunc at this seat's program: its functions and types, paired with those of the kit's contract.
-/
import Derived.Shelf.SlGeneric
import Derived.Test.YtlhmjhildlnokaaChecked
import Derived.Shelf.SlSortCmp.Whole1
import Derived.Ground.SlsfProg
namespace Go.Proofs.Ytlhmjhildlnokaa
open Go.Shelf
def sortJ_ren : Go.Shelf.Ren := ⟨
  fun
 
  | 6 => 95
  | 15 => 85
  | 14 => 116
  | 28 => 105
  | 29 => 106
  | 20 => 125
  | 21 => 126
  | 22 => 127
  | 23 => 128
  | 24 => 129
  | 25 => 130
  | 26 => 131
  | 27 => 132
  | 46 => 135
  | 47 => 118
  | 48 => 119
  | 49 => 136
  | 50 => 137
  | 57 => 138
  | n => n,
  fun
 
  | 22 => 43
  | 24 => 3
  | 25 => 125
  | 3 => 3
  | 39 => 140
  | 0 => 0
  | 53 => 156
  | 55 => 158
  | 4 => 4
  | 46 => 149
  | 45 => 148
  | 50 => 153
  | 5 => 5
  | 9 => 9
  | 66 => 166
  | 70 => 170
  | 76 => 179
  | 77 => 180
  | n => n,
  fun
 
  | n => n⟩
theorem sortJ : Go.Proofs.SlLaysF.n6 Try.prog sortJ_ren := {
  mixed := by kernel_rfl,
  f6 := ⟨Try.f95.name, by decide, Try.func95.trans (congrArg some (by kernel_rfl))⟩,
  f14 := ⟨Try.f116.name, by decide, Try.func116.trans (congrArg some (by kernel_rfl))⟩,
  f15 := Try.func85.trans (congrArg some (by kernel_rfl)),
  f20 := ⟨Try.f125.name, by decide, Try.func125.trans (congrArg some (by kernel_rfl))⟩,
  f21 := ⟨Try.f126.name, by decide, Try.func126.trans (congrArg some (by kernel_rfl))⟩,
  f22 := ⟨Try.f127.name, by decide, Try.func127.trans (congrArg some (by kernel_rfl))⟩,
  f23 := ⟨Try.f128.name, by decide, Try.func128.trans (congrArg some (by kernel_rfl))⟩,
  f24 := ⟨Try.f129.name, by decide, Try.func129.trans (congrArg some (by kernel_rfl))⟩,
  f25 := ⟨Try.f130.name, by decide, Try.func130.trans (congrArg some (by kernel_rfl))⟩,
  f26 := ⟨Try.f131.name, by decide, Try.func131.trans (congrArg some (by kernel_rfl))⟩,
  f27 := ⟨Try.f132.name, by decide, Try.func132.trans (congrArg some (by kernel_rfl))⟩,
  f28 := Try.func105.trans (congrArg some (by kernel_rfl)),
  f29 := Try.func106.trans (congrArg some (by kernel_rfl)),
  f46 := ⟨Try.f135.name, by decide, Try.func135.trans (congrArg some (by kernel_rfl))⟩,
  f47 := Try.func118.trans (congrArg some (by kernel_rfl)),
  f48 := Try.func119.trans (congrArg some (by kernel_rfl)),
  f49 := ⟨Try.f136.name, by decide, Try.func136.trans (congrArg some (by kernel_rfl))⟩,
  f50 := ⟨Try.f137.name, by decide, Try.func137.trans (congrArg some (by kernel_rfl))⟩,
  f57 := ⟨Try.f138.name, by decide, Try.func138.trans (congrArg some (by kernel_rfl))⟩,
  t0 := Try.underlying0,
  a0 := Try.isAgg0,
  z0 := Try.sizeOf0,
  v0 := Try.zeroValue0,
  t3 := Try.underlying3,
  a3 := Try.isAgg3,
  z3 := Try.sizeOf3,
  v3 := Try.zeroValue3,
  t4 := Try.underlying4,
  a4 := Try.isAgg4,
  z4 := Try.sizeOf4,
  v4 := Try.zeroValue4,
  t5 := Try.underlying5,
  a5 := Try.isAgg5,
  z5 := Try.sizeOf5,
  v5 := Try.zeroValue5,
  t9 := Try.underlying9,
  a9 := Try.isAgg9,
  z9 := Try.sizeOf9,
  v9 := Try.zeroValue9,
  t22 := Try.underlying43,
  a22 := Try.isAgg43,
  z22 := Try.sizeOf43,
  v22 := Try.zeroValue43,
  a24 := Try.isAgg3,
  z24 := Try.sizeOf3,
  t25 := Try.underlying125,
  a25 := Try.isAgg125,
  z25 := Try.sizeOf125,
  v25 := Try.zeroValue125,
  t39 := Try.underlying140,
  a39 := Try.isAgg140,
  z39 := Try.sizeOf140,
  v39 := Try.zeroValue140,
  t45 := Try.underlying148,
  a45 := Try.isAgg148,
  z45 := Try.sizeOf148,
  v45 := Try.zeroValue148,
  t46 := Try.underlying149,
  a46 := Try.isAgg149,
  z46 := Try.sizeOf149,
  v46 := Try.zeroValue149,
  t50 := Try.underlying153,
  a50 := Try.isAgg153,
  z50 := Try.sizeOf153,
  v50 := Try.zeroValue153,
  t53 := Try.underlying156,
  a53 := Try.isAgg156,
  z53 := Try.sizeOf156,
  v53 := Try.zeroValue156,
  t55 := Try.underlying158,
  a55 := Try.isAgg158,
  z55 := Try.sizeOf158,
  v55 := Try.zeroValue158,
  t66 := Try.underlying166,
  a66 := Try.isAgg166,
  z66 := Try.sizeOf166,
  v66 := Try.zeroValue166,
  t70 := Try.underlying170,
  a70 := Try.isAgg170,
  z70 := Try.sizeOf170,
  v70 := Try.zeroValue170,
  t76 := Try.underlying179,
  a76 := Try.isAgg179,
  z76 := Try.sizeOf179,
  v76 := Try.zeroValue179,
  t77 := Try.underlying180,
  a77 := Try.isAgg180,
  z77 := Try.sizeOf180,
  v77 := Try.zeroValue180 }

end Go.Proofs.Ytlhmjhildlnokaa

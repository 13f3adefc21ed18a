/-
  The library's slices.Sort at this seat's program: its functions and types, paired with those of the kit's contract.
-/
import Derived.Shelf.SlGeneric
import Derived.Test.YtbpclhgbobiahaaChecked
import Derived.Shelf.SortM.Plain
import Derived.Shelf.SortM.SortNone
import Derived.Ground.SlgmProg
namespace Go.Proofs.Ytbpclhgbobiahaa
open Go.Shelf
def sortI_ren : Go.Shelf.Ren := ⟨
  fun
 
  | 5 => 47
  | 8 => 57
  | 7 => 56
  | 19 => 69
  | 20 => 70
  | 10 => 60
  | 11 => 61
  | 12 => 62
  | 13 => 63
  | 14 => 64
  | 15 => 65
  | 16 => 66
  | 17 => 67
  | 18 => 68
  | 30 => 71
  | 31 => 72
  | 32 => 73
  | 33 => 74
  | 34 => 75
  | 35 => 76
  | 40 => 77
  | n => n,
  fun
 
  | 23 => 71
  | 25 => 3
  | 3 => 3
  | 32 => 118
  | 22 => 71
  | 0 => 0
  | 44 => 132
  | 46 => 85
  | 4 => 4
  | 36 => 125
  | 35 => 124
  | 41 => 129
  | 5 => 5
  | 9 => 9
  | 53 => 134
  | 57 => 138
  | 63 => 140
  | 64 => 141
  | n => n,
  fun
 
  | n => n⟩
theorem sortI : Go.Proofs.SlLaysM.n5 Try.prog sortI_ren := {
  mixed := by kernel_rfl,
  f5 := ⟨Try.f47.name, by decide, Try.func47.trans (congrArg some (by kernel_rfl))⟩,
  f7 := ⟨Try.f56.name, by decide, Try.func56.trans (congrArg some (by kernel_rfl))⟩,
  f8 := Try.func57.trans (congrArg some (by kernel_rfl)),
  f10 := ⟨Try.f60.name, by decide, Try.func60.trans (congrArg some (by kernel_rfl))⟩,
  f11 := ⟨Try.f61.name, by decide, Try.func61.trans (congrArg some (by kernel_rfl))⟩,
  f12 := ⟨Try.f62.name, by decide, Try.func62.trans (congrArg some (by kernel_rfl))⟩,
  f13 := ⟨Try.f63.name, by decide, Try.func63.trans (congrArg some (by kernel_rfl))⟩,
  f14 := ⟨Try.f64.name, by decide, Try.func64.trans (congrArg some (by kernel_rfl))⟩,
  f15 := ⟨Try.f65.name, by decide, Try.func65.trans (congrArg some (by kernel_rfl))⟩,
  f16 := ⟨Try.f66.name, by decide, Try.func66.trans (congrArg some (by kernel_rfl))⟩,
  f17 := ⟨Try.f67.name, by decide, Try.func67.trans (congrArg some (by kernel_rfl))⟩,
  f18 := ⟨Try.f68.name, by decide, Try.func68.trans (congrArg some (by kernel_rfl))⟩,
  f19 := Try.func69.trans (congrArg some (by kernel_rfl)),
  f20 := Try.func70.trans (congrArg some (by kernel_rfl)),
  f30 := ⟨Try.f71.name, by decide, Try.func71.trans (congrArg some (by kernel_rfl))⟩,
  f31 := Try.func72.trans (congrArg some (by kernel_rfl)),
  f32 := Try.func73.trans (congrArg some (by kernel_rfl)),
  f33 := ⟨Try.f74.name, by decide, Try.func74.trans (congrArg some (by kernel_rfl))⟩,
  f34 := ⟨Try.f75.name, by decide, Try.func75.trans (congrArg some (by kernel_rfl))⟩,
  f35 := ⟨Try.f76.name, by decide, Try.func76.trans (congrArg some (by kernel_rfl))⟩,
  f40 := ⟨Try.f77.name, by decide, Try.func77.trans (congrArg some (by kernel_rfl))⟩,
  t0 := Try.underlying0,
  a0 := Try.isAgg0,
  z0 := Try.sizeOf0,
  v0 := Try.zeroValue0,
  t3 := Try.underlying3,
  a3 := Try.isAgg3,
  z3 := Try.sizeOf3,
  v3 := Try.zeroValue3,
  t4 := Try.underlying4,
  a4 := Try.isAgg4,
  z4 := Try.sizeOf4,
  v4 := Try.zeroValue4,
  t5 := Try.underlying5,
  a5 := Try.isAgg5,
  z5 := Try.sizeOf5,
  v5 := Try.zeroValue5,
  t9 := Try.underlying9,
  a9 := Try.isAgg9,
  z9 := Try.sizeOf9,
  v9 := Try.zeroValue9,
  t22 := Try.underlying71,
  a22 := Try.isAgg71,
  z22 := Try.sizeOf71,
  v22 := Try.zeroValue71,
  t23 := Try.underlying71,
  a23 := Try.isAgg71,
  z23 := Try.sizeOf71,
  v23 := Try.zeroValue71,
  t25 := Try.underlying3,
  a25 := Try.isAgg3,
  z25 := Try.sizeOf3,
  v25 := Try.zeroValue3,
  t32 := Try.underlying118,
  a32 := Try.isAgg118,
  z32 := Try.sizeOf118,
  v32 := Try.zeroValue118,
  t35 := Try.underlying124,
  a35 := Try.isAgg124,
  z35 := Try.sizeOf124,
  v35 := Try.zeroValue124,
  t36 := Try.underlying125,
  a36 := Try.isAgg125,
  z36 := Try.sizeOf125,
  v36 := Try.zeroValue125,
  t41 := Try.underlying129,
  a41 := Try.isAgg129,
  z41 := Try.sizeOf129,
  v41 := Try.zeroValue129,
  t44 := Try.underlying132,
  a44 := Try.isAgg132,
  z44 := Try.sizeOf132,
  v44 := Try.zeroValue132,
  t46 := Try.underlying85,
  a46 := Try.isAgg85,
  z46 := Try.sizeOf85,
  v46 := Try.zeroValue85,
  t53 := Try.underlying134,
  a53 := Try.isAgg134,
  z53 := Try.sizeOf134,
  v53 := Try.zeroValue134,
  t57 := Try.underlying138,
  a57 := Try.isAgg138,
  z57 := Try.sizeOf138,
  v57 := Try.zeroValue138,
  t63 := Try.underlying140,
  a63 := Try.isAgg140,
  z63 := Try.sizeOf140,
  v63 := Try.zeroValue140,
  t64 := Try.underlying141,
  a64 := Try.isAgg141,
  z64 := Try.sizeOf141,
  v64 := Try.zeroValue141 }

end Go.Proofs.Ytbpclhgbobiahaa

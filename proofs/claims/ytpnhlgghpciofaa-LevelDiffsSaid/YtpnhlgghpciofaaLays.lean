/-
  DERIVED: THE SHELF's CONTRACTS AT THIS DUMP, IN PLAIN WORDS (tools/lay-plain.mjs out of 'TryIter.lean', which tools/lay-shelf.mjs wrote): THE SAME DECLARATIONS UNDER THE SAME NAMES: 'import', 'namespace', 'open', 'def', 'theorem' AND NOTHING ELSE: no command of the shelf's: FOR A HAND-IN. Each laying: the table of numbers ('.._ren') and one theorem, a field a fact of the dump's own or the kernel's comparison; each contract: ONE APPLICATION.
-/
import Derived.Shelf.SortM.Plain
import Derived.Shelf.SortM.SortNone
import Derived.Ground.SlgmProg
import Derived.Test.YtpnhlgghpciofaaProg
namespace Go.Proofs
open Go.Shelf
def Try.sort65_ren : Go.Shelf.Ren := ⟨fun | 5 => 65 | 8 => 77 | 7 => 76 | 19 => 93 | 20 => 94 | 10 => 84 | 11 => 85 | 12 => 86 | 13 => 87 | 14 => 88 | 15 => 89 | 16 => 90 | 17 => 91 | 18 => 92 | 30 => 96 | 31 => 97 | 32 => 98 | 33 => 99 | 34 => 100 | 35 => 79 | 40 => 102 | n => n, fun | 23 => 22 | 25 => 2 | 3 => 3 | 32 => 97 | 22 => 22 | 0 => 0 | 44 => 113 | 46 => 115 | 4 => 4 | 36 => 105 | 35 => 104 | 41 => 110 | 5 => 5 | 9 => 9 | 53 => 116 | 57 => 120 | 63 => 122 | 64 => 123 | n => n, fun | n => n⟩
theorem Try.sort65 : Go.Proofs.SlLaysM.n5 Try.prog Try.sort65_ren := {
  mixed := by kernel_rfl
  f5 := ⟨Try.f65.name, by decide, Try.func65.trans (congrArg some (by kernel_rfl))⟩
  f7 := ⟨Try.f76.name, by decide, Try.func76.trans (congrArg some (by kernel_rfl))⟩
  f8 := Try.func77.trans (congrArg some (by kernel_rfl))
  f10 := ⟨Try.f84.name, by decide, Try.func84.trans (congrArg some (by kernel_rfl))⟩
  f11 := ⟨Try.f85.name, by decide, Try.func85.trans (congrArg some (by kernel_rfl))⟩
  f12 := ⟨Try.f86.name, by decide, Try.func86.trans (congrArg some (by kernel_rfl))⟩
  f13 := ⟨Try.f87.name, by decide, Try.func87.trans (congrArg some (by kernel_rfl))⟩
  f14 := ⟨Try.f88.name, by decide, Try.func88.trans (congrArg some (by kernel_rfl))⟩
  f15 := ⟨Try.f89.name, by decide, Try.func89.trans (congrArg some (by kernel_rfl))⟩
  f16 := ⟨Try.f90.name, by decide, Try.func90.trans (congrArg some (by kernel_rfl))⟩
  f17 := ⟨Try.f91.name, by decide, Try.func91.trans (congrArg some (by kernel_rfl))⟩
  f18 := ⟨Try.f92.name, by decide, Try.func92.trans (congrArg some (by kernel_rfl))⟩
  f19 := Try.func93.trans (congrArg some (by kernel_rfl))
  f20 := Try.func94.trans (congrArg some (by kernel_rfl))
  f30 := ⟨Try.f96.name, by decide, Try.func96.trans (congrArg some (by kernel_rfl))⟩
  f31 := Try.func97.trans (congrArg some (by kernel_rfl))
  f32 := Try.func98.trans (congrArg some (by kernel_rfl))
  f33 := ⟨Try.f99.name, by decide, Try.func99.trans (congrArg some (by kernel_rfl))⟩
  f34 := ⟨Try.f100.name, by decide, Try.func100.trans (congrArg some (by kernel_rfl))⟩
  f35 := ⟨Try.f79.name, by decide, Try.func79.trans (congrArg some (by kernel_rfl))⟩
  f40 := ⟨Try.f102.name, by decide, Try.func102.trans (congrArg some (by kernel_rfl))⟩
  t0 := Try.underlying0
  a0 := Try.isAgg0
  z0 := Try.sizeOf0
  v0 := Try.zeroValue0
  t3 := Try.underlying3
  a3 := Try.isAgg3
  z3 := Try.sizeOf3
  v3 := Try.zeroValue3
  t4 := Try.underlying4
  a4 := Try.isAgg4
  z4 := Try.sizeOf4
  v4 := Try.zeroValue4
  t5 := Try.underlying5
  a5 := Try.isAgg5
  z5 := Try.sizeOf5
  v5 := Try.zeroValue5
  t9 := Try.underlying9
  a9 := Try.isAgg9
  z9 := Try.sizeOf9
  v9 := Try.zeroValue9
  t22 := Try.underlying22
  a22 := Try.isAgg22
  z22 := Try.sizeOf22
  v22 := Try.zeroValue22
  t23 := Try.underlying22
  a23 := Try.isAgg22
  z23 := Try.sizeOf22
  v23 := Try.zeroValue22
  t25 := Try.underlying2
  a25 := Try.isAgg2
  z25 := Try.sizeOf2
  v25 := Try.zeroValue2
  t32 := Try.underlying97
  a32 := Try.isAgg97
  z32 := Try.sizeOf97
  v32 := Try.zeroValue97
  t35 := Try.underlying104
  a35 := Try.isAgg104
  z35 := Try.sizeOf104
  v35 := Try.zeroValue104
  t36 := Try.underlying105
  a36 := Try.isAgg105
  z36 := Try.sizeOf105
  v36 := Try.zeroValue105
  t41 := Try.underlying110
  a41 := Try.isAgg110
  z41 := Try.sizeOf110
  v41 := Try.zeroValue110
  t44 := Try.underlying113
  a44 := Try.isAgg113
  z44 := Try.sizeOf113
  v44 := Try.zeroValue113
  t46 := Try.underlying115
  a46 := Try.isAgg115
  z46 := Try.sizeOf115
  v46 := Try.zeroValue115
  t53 := Try.underlying116
  a53 := Try.isAgg116
  z53 := Try.sizeOf116
  v53 := Try.zeroValue116
  t57 := Try.underlying120
  a57 := Try.isAgg120
  z57 := Try.sizeOf120
  v57 := Try.zeroValue120
  t63 := Try.underlying122
  a63 := Try.isAgg122
  z63 := Try.sizeOf122
  v63 := Try.zeroValue122
  t64 := Try.underlying123
  a64 := Try.isAgg123
  z64 := Try.sizeOf123
  v64 := Try.zeroValue123 }
end Go.Proofs

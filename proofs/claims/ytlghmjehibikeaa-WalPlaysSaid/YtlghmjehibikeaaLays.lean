/-
  DERIVED: THE SHELF's CONTRACTS AT THIS DUMP, IN PLAIN WORDS (tools/lay-plain.mjs out of 'TryIterW.lean', which tools/lay-shelf.mjs wrote): THE SAME DECLARATIONS UNDER THE SAME NAMES: 'import', 'namespace', 'open', 'def', 'theorem' AND NOTHING ELSE: no command of the shelf's: FOR A HAND-IN. Each laying: the table of numbers ('.._ren') and one theorem, a field a fact of the dump's own or the kernel's comparison; each contract: ONE APPLICATION.
-/
import Derived.Shelf.SlIter.Nil
import Derived.Shelf.SortM.Plain
import Derived.Shelf.SortM.SortNone
import Derived.Ground.GgzProg
import Derived.Ground.SlgmProg
import Derived.Shelf.SlMaps.Clone
import Derived.Ground.SlmcProg
import Derived.Test.YtlghmjehibikeaaProg
namespace Go.Proofs
open Go.Shelf
def Try.keys50_ren : Go.Shelf.Ren := ⟨fun | 7 => 50 | 10 => 74 | n => n, fun | 23 => 67 | 26 => 9 | 3 => 95 | 28 => 103 | 0 => 0 | 27 => 102 | 33 => 109 | 4 => 4 | n => n, fun | n => n⟩
theorem Try.keys50 : Go.Proofs.SlLaysZ.n7 Try.prog Try.keys50_ren := {
  mixed := by kernel_rfl
  f7 := ⟨Try.f50.name, by decide, Try.func50.trans (congrArg some (by kernel_rfl))⟩
  f10 := ⟨Try.f74.name, by decide, Try.func74.trans (congrArg some (by kernel_rfl))⟩
  t0 := Try.underlying0
  a0 := Try.isAgg0
  z0 := Try.sizeOf0
  v0 := Try.zeroValue0
  t4 := Try.underlying4
  a4 := Try.isAgg4
  z4 := Try.sizeOf4
  v4 := Try.zeroValue4
  t23 := Try.underlying67
  a23 := Try.isAgg67
  z23 := Try.sizeOf67
  v23 := Try.zeroValue67
  t26 := Try.underlying9
  a26 := Try.isAgg9
  z26 := Try.sizeOf9
  v26 := Try.zeroValue9
  t27 := Try.underlying102
  a27 := Try.isAgg102
  z27 := Try.sizeOf102
  v27 := Try.zeroValue102
  t28 := Try.underlying103
  a28 := Try.isAgg103
  z28 := Try.sizeOf103
  v28 := Try.zeroValue103
  t33 := Try.underlying109
  a33 := Try.isAgg109
  z33 := Try.sizeOf109
  v33 := Try.zeroValue109 }
def Try.sorted49_ren : Go.Shelf.Ren := ⟨fun | 6 => 49 | 8 => 72 | 9 => 73 | 11 => 80 | 13 => 82 | 12 => 81 | 23 => 94 | 24 => 95 | 14 => 85 | 15 => 86 | 16 => 87 | 17 => 88 | 18 => 89 | 19 => 90 | 20 => 91 | 21 => 92 | 22 => 93 | 25 => 97 | 26 => 98 | 27 => 99 | 28 => 100 | 29 => 101 | 30 => 102 | 31 => 103 | n => n, fun | 26 => 9 | 28 => 103 | 24 => 100 | 0 => 0 | 3 => 3 | 37 => 125 | 48 => 88 | 50 => 41 | 4 => 4 | 40 => 139 | 39 => 138 | 45 => 143 | 5 => 5 | 9 => 9 | 51 => 147 | 55 => 151 | 57 => 153 | 58 => 154 | 33 => 109 | n => n, fun | n => n⟩
theorem Try.sorted49 : Go.Proofs.SlLaysZ.n6 Try.prog Try.sorted49_ren := {
  mixed := by kernel_rfl
  f6 := ⟨Try.f49.name, by decide, Try.func49.trans (congrArg some (by kernel_rfl))⟩
  f8 := ⟨Try.f72.name, by decide, Try.func72.trans (congrArg some (by kernel_rfl))⟩
  f11 := ⟨Try.f80.name, by decide, Try.func80.trans (congrArg some (by kernel_rfl))⟩
  t0 := Try.underlying0
  a0 := Try.isAgg0
  z0 := Try.sizeOf0
  v0 := Try.zeroValue0
  t24 := Try.underlying100
  a24 := Try.isAgg100
  z24 := Try.sizeOf100
  v24 := Try.zeroValue100
  t26 := Try.underlying9
  a26 := Try.isAgg9
  z26 := Try.sizeOf9
  v26 := Try.zeroValue9
  t28 := Try.underlying103
  a28 := Try.isAgg103
  z28 := Try.sizeOf103
  v28 := Try.zeroValue103
  i26 := by kernel_rfl }
def Try.sort73_ren : Go.Shelf.Ren := ⟨fun | 6 => 73 | 8 => 82 | 9 => 81 | 19 => 94 | 20 => 95 | 21 => 85 | 22 => 86 | 23 => 87 | 24 => 88 | 25 => 89 | 26 => 90 | 27 => 91 | 28 => 92 | 29 => 93 | 36 => 97 | 31 => 98 | 32 => 99 | 37 => 100 | 38 => 101 | 39 => 102 | 41 => 103 | n => n, fun | 27 => 100 | 29 => 9 | 3 => 3 | 32 => 125 | 26 => 100 | 0 => 0 | 44 => 88 | 46 => 41 | 4 => 4 | 36 => 139 | 35 => 138 | 41 => 143 | 5 => 5 | 9 => 9 | 53 => 147 | 57 => 151 | 63 => 153 | 64 => 154 | n => n, fun | n => n⟩
theorem Try.sort73 : Go.Proofs.SlLaysM.n6 Try.prog Try.sort73_ren := {
  mixed := by kernel_rfl
  f6 := ⟨Try.f73.name, by decide, Try.func73.trans (congrArg some (by kernel_rfl))⟩
  f8 := Try.func82.trans (congrArg some (by kernel_rfl))
  f9 := ⟨Try.f81.name, by decide, Try.func81.trans (congrArg some (by kernel_rfl))⟩
  f19 := Try.func94.trans (congrArg some (by kernel_rfl))
  f20 := Try.func95.trans (congrArg some (by kernel_rfl))
  f21 := ⟨Try.f85.name, by decide, Try.func85.trans (congrArg some (by kernel_rfl))⟩
  f22 := ⟨Try.f86.name, by decide, Try.func86.trans (congrArg some (by kernel_rfl))⟩
  f23 := ⟨Try.f87.name, by decide, Try.func87.trans (congrArg some (by kernel_rfl))⟩
  f24 := ⟨Try.f88.name, by decide, Try.func88.trans (congrArg some (by kernel_rfl))⟩
  f25 := ⟨Try.f89.name, by decide, Try.func89.trans (congrArg some (by kernel_rfl))⟩
  f26 := ⟨Try.f90.name, by decide, Try.func90.trans (congrArg some (by kernel_rfl))⟩
  f27 := ⟨Try.f91.name, by decide, Try.func91.trans (congrArg some (by kernel_rfl))⟩
  f28 := ⟨Try.f92.name, by decide, Try.func92.trans (congrArg some (by kernel_rfl))⟩
  f29 := ⟨Try.f93.name, by decide, Try.func93.trans (congrArg some (by kernel_rfl))⟩
  f31 := Try.func98.trans (congrArg some (by kernel_rfl))
  f32 := Try.func99.trans (congrArg some (by kernel_rfl))
  f36 := ⟨Try.f97.name, by decide, Try.func97.trans (congrArg some (by kernel_rfl))⟩
  f37 := ⟨Try.f100.name, by decide, Try.func100.trans (congrArg some (by kernel_rfl))⟩
  f38 := ⟨Try.f101.name, by decide, Try.func101.trans (congrArg some (by kernel_rfl))⟩
  f39 := ⟨Try.f102.name, by decide, Try.func102.trans (congrArg some (by kernel_rfl))⟩
  f41 := ⟨Try.f103.name, by decide, Try.func103.trans (congrArg some (by kernel_rfl))⟩
  t0 := Try.underlying0
  a0 := Try.isAgg0
  z0 := Try.sizeOf0
  v0 := Try.zeroValue0
  t3 := Try.underlying3
  a3 := Try.isAgg3
  z3 := Try.sizeOf3
  v3 := Try.zeroValue3
  t4 := Try.underlying4
  a4 := Try.isAgg4
  z4 := Try.sizeOf4
  v4 := Try.zeroValue4
  t5 := Try.underlying5
  a5 := Try.isAgg5
  z5 := Try.sizeOf5
  v5 := Try.zeroValue5
  t9 := Try.underlying9
  a9 := Try.isAgg9
  z9 := Try.sizeOf9
  v9 := Try.zeroValue9
  t26 := Try.underlying100
  a26 := Try.isAgg100
  z26 := Try.sizeOf100
  v26 := Try.zeroValue100
  t27 := Try.underlying100
  a27 := Try.isAgg100
  z27 := Try.sizeOf100
  v27 := Try.zeroValue100
  t29 := Try.underlying9
  a29 := Try.isAgg9
  z29 := Try.sizeOf9
  v29 := Try.zeroValue9
  t32 := Try.underlying125
  a32 := Try.isAgg125
  z32 := Try.sizeOf125
  v32 := Try.zeroValue125
  t35 := Try.underlying138
  a35 := Try.isAgg138
  z35 := Try.sizeOf138
  v35 := Try.zeroValue138
  t36 := Try.underlying139
  a36 := Try.isAgg139
  z36 := Try.sizeOf139
  v36 := Try.zeroValue139
  t41 := Try.underlying143
  a41 := Try.isAgg143
  z41 := Try.sizeOf143
  v41 := Try.zeroValue143
  t44 := Try.underlying88
  a44 := Try.isAgg88
  z44 := Try.sizeOf88
  v44 := Try.zeroValue88
  t46 := Try.underlying41
  a46 := Try.isAgg41
  z46 := Try.sizeOf41
  v46 := Try.zeroValue41
  t53 := Try.underlying147
  a53 := Try.isAgg147
  z53 := Try.sizeOf147
  v53 := Try.zeroValue147
  t57 := Try.underlying151
  a57 := Try.isAgg151
  z57 := Try.sizeOf151
  v57 := Try.zeroValue151
  t63 := Try.underlying153
  a63 := Try.isAgg153
  z63 := Try.sizeOf153
  v63 := Try.zeroValue153
  t64 := Try.underlying154
  a64 := Try.isAgg154
  z64 := Try.sizeOf154
  v64 := Try.zeroValue154 }
def Try.clone46_ren : Go.Shelf.Ren := ⟨fun | 5 => 46 | 7 => 71 | n => n, fun | 23 => 67 | 25 => 9 | 3 => 95 | 4 => 4 | 20 => 20 | n => n, fun | n => n⟩
theorem Try.clone46 : Go.Proofs.SlLaysW.n5 Try.prog Try.clone46_ren := {
  mixed := by kernel_rfl
  f5 := ⟨Try.f46.name, by decide, Try.func46.trans (congrArg some (by kernel_rfl))⟩
  f7 := Try.func71.trans (congrArg some (by kernel_rfl))
  t4 := Try.underlying4
  a4 := Try.isAgg4
  z4 := Try.sizeOf4
  v4 := Try.zeroValue4
  t20 := Try.underlying20
  a20 := Try.isAgg20
  z20 := Try.sizeOf20
  v20 := Try.zeroValue20
  t23 := Try.underlying67
  a23 := Try.isAgg67
  z23 := Try.sizeOf67
  v23 := Try.zeroValue67 }
end Go.Proofs

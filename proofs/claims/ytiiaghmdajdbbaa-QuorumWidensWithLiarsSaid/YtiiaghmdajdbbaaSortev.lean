/-
  DERIVED: THE SHELF's CONTRACTS AT THIS DUMP, IN PLAIN WORDS (tools/lay-plain.mjs out of 'TrySortev.lean', which tools/lay-shelf.mjs wrote): THE SAME DECLARATIONS UNDER THE SAME NAMES: 'import', 'namespace', 'open', 'def', 'theorem' AND NOTHING ELSE: no command of the shelf's: FOR A HAND-IN. Each laying: the table of numbers ('.._ren') and one theorem, a field a fact of the dump's own or the kernel's comparison; each contract: ONE APPLICATION.
-/
import Derived.Shelf.SlSortCmp.WholeK
import Derived.Test.YtiiaghmdajdbbaaProg
namespace Go.Proofs
open Go.Shelf
def Try.sortEv_ren : Go.Shelf.Ren := ⟨fun | 6 => 77 | 15 => 44 | 14 => 80 | 28 => 60 | 29 => 61 | 20 => 81 | 21 => 82 | 22 => 83 | 23 => 84 | 24 => 85 | 25 => 86 | 26 => 87 | 27 => 88 | 46 => 89 | 47 => 68 | 48 => 69 | 49 => 90 | 50 => 91 | 57 => 92 | n => n, fun | 22 => 99 | 24 => 102 | 25 => 108 | 3 => 3 | 39 => 67 | 0 => 0 | 53 => 83 | 55 => 85 | 4 => 4 | 46 => 75 | 45 => 74 | 50 => 80 | 5 => 5 | 9 => 9 | 66 => 92 | 70 => 96 | 76 => 104 | 77 => 105 | n => n, fun | n => n⟩
theorem Try.sortEv : Go.Proofs.SlLaysF0.n6 Try.prog Try.sortEv_ren := {
  mixed := by kernel_rfl
  f6 := ⟨Try.f77.name, by decide, Try.func77.trans (congrArg some (by kernel_rfl))⟩
  f14 := ⟨Try.f80.name, by decide, Try.func80.trans (congrArg some (by kernel_rfl))⟩
  f15 := Try.func44.trans (congrArg some (by kernel_rfl))
  f20 := ⟨Try.f81.name, by decide, Try.func81.trans (congrArg some (by kernel_rfl))⟩
  f21 := ⟨Try.f82.name, by decide, Try.func82.trans (congrArg some (by kernel_rfl))⟩
  f22 := ⟨Try.f83.name, by decide, Try.func83.trans (congrArg some (by kernel_rfl))⟩
  f23 := ⟨Try.f84.name, by decide, Try.func84.trans (congrArg some (by kernel_rfl))⟩
  f24 := ⟨Try.f85.name, by decide, Try.func85.trans (congrArg some (by kernel_rfl))⟩
  f25 := ⟨Try.f86.name, by decide, Try.func86.trans (congrArg some (by kernel_rfl))⟩
  f26 := ⟨Try.f87.name, by decide, Try.func87.trans (congrArg some (by kernel_rfl))⟩
  f27 := ⟨Try.f88.name, by decide, Try.func88.trans (congrArg some (by kernel_rfl))⟩
  f28 := Try.func60.trans (congrArg some (by kernel_rfl))
  f29 := Try.func61.trans (congrArg some (by kernel_rfl))
  f46 := ⟨Try.f89.name, by decide, Try.func89.trans (congrArg some (by kernel_rfl))⟩
  f47 := Try.func68.trans (congrArg some (by kernel_rfl))
  f48 := Try.func69.trans (congrArg some (by kernel_rfl))
  f49 := ⟨Try.f90.name, by decide, Try.func90.trans (congrArg some (by kernel_rfl))⟩
  f50 := ⟨Try.f91.name, by decide, Try.func91.trans (congrArg some (by kernel_rfl))⟩
  f57 := ⟨Try.f92.name, by decide, Try.func92.trans (congrArg some (by kernel_rfl))⟩
  t0 := Try.underlying0
  a0 := Try.isAgg0
  z0 := Try.sizeOf0
  v0 := Try.zeroValue0
  t3 := Try.underlying3
  a3 := Try.isAgg3
  z3 := Try.sizeOf3
  v3 := Try.zeroValue3
  t4 := Try.underlying4
  a4 := Try.isAgg4
  z4 := Try.sizeOf4
  v4 := Try.zeroValue4
  t5 := Try.underlying5
  a5 := Try.isAgg5
  z5 := Try.sizeOf5
  v5 := Try.zeroValue5
  t9 := Try.underlying9
  a9 := Try.isAgg9
  z9 := Try.sizeOf9
  v9 := Try.zeroValue9
  t22 := Try.underlying99
  a22 := Try.isAgg99
  z22 := Try.sizeOf99
  v22 := Try.zeroValue99
  t25 := Try.underlying108
  a25 := Try.isAgg108
  z25 := Try.sizeOf108
  v25 := Try.zeroValue108
  t39 := Try.underlying67
  a39 := Try.isAgg67
  z39 := Try.sizeOf67
  v39 := Try.zeroValue67
  t45 := Try.underlying74
  a45 := Try.isAgg74
  z45 := Try.sizeOf74
  v45 := Try.zeroValue74
  t46 := Try.underlying75
  a46 := Try.isAgg75
  z46 := Try.sizeOf75
  v46 := Try.zeroValue75
  t50 := Try.underlying80
  a50 := Try.isAgg80
  z50 := Try.sizeOf80
  v50 := Try.zeroValue80
  t53 := Try.underlying83
  a53 := Try.isAgg83
  z53 := Try.sizeOf83
  v53 := Try.zeroValue83
  t55 := Try.underlying85
  a55 := Try.isAgg85
  z55 := Try.sizeOf85
  v55 := Try.zeroValue85
  t66 := Try.underlying92
  a66 := Try.isAgg92
  z66 := Try.sizeOf92
  v66 := Try.zeroValue92
  t70 := Try.underlying96
  a70 := Try.isAgg96
  z70 := Try.sizeOf96
  v70 := Try.zeroValue96
  t76 := Try.underlying104
  a76 := Try.isAgg104
  z76 := Try.sizeOf104
  v76 := Try.zeroValue104
  t77 := Try.underlying105
  a77 := Try.isAgg105
  z77 := Try.sizeOf105
  v77 := Try.zeroValue105 }
end Go.Proofs

/- What a law leans on beyond the base: contracts, plain functions, walks. Conditions: those of each theorem. -/
import Derived.Shelf.SlSortCmp.WholeK
import Derived.Test.YtjgepckncogdaaaGreatNC1
set_option linter.unusedVariables false
set_option linter.unusedSimpArgs false
namespace Go.Proofs
open Go.Shelf
def Tryz.sortEv_ren : Go.Shelf.Ren := ⟨fun | 6 => 290 | 15 => 287 | 14 => 304 | 28 => 302 | 29 => 303 | 20 => 308 | 21 => 309 | 22 => 310 | 23 => 311 | 24 => 312 | 25 => 313 | 26 => 314 | 27 => 315 | 46 => 317 | 47 => 318 | 48 => 319 | 49 => 320 | 50 => 321 | 57 => 322 | n => n, fun | 22 => 287 | 24 => 290 | 25 => 307 | 3 => 3 | 39 => 198 | 0 => 0 | 53 => 22 | 55 => 123 | 4 => 4 | 46 => 319 | 45 => 318 | 50 => 323 | 5 => 5 | 9 => 9 | 66 => 325 | 70 => 329 | 76 => 331 | 77 => 332 | n => n, fun | n => n⟩
theorem Tryz.sortEv : Go.Proofs.SlLaysF0.n6 Tryz.prog Tryz.sortEv_ren := {
 mixed := by kernel_rfl
 f6 := ⟨Tryz.f290.name, by decide, Tryz.func290.trans (congrArg some (by kernel_rfl))⟩
 f14 := ⟨Tryz.f304.name, by decide, Tryz.func304.trans (congrArg some (by kernel_rfl))⟩
 f15 := Tryz.func287.trans (congrArg some (by kernel_rfl))
 f20 := ⟨Tryz.f308.name, by decide, Tryz.func308.trans (congrArg some (by kernel_rfl))⟩
 f21 := ⟨Tryz.f309.name, by decide, Tryz.func309.trans (congrArg some (by kernel_rfl))⟩
 f22 := ⟨Tryz.f310.name, by decide, Tryz.func310.trans (congrArg some (by kernel_rfl))⟩
 f23 := ⟨Tryz.f311.name, by decide, Tryz.func311.trans (congrArg some (by kernel_rfl))⟩
 f24 := ⟨Tryz.f312.name, by decide, Tryz.func312.trans (congrArg some (by kernel_rfl))⟩
 f25 := ⟨Tryz.f313.name, by decide, Tryz.func313.trans (congrArg some (by kernel_rfl))⟩
 f26 := ⟨Tryz.f314.name, by decide, Tryz.func314.trans (congrArg some (by kernel_rfl))⟩
 f27 := ⟨Tryz.f315.name, by decide, Tryz.func315.trans (congrArg some (by kernel_rfl))⟩
 f28 := Tryz.func302.trans (congrArg some (by kernel_rfl))
 f29 := Tryz.func303.trans (congrArg some (by kernel_rfl))
 f46 := ⟨Tryz.f317.name, by decide, Tryz.func317.trans (congrArg some (by kernel_rfl))⟩
 f47 := Tryz.func318.trans (congrArg some (by kernel_rfl))
 f48 := Tryz.func319.trans (congrArg some (by kernel_rfl))
 f49 := ⟨Tryz.f320.name, by decide, Tryz.func320.trans (congrArg some (by kernel_rfl))⟩
 f50 := ⟨Tryz.f321.name, by decide, Tryz.func321.trans (congrArg some (by kernel_rfl))⟩
 f57 := ⟨Tryz.f322.name, by decide, Tryz.func322.trans (congrArg some (by kernel_rfl))⟩
 t0 := Tryz.underlying0
 a0 := Tryz.isAgg0
 z0 := Tryz.sizeOf0
 v0 := Tryz.zeroValue0
 t3 := Tryz.underlying3
 a3 := Tryz.isAgg3
 z3 := Tryz.sizeOf3
 v3 := Tryz.zeroValue3
 t4 := Tryz.underlying4
 a4 := Tryz.isAgg4
 z4 := Tryz.sizeOf4
 v4 := Tryz.zeroValue4
 t5 := Tryz.underlying5
 a5 := Tryz.isAgg5
 z5 := Tryz.sizeOf5
 v5 := Tryz.zeroValue5
 t9 := Tryz.underlying9
 a9 := Tryz.isAgg9
 z9 := Tryz.sizeOf9
 v9 := Tryz.zeroValue9
 t22 := Tryz.underlying287
 a22 := Tryz.isAgg287
 z22 := Tryz.sizeOf287
 v22 := Tryz.zeroValue287
 t25 := Tryz.underlying307
 a25 := Tryz.isAgg307
 z25 := Tryz.sizeOf307
 v25 := Tryz.zeroValue307
 t39 := Tryz.underlying198
 a39 := Tryz.isAgg198
 z39 := Tryz.sizeOf198
 v39 := Tryz.zeroValue198
 t45 := Tryz.underlying318
 a45 := Tryz.isAgg318
 z45 := Tryz.sizeOf318
 v45 := Tryz.zeroValue318
 t46 := Tryz.underlying319
 a46 := Tryz.isAgg319
 z46 := Tryz.sizeOf319
 v46 := Tryz.zeroValue319
 t50 := Tryz.underlying323
 a50 := Tryz.isAgg323
 z50 := Tryz.sizeOf323
 v50 := Tryz.zeroValue323
 t53 := Tryz.underlying22
 a53 := Tryz.isAgg22
 z53 := Tryz.sizeOf22
 v53 := Tryz.zeroValue22
 t55 := Tryz.underlying123
 a55 := Tryz.isAgg123
 z55 := Tryz.sizeOf123
 v55 := Tryz.zeroValue123
 t66 := Tryz.underlying325
 a66 := Tryz.isAgg325
 z66 := Tryz.sizeOf325
 v66 := Tryz.zeroValue325
 t70 := Tryz.underlying329
 a70 := Tryz.isAgg329
 z70 := Tryz.sizeOf329
 v70 := Tryz.zeroValue329
 t76 := Tryz.underlying331
 a76 := Tryz.isAgg331
 z76 := Tryz.sizeOf331
 v76 := Tryz.zeroValue331
 t77 := Tryz.underlying332
 a77 := Tryz.isAgg332
 z77 := Tryz.sizeOf332
 v77 := Tryz.zeroValue332 }
end Go.Proofs

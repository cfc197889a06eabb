/- What a law leans on beyond the base: contracts, plain functions, walks. Conditions: those of each theorem. -/
import Derived.Test.YtjgepckncogdaaaGreatQKChain2
import Derived.Test.YtjgepckncogdaaaGreatQRowPut
set_option linter.unusedVariables false
set_option linter.unusedSimpArgs false
namespace Go.Proofs.YtjgepckncogdaaaGreat
open Go Go.RowKit
set_option linter.unusedVariables false
theorem pubG_key (sd : Bs) (h : Nat) (hl : sd.length = 32) (hh : h ≤ 6) : pubG sd (h : Int) = keyG sd h := by
 unfold pubG
 rw [if_pos ⟨hl, by omega, by omega⟩, Int.toNat_natCast]
end Go.Proofs.YtjgepckncogdaaaGreat

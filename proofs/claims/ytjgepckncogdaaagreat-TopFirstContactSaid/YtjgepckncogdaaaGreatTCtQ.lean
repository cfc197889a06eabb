/- What a law leans on beyond the base: contracts, plain functions, walks. Conditions: those of each theorem. -/
import Derived.Test.YtjgepckncogdaaaGreatTCtT
set_option linter.unusedVariables false
set_option linter.unusedSimpArgs false
namespace Go.Proofs.YtjgepckncogdaaaGreat
open Go Go.RowKit
set_option linter.unusedVariables false
theorem vS_iff {lo hi : Int} : vS lo hi = true ↔ -1152921504606846976 ≤ lo ∧ hi ≤ 1152921504606846976 ∧ lo ≤ hi := by
 unfold vS; rw [decide_eq_true_iff]
end Go.Proofs.YtjgepckncogdaaaGreat

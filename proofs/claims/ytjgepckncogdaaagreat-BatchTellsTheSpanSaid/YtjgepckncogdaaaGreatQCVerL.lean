/- What a law leans on beyond the base: contracts, plain functions, walks. Conditions: those of each theorem. -/
import Derived.Test.YtjgepckncogdaaaGreatQNonce
set_option linter.unusedVariables false
set_option linter.unusedSimpArgs false
namespace Go.Proofs.YtjgepckncogdaaaGreat
open Go Go.RowKit
set_option linter.unusedVariables false
abbrev LinkG := Bs × Bs × Bs
def linkT (ls : List LinkG) (i : Nat) : LinkG := ls.getD i ([], [], [])
def spanS (vs : List (Int × Int)) : List Spec := vs.flatMap fun v => [.val (.int .i64 v.1), .val (.int .i64 v.2)]
theorem spanS_append (a b : List (Int × Int)) : spanS (a ++ b) = spanS a ++ spanS b := by simp [spanS]
theorem span_info : (Tryz.prog.info? 24).map (fun i => (i.zero, i.size, i.bytes)) = some (some (.agg #[.int .i64 0, .int .i64 0]), 2, 16) := by kernel_rfl
end Go.Proofs.YtjgepckncogdaaaGreat

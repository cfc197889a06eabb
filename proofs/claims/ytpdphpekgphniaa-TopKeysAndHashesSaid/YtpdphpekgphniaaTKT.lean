/- The walk of the statement TopKeysAndHashes in the form that its frame wants. No conditions. -/
import Derived.Test.YtpdphpekgphniaaTKL
namespace Go.Proofs.Ytpdphpekgphniaa
open Go Go.RowKit
set_option linter.unusedVariables false
theorem tk_top (seed : Int) (wf0 : (Lit.int .i64 seed).wf = true) (n : Int) (wf1 : (Lit.int .i64 n).wf = true) (B : Nat) (u : Value) (info : Bs) (w : World) (hu : SeesB w B u info) (hB : B ≤ w.heap.size) :
    Calls Try.prog 3 #[.int .i64 seed, .int .i64 n, u] w fun e w' => e = .returned (.bool true) ∧ Below w.heap.size w w' :=
  tk_law B u seed n info w hu hB
end Go.Proofs.Ytpdphpekgphniaa

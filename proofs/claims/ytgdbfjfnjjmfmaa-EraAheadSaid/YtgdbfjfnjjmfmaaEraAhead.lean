/- The statement EraAhead holds: for every timestamp and every number. No conditions. -/
import Derived.Test.YtgdbfjfnjjmfmaaEraC
import Derived.WalkKit
import Derived.ProofKit
import Derived.OpenShut
namespace Go.Proofs.Ytgdbfjfnjjmfmaa
open Go.RowKit
theorem ahead_law (a0 a1 : Int) (w0 : (Lit.int .u64 a0).wf = true) (w1 : (Lit.int .i64 a1).wf = true) (w : World) :
    Calls Try.prog 3 #[.int .u64 a0, .int .i64 a1] w fun e w' => e = .returned (.bool true) ∧ Below w.heap.size w w' := by
  have b0 := bounds_u64 w0
  have b1 := bounds_i64 w1
  have e1 : (wrap64 (IntKind.u64.wrap (IntKind.u64.wrap (a0 + IntKind.u64.wrap a1) - a0)) == a1) = true := by
    rw [beq_iff_eq]; go_arith
  go_enter Try.func3, Try.ntmps3
  go_wp2_with (first | (go_at_call 8; refine (known_any _).mono ?_; rintro e w' ⟨rfl, hb⟩) | (go_at_call 9; refine (ahead_any _ _ _).mono ?_; rintro e w' ⟨rfl, rfl⟩))
  go_ret
  exact ⟨ret_bool (by rw [beq_iff_eq]; go_arith), hb⟩
end Go.Proofs.Ytgdbfjfnjjmfmaa

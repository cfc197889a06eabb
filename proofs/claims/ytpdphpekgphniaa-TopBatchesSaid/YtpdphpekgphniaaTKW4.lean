/- Roots of trees in lanes, worked out. No conditions, no program in sight. -/
import Derived.Test.YtpdphpekgphniaaTKW
import Derived.KernelRfl
namespace Go.Proofs.Ytpdphpekgphniaa.V
open Go
theorem run_9_6 : runB 1000 9 [6] = true := by kernel_rfl
theorem run_9_7 : runB 1000 9 [7] = true := by kernel_rfl
theorem run_9_8 : runB 1000 9 [8] = true := by kernel_rfl
end Go.Proofs.Ytpdphpekgphniaa.V

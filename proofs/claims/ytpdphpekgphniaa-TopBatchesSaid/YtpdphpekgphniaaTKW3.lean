/- Roots of trees in lanes, worked out. No conditions, no program in sight. -/
import Derived.Test.YtpdphpekgphniaaTKW
import Derived.KernelRfl
namespace Go.Proofs.Ytpdphpekgphniaa.V
open Go
theorem run_8_7 : runB 1000 8 [7] = true := by kernel_rfl
theorem run_9_0 : runB 1000 9 [0] = true := by kernel_rfl
theorem run_9_1 : runB 1000 9 [1] = true := by kernel_rfl
theorem run_9_2 : runB 1000 9 [2] = true := by kernel_rfl
theorem run_9_3 : runB 1000 9 [3] = true := by kernel_rfl
theorem run_9_4 : runB 1000 9 [4] = true := by kernel_rfl
theorem run_9_5 : runB 1000 9 [5] = true := by kernel_rfl
end Go.Proofs.Ytpdphpekgphniaa.V

/- Roots of trees in lanes, worked out. No conditions, no program in sight. -/
import Derived.Test.YtpdphpekgphniaaTKW
import Derived.KernelRfl
namespace Go.Proofs.Ytpdphpekgphniaa.V
open Go
theorem run_2_0 : runB 1000 2 [0, 1] = true := by kernel_rfl
theorem run_3_0 : runB 1000 3 [0, 1, 2] = true := by kernel_rfl
theorem run_4_0 : runB 1000 4 [0, 1, 2, 3] = true := by kernel_rfl
theorem run_5_0 : runB 1000 5 [0, 1, 2] = true := by kernel_rfl
theorem run_5_1 : runB 1000 5 [3, 4] = true := by kernel_rfl
theorem run_6_0 : runB 1000 6 [0, 1] = true := by kernel_rfl
theorem run_6_1 : runB 1000 6 [2, 3] = true := by kernel_rfl
theorem run_6_2 : runB 1000 6 [4, 5] = true := by kernel_rfl
theorem run_7_0 : runB 1000 7 [0, 1] = true := by kernel_rfl
theorem run_7_1 : runB 1000 7 [2, 3] = true := by kernel_rfl
end Go.Proofs.Ytpdphpekgphniaa.V

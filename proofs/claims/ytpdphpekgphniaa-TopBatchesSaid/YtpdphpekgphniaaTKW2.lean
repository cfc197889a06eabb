/- Roots of trees in lanes, worked out. No conditions, no program in sight. -/
import Derived.Test.YtpdphpekgphniaaTKW
import Derived.KernelRfl
namespace Go.Proofs.Ytpdphpekgphniaa.V
open Go
theorem run_7_2 : runB 1000 7 [4, 5] = true := by kernel_rfl
theorem run_7_3 : runB 1000 7 [6] = true := by kernel_rfl
theorem run_8_0 : runB 1000 8 [0] = true := by kernel_rfl
theorem run_8_1 : runB 1000 8 [1] = true := by kernel_rfl
theorem run_8_2 : runB 1000 8 [2] = true := by kernel_rfl
theorem run_8_3 : runB 1000 8 [3] = true := by kernel_rfl
theorem run_8_4 : runB 1000 8 [4] = true := by kernel_rfl
theorem run_8_5 : runB 1000 8 [5] = true := by kernel_rfl
theorem run_8_6 : runB 1000 8 [6] = true := by kernel_rfl
end Go.Proofs.Ytpdphpekgphniaa.V

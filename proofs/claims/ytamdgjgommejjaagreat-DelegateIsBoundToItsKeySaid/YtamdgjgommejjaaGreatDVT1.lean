/- Keys worked out. No conditions, no program in sight. -/
import Derived.Test.YtamdgjgommejjaaGreatDVT
import Derived.KernelRfl
namespace Go.Proofs.YtamdgjgommejjaaGreat.V
open Go
theorem keys_0 : runK 0 = true := by kernel_rfl
theorem keys_1 : runK 1 = true := by kernel_rfl
theorem keys_2 : runK 2 = true := by kernel_rfl
end Go.Proofs.YtamdgjgommejjaaGreat.V

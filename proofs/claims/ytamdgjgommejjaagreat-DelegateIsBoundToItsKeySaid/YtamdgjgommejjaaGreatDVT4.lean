/- Keys worked out. No conditions, no program in sight. -/
import Derived.Test.YtamdgjgommejjaaGreatDVT
import Derived.KernelRfl
namespace Go.Proofs.YtamdgjgommejjaaGreat.V
open Go
theorem keys_9 : runK 9 = true := by kernel_rfl
theorem keys_10 : runK 10 = true := by kernel_rfl
theorem keys_11 : runK 11 = true := by kernel_rfl
end Go.Proofs.YtamdgjgommejjaaGreat.V

/- Keys worked out. No conditions, no program in sight. -/
import Derived.Test.YtamdgjgommejjaaGreatDVT
import Derived.KernelRfl
namespace Go.Proofs.YtamdgjgommejjaaGreat.V
open Go
theorem keys_3 : runK 3 = true := by kernel_rfl
theorem keys_4 : runK 4 = true := by kernel_rfl
theorem keys_5 : runK 5 = true := by kernel_rfl
end Go.Proofs.YtamdgjgommejjaaGreat.V

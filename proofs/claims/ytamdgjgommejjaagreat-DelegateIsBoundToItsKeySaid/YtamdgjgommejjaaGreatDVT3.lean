/- Keys worked out. No conditions, no program in sight. -/
import Derived.Test.YtamdgjgommejjaaGreatDVT
import Derived.KernelRfl
namespace Go.Proofs.YtamdgjgommejjaaGreat.V
open Go
theorem keys_6 : runK 6 = true := by kernel_rfl
theorem keys_7 : runK 7 = true := by kernel_rfl
theorem keys_8 : runK 8 = true := by kernel_rfl
end Go.Proofs.YtamdgjgommejjaaGreat.V

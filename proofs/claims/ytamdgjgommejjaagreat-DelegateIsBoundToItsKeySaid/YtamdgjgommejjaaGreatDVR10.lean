/- Signatures of fifty keys each, looked at under fifty other keys. No conditions, no program in sight. -/
import Derived.Test.YtamdgjgommejjaaGreatDVT
import Derived.KernelRfl
namespace Go.Proofs.YtamdgjgommejjaaGreat.V
open Go
theorem grp_9 : runG 450 50 0 50 = true := by kernel_rfl
end Go.Proofs.YtamdgjgommejjaaGreat.V

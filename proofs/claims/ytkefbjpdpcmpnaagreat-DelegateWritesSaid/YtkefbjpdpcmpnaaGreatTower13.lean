/- The walk of the statement SignerPublic: true. No conditions. The walk of the statement SignerVerifies: true. No conditions. -/
import Derived.Test.YtkefbjpdpcmpnaaGreatTower12
namespace Go.Proofs.YtkefbjpdpcmpnaaGreat
open Go.RowKit
set_option linter.unusedVariables false
attribute [local go_sem ↓] Go.wp_at_zero Go.wp_at_succ
end Go.Proofs.YtkefbjpdpcmpnaaGreat
namespace Go.Proofs.YtkefbjpdpcmpnaaGreat
open Go.RowKit
set_option linter.unusedVariables false
attribute [local go_sem ↓] Go.wp_at_zero Go.wp_at_succ
end Go.Proofs.YtkefbjpdpcmpnaaGreat

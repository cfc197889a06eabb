/- Contracts that a law leans on, and its walk. Conditions: those of each theorem. -/
import Derived.Test.YtgehkgjllhkhoaaGreatIBFind
namespace Go.Proofs.YtgehkgjllhkhoaaGreat
open Go Go.RowKit
set_option linter.unusedVariables false
set_option linter.unusedSimpArgs false
attribute [local go_sem ↓] Go.wp_at_zero Go.wp_at_succ
theorem link_mem {ls : List LinkG} {k : Nat} (h : k < ls.length) : linkT ls k ∈ ls := by
 rw [linkT, List.getD_eq_getElem?_getD, List.getElem?_eq_getElem h]
 exact List.getElem_mem h
end Go.Proofs.YtgehkgjllhkhoaaGreat

/- What a law leans on beyond the base: contracts, plain functions, walks. Conditions: those of each theorem. -/
import Derived.Test.YtjgepckncogdaaaGreatQC1
set_option linter.unusedVariables false
set_option linter.unusedSimpArgs false
namespace Go.Proofs.YtjgepckncogdaaaGreat
open Go Go.RowKit
set_option linter.unusedVariables false
attribute [local go_sem ↓] Go.wp_at_zero Go.wp_at_succ
def nonceC (b x : Bs) : Int := if 2048 < b.length then 2 else if x.length = 32 then 0 else 3
def nonceG (b x : Bs) : Bs := if nonceC b x = 0 then sha (b ++ x) else []
def linkS (ls : List (Bs × Bs × Bs)) : List Spec := ls.flatMap fun t => [.byt t.1, .byt t.2.1, .byt t.2.2]
def lastA (ls : List (Bs × Bs × Bs)) : Bs := match ls.getLast? with
 | none => []
 | some t => t.2.2
def nextG (ls : List (Bs × Bs × Bs)) (x : Bs) : Bs := if 8 ≤ ls.length then [] else nonceG (lastA ls) x
end Go.Proofs.YtjgepckncogdaaaGreat

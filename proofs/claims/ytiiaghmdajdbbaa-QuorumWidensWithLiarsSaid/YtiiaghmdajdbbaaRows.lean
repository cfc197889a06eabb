/-
  No cell of these rows narrows 'for every input' (looked for: loops, veiled, ifaces, maps, wideKeys, modest, calm, conditions, laid).
  DERIVED. THE GIVEN ROWS OF THIS SEAT. 5 by the template 'for every input the law returns true; each argument reads behind the call as it read before'; 0 by the template 'total and deterministic' (their statements: YtiiaghmdajdbbaaTotals.lean).
  GIVEN WITH THE SEED: the statements are not yours to turn. If you find one false, say at which input.
  Laid BY PROGRAM, IN A SANDBOX (cutbox-rows.mjs): the forced cells as the released guide's own fill.sh prints them over the translation 35651ba3702bc40d… (all of the seat's roots in one cut). By AI agents, Wed Nov 11 2026. No macro, syntax, notation, axiom, sorry.
-/
import Derived.Test.YtiiaghmdajdbbaaChecked
import GoSem.Claim
import GoSem.ClaimJoined
import GoSem.ClaimMapViews
import Derived.JoinedTies
import Derived.KernelRfl
namespace Go.Proofs.Ytiiaghmdajdbbaa
/- THE CELL 'sum', in the pinned program and in every row, IS THE sha256 OF THE DUMP (.gsa) THAT YtiiaghmdajdbbaaProg.lean LOADS. Nothing in Lean hashes anything: it is a label: what it is worth is what the hold of that sum in a sandbox is worth. -/
noncomputable def Try.pinned : Pinned := { name := "ytiiaghmdajdbbaa", sum := "35651ba3702bc40deff9605f5ad73492bf8d9334d8db15b55da6ef923f6e410d", checked := Try.checked }
namespace Rows
def none {H : Type} : Left H := { results := [], args := [] }

/-- 'sectimelaw35.QuorumStaysWithinHonestSpans': WHATEVER THE INPUT: true; the input reads as it did. -/
def quorumStaysWithinHonestSpansSpec : ChangeSpec := { name := "quorumStaysWithinHonestSpans", fn := fun _ => fun
  | [d1, d2] => { results := [.lit (.bool true)], args := [d1, d2] }
  | _ => none }
def quorumStaysWithinHonestSpansRow : OpenClaim := { program := "ytiiaghmdajdbbaa", sum := "35651ba3702bc40deff9605f5ad73492bf8d9334d8db15b55da6ef923f6e410d", func := "sectime/sectimelaw35.QuorumStaysWithinHonestSpans", spec := "quorumStaysWithinHonestSpans", unfollowed := true, recurses := true, apart := false }
def QuorumStaysWithinHonestSpansSaid : Prop := quorumStaysWithinHonestSpansRow.holds Try.pinned (OpenSpec.ofChange quorumStaysWithinHonestSpansSpec)

/-- ITS FALSE NEIGHBOUR: 'it returns false'. Refute it at one input. -/
def quorumStaysWithinHonestSpansWrong : ChangeSpec := { name := "quorumStaysWithinHonestSpans", fn := fun _ => fun
  | [d1, d2] => { results := [.lit (.bool false)], args := [d1, d2] }
  | _ => none }
def QuorumStaysWithinHonestSpansWrongFalsely : Prop := quorumStaysWithinHonestSpansRow.holds Try.pinned (OpenSpec.ofChange quorumStaysWithinHonestSpansWrong)

/-- 'sectimelaw35.QuorumLeavesFewOutside': WHATEVER THE INPUT: true; the input reads as it did. -/
def quorumLeavesFewOutsideSpec : ChangeSpec := { name := "quorumLeavesFewOutside", fn := fun _ => fun
  | [d1, d2] => { results := [.lit (.bool true)], args := [d1, d2] }
  | _ => none }
def quorumLeavesFewOutsideRow : OpenClaim := { program := "ytiiaghmdajdbbaa", sum := "35651ba3702bc40deff9605f5ad73492bf8d9334d8db15b55da6ef923f6e410d", func := "sectime/sectimelaw35.QuorumLeavesFewOutside", spec := "quorumLeavesFewOutside", unfollowed := true, recurses := true, apart := false }
def QuorumLeavesFewOutsideSaid : Prop := quorumLeavesFewOutsideRow.holds Try.pinned (OpenSpec.ofChange quorumLeavesFewOutsideSpec)

/-- ITS FALSE NEIGHBOUR: 'it returns false'. Refute it at one input. -/
def quorumLeavesFewOutsideWrong : ChangeSpec := { name := "quorumLeavesFewOutside", fn := fun _ => fun
  | [d1, d2] => { results := [.lit (.bool false)], args := [d1, d2] }
  | _ => none }
def QuorumLeavesFewOutsideWrongFalsely : Prop := quorumLeavesFewOutsideRow.holds Try.pinned (OpenSpec.ofChange quorumLeavesFewOutsideWrong)

/-- 'sectimelaw35.QuorumAgrees': WHATEVER THE INPUT: true; the input reads as it did. -/
def quorumAgreesSpec : ChangeSpec := { name := "quorumAgrees", fn := fun _ => fun
  | [d1, d2, d3] => { results := [.lit (.bool true)], args := [d1, d2, d3] }
  | _ => none }
def quorumAgreesRow : OpenClaim := { program := "ytiiaghmdajdbbaa", sum := "35651ba3702bc40deff9605f5ad73492bf8d9334d8db15b55da6ef923f6e410d", func := "sectime/sectimelaw35.QuorumAgrees", spec := "quorumAgrees", unfollowed := true, recurses := true, apart := false }
def QuorumAgreesSaid : Prop := quorumAgreesRow.holds Try.pinned (OpenSpec.ofChange quorumAgreesSpec)

/-- ITS FALSE NEIGHBOUR: 'it returns false'. Refute it at one input. -/
def quorumAgreesWrong : ChangeSpec := { name := "quorumAgrees", fn := fun _ => fun
  | [d1, d2, d3] => { results := [.lit (.bool false)], args := [d1, d2, d3] }
  | _ => none }
def QuorumAgreesWrongFalsely : Prop := quorumAgreesRow.holds Try.pinned (OpenSpec.ofChange quorumAgreesWrong)

/-- 'sectimelaw35.QuorumContainsTruth': WHATEVER THE INPUT: true; the input reads as it did. -/
def quorumContainsTruthSpec : ChangeSpec := { name := "quorumContainsTruth", fn := fun _ => fun
  | [d1, d2] => { results := [.lit (.bool true)], args := [d1, d2] }
  | _ => none }
def quorumContainsTruthRow : OpenClaim := { program := "ytiiaghmdajdbbaa", sum := "35651ba3702bc40deff9605f5ad73492bf8d9334d8db15b55da6ef923f6e410d", func := "sectime/sectimelaw35.QuorumContainsTruth", spec := "quorumContainsTruth", unfollowed := true, recurses := true, apart := false }
def QuorumContainsTruthSaid : Prop := quorumContainsTruthRow.holds Try.pinned (OpenSpec.ofChange quorumContainsTruthSpec)

/-- ITS FALSE NEIGHBOUR: 'it returns false'. Refute it at one input. -/
def quorumContainsTruthWrong : ChangeSpec := { name := "quorumContainsTruth", fn := fun _ => fun
  | [d1, d2] => { results := [.lit (.bool false)], args := [d1, d2] }
  | _ => none }
def QuorumContainsTruthWrongFalsely : Prop := quorumContainsTruthRow.holds Try.pinned (OpenSpec.ofChange quorumContainsTruthWrong)

/-- 'sectimelaw35.QuorumWidensWithLiars': WHATEVER THE INPUT: true; the input reads as it did. -/
def quorumWidensWithLiarsSpec : ChangeSpec := { name := "quorumWidensWithLiars", fn := fun _ => fun
  | [d1, d2, d3] => { results := [.lit (.bool true)], args := [d1, d2, d3] }
  | _ => none }
def quorumWidensWithLiarsRow : OpenClaim := { program := "ytiiaghmdajdbbaa", sum := "35651ba3702bc40deff9605f5ad73492bf8d9334d8db15b55da6ef923f6e410d", func := "sectime/sectimelaw35.QuorumWidensWithLiars", spec := "quorumWidensWithLiars", unfollowed := true, recurses := true, apart := false }
def QuorumWidensWithLiarsSaid : Prop := quorumWidensWithLiarsRow.holds Try.pinned (OpenSpec.ofChange quorumWidensWithLiarsSpec)

/-- ITS FALSE NEIGHBOUR: 'it returns false'. Refute it at one input. -/
def quorumWidensWithLiarsWrong : ChangeSpec := { name := "quorumWidensWithLiars", fn := fun _ => fun
  | [d1, d2, d3] => { results := [.lit (.bool false)], args := [d1, d2, d3] }
  | _ => none }
def QuorumWidensWithLiarsWrongFalsely : Prop := quorumWidensWithLiarsRow.holds Try.pinned (OpenSpec.ofChange quorumWidensWithLiarsWrong)

/- THE SECOND FORM. 'bulk': how many values and letters a reading holds, each counted each time it is reached (what is shared counts as often as it is met; a slice's spare places count too). A statement '..UptoSaid' is the law's where the arguments, and the package variables that the reading takes, are together of bulk at most 1048576: NARROWER than '..Said'. Prove '..Said' where nothing that the law and all that it calls make is longer than what came in: it says more and counts as full. Else prove '..UptoSaid'. A law counts once. -/
mutual
def uptoBulk {H : Type} : DataW H → Nat
  | .lit (.string bytes) => bytes.length + 1
  | .lit _ => 1
  | .nil => 1
  | .ptr d => uptoBulk d + 1
  | .slice elems spare => uptoBulkAll elems + uptoBulkAll spare + 1
  | .agg parts => uptoBulkAll parts + 1
  | .iface _ d => uptoBulk d + 1
  | .map entries => uptoBulkEntries entries + 1
  | .held _ => 1
def uptoBulkAll {H : Type} : List (DataW H) → Nat
  | [] => 0
  | d :: r => uptoBulk d + uptoBulkAll r
def uptoBulkEntries {H : Type} : List (Lit × DataW H) → Nat
  | [] => 0
  | x :: r => uptoBulkEntry x + uptoBulkEntries r
def uptoBulkEntry {H : Type} : Lit × DataW H → Nat
  | (.string bytes, d) => bytes.length + uptoBulk d + 1
  | (_, d) => uptoBulk d + 1
 end
def uptoSmall : (H : Type) → List (DataW H) → Bool := fun _ ds => decide (uptoBulkAll ds ≤ 1048576)
def OpenSpec.upto (s : _root_.Go.ChangeSpec) : _root_.Go.OpenSpec := { _root_.Go.OpenSpec.ofChange s with cond := some uptoSmall }

/-- 'sectimelaw35.QuorumStaysWithinHonestSpans', WHERE WHAT IT READS IS OF BULK AT MOST 1048576: true; the input reads as it did. -/
def quorumStaysWithinHonestSpansUptoRow : OpenClaim := { program := "ytiiaghmdajdbbaa", sum := "35651ba3702bc40deff9605f5ad73492bf8d9334d8db15b55da6ef923f6e410d", func := "sectime/sectimelaw35.QuorumStaysWithinHonestSpans", spec := "quorumStaysWithinHonestSpans", unfollowed := true, recurses := true, apart := false, narrowed := true }
def QuorumStaysWithinHonestSpansUptoSaid : Prop := quorumStaysWithinHonestSpansUptoRow.holds Try.pinned (OpenSpec.upto quorumStaysWithinHonestSpansSpec)

/-- 'sectimelaw35.QuorumLeavesFewOutside', WHERE WHAT IT READS IS OF BULK AT MOST 1048576: true; the input reads as it did. -/
def quorumLeavesFewOutsideUptoRow : OpenClaim := { program := "ytiiaghmdajdbbaa", sum := "35651ba3702bc40deff9605f5ad73492bf8d9334d8db15b55da6ef923f6e410d", func := "sectime/sectimelaw35.QuorumLeavesFewOutside", spec := "quorumLeavesFewOutside", unfollowed := true, recurses := true, apart := false, narrowed := true }
def QuorumLeavesFewOutsideUptoSaid : Prop := quorumLeavesFewOutsideUptoRow.holds Try.pinned (OpenSpec.upto quorumLeavesFewOutsideSpec)

/-- 'sectimelaw35.QuorumAgrees', WHERE WHAT IT READS IS OF BULK AT MOST 1048576: true; the input reads as it did. -/
def quorumAgreesUptoRow : OpenClaim := { program := "ytiiaghmdajdbbaa", sum := "35651ba3702bc40deff9605f5ad73492bf8d9334d8db15b55da6ef923f6e410d", func := "sectime/sectimelaw35.QuorumAgrees", spec := "quorumAgrees", unfollowed := true, recurses := true, apart := false, narrowed := true }
def QuorumAgreesUptoSaid : Prop := quorumAgreesUptoRow.holds Try.pinned (OpenSpec.upto quorumAgreesSpec)

/-- 'sectimelaw35.QuorumContainsTruth', WHERE WHAT IT READS IS OF BULK AT MOST 1048576: true; the input reads as it did. -/
def quorumContainsTruthUptoRow : OpenClaim := { program := "ytiiaghmdajdbbaa", sum := "35651ba3702bc40deff9605f5ad73492bf8d9334d8db15b55da6ef923f6e410d", func := "sectime/sectimelaw35.QuorumContainsTruth", spec := "quorumContainsTruth", unfollowed := true, recurses := true, apart := false, narrowed := true }
def QuorumContainsTruthUptoSaid : Prop := quorumContainsTruthUptoRow.holds Try.pinned (OpenSpec.upto quorumContainsTruthSpec)

/-- 'sectimelaw35.QuorumWidensWithLiars', WHERE WHAT IT READS IS OF BULK AT MOST 1048576: true; the input reads as it did. -/
def quorumWidensWithLiarsUptoRow : OpenClaim := { program := "ytiiaghmdajdbbaa", sum := "35651ba3702bc40deff9605f5ad73492bf8d9334d8db15b55da6ef923f6e410d", func := "sectime/sectimelaw35.QuorumWidensWithLiars", spec := "quorumWidensWithLiars", unfollowed := true, recurses := true, apart := false, narrowed := true }
def QuorumWidensWithLiarsUptoSaid : Prop := quorumWidensWithLiarsUptoRow.holds Try.pinned (OpenSpec.upto quorumWidensWithLiarsSpec)

end Rows
end Go.Proofs.Ytiiaghmdajdbbaa

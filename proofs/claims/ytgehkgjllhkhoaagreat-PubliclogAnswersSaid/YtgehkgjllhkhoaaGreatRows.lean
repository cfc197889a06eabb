/-
  No cell of these rows narrows 'for every input' (looked for: loops, veiled, ifaces, maps, wideKeys, modest, calm, conditions, laid).
  DERIVED. THE GIVEN ROWS OF THIS SEAT. 9 by the template 'for every input the law returns true; each argument reads behind the call as it read before'; 0 by the template 'total and deterministic' (their statements: YtgehkgjllhkhoaaGreatTotals.lean).
  GIVEN WITH THE SEED: the statements are not yours to turn. If you find one false, say at which input.
  Laid BY PROGRAM, IN A SANDBOX (cutbox-rows.mjs): the forced cells as the released guide's own fill.sh prints them over the translation 7cff3efa9bde5e44… (all of the seat's roots in one cut). By AI agents, Wed Nov 11 2026. No macro, syntax, notation, axiom, sorry.
-/
import Derived.Test.YtgehkgjllhkhoaaGreatChecked
import GoSem.Claim
import GoSem.ClaimJoined
import GoSem.ClaimMapViews
import Derived.JoinedTies
import Derived.KernelRfl
namespace Go.Proofs.YtgehkgjllhkhoaaGreat
/- THE CELL 'sum', in the pinned program and in every row, IS THE sha256 OF THE DUMP (.gsa) THAT YtgehkgjllhkhoaaGreatProg.lean LOADS. Nothing in Lean hashes anything: it is a label: what it is worth is what the hold of that sum in a sandbox is worth. -/
noncomputable def Tryz.pinned : Pinned := { name := "ytgehkgjllhkhoaagreat", sum := "7cff3efa9bde5e4488fa24dc933963bbadf510343e428f4e09bf42c397dba1c2", checked := Tryz.checked }
namespace Rows
def none {H : Type} : Left H := { results := [], args := [] }

/-- 'sectimelaw32.BlameNeedsOneServer': WHATEVER THE INPUT: true; the input reads as it did. -/
def blameNeedsOneServerSpec : ChangeSpec := { name := "blameNeedsOneServer", fn := fun _ => fun
  | [d1, d2, d3, d4, d5] => { results := [.lit (.bool true)], args := [d1, d2, d3, d4, d5] }
  | _ => none }
def blameNeedsOneServerRow : OpenClaim := { program := "ytgehkgjllhkhoaagreat", sum := "7cff3efa9bde5e4488fa24dc933963bbadf510343e428f4e09bf42c397dba1c2", func := "sectime/sectimelaw32.BlameNeedsOneServer", spec := "blameNeedsOneServer", unfollowed := true, recurses := true, apart := false }
def BlameNeedsOneServerSaid : Prop := blameNeedsOneServerRow.holds Tryz.pinned (OpenSpec.ofChange blameNeedsOneServerSpec)

/-- ITS FALSE NEIGHBOUR: 'it returns false'. Refute it at one input. -/
def blameNeedsOneServerWrong : ChangeSpec := { name := "blameNeedsOneServer", fn := fun _ => fun
  | [d1, d2, d3, d4, d5] => { results := [.lit (.bool false)], args := [d1, d2, d3, d4, d5] }
  | _ => none }
def BlameNeedsOneServerWrongFalsely : Prop := blameNeedsOneServerRow.holds Tryz.pinned (OpenSpec.ofChange blameNeedsOneServerWrong)

/-- 'sectimelaw32.BlameNeverNamesTheHonest': WHATEVER THE INPUT: true; the input reads as it did. -/
def blameNeverNamesTheHonestSpec : ChangeSpec := { name := "blameNeverNamesTheHonest", fn := fun _ => fun
  | [d1, d2] => { results := [.lit (.bool true)], args := [d1, d2] }
  | _ => none }
def blameNeverNamesTheHonestRow : OpenClaim := { program := "ytgehkgjllhkhoaagreat", sum := "7cff3efa9bde5e4488fa24dc933963bbadf510343e428f4e09bf42c397dba1c2", func := "sectime/sectimelaw32.BlameNeverNamesTheHonest", spec := "blameNeverNamesTheHonest", unfollowed := true, recurses := true, apart := false }
def BlameNeverNamesTheHonestSaid : Prop := blameNeverNamesTheHonestRow.holds Tryz.pinned (OpenSpec.ofChange blameNeverNamesTheHonestSpec)

/-- ITS FALSE NEIGHBOUR: 'it returns false'. Refute it at one input. -/
def blameNeverNamesTheHonestWrong : ChangeSpec := { name := "blameNeverNamesTheHonest", fn := fun _ => fun
  | [d1, d2] => { results := [.lit (.bool false)], args := [d1, d2] }
  | _ => none }
def BlameNeverNamesTheHonestWrongFalsely : Prop := blameNeverNamesTheHonestRow.holds Tryz.pinned (OpenSpec.ofChange blameNeverNamesTheHonestWrong)

/-- 'sectimelaw29.BatchTellsTheSpan': WHATEVER THE INPUT: true; the input reads as it did. -/
def batchTellsTheSpanSpec : ChangeSpec := { name := "batchTellsTheSpan", fn := fun _ => fun
  | [d1, d2, d3, d4, d5] => { results := [.lit (.bool true)], args := [d1, d2, d3, d4, d5] }
  | _ => none }
def batchTellsTheSpanRow : OpenClaim := { program := "ytgehkgjllhkhoaagreat", sum := "7cff3efa9bde5e4488fa24dc933963bbadf510343e428f4e09bf42c397dba1c2", func := "sectime/sectimelaw29.BatchTellsTheSpan", spec := "batchTellsTheSpan", inPlace := ["slices.overlaps[[]byte]"], unfollowed := true, recurses := true, apart := false }
def BatchTellsTheSpanSaid : Prop := batchTellsTheSpanRow.holds Tryz.pinned (OpenSpec.ofChange batchTellsTheSpanSpec)

/-- ITS FALSE NEIGHBOUR: 'it returns false'. Refute it at one input. -/
def batchTellsTheSpanWrong : ChangeSpec := { name := "batchTellsTheSpan", fn := fun _ => fun
  | [d1, d2, d3, d4, d5] => { results := [.lit (.bool false)], args := [d1, d2, d3, d4, d5] }
  | _ => none }
def BatchTellsTheSpanWrongFalsely : Prop := batchTellsTheSpanRow.holds Tryz.pinned (OpenSpec.ofChange batchTellsTheSpanWrong)

/-- 'sectimelaw33.PubliclogAdds': WHATEVER THE INPUT: true; the input reads as it did. -/
def publiclogAddsSpec : ChangeSpec := { name := "publiclogAdds", fn := fun _ => fun
  | [d1, d2, d3, d4, d5] => { results := [.lit (.bool true)], args := [d1, d2, d3, d4, d5] }
  | _ => none }
def publiclogAddsRow : OpenClaim := { program := "ytgehkgjllhkhoaagreat", sum := "7cff3efa9bde5e4488fa24dc933963bbadf510343e428f4e09bf42c397dba1c2", func := "sectime/sectimelaw33.PubliclogAdds", spec := "publiclogAdds", unfollowed := true, recurses := true, apart := false }
def PubliclogAddsSaid : Prop := publiclogAddsRow.holds Tryz.pinned (OpenSpec.ofChange publiclogAddsSpec)

/-- ITS FALSE NEIGHBOUR: 'it returns false'. Refute it at one input. -/
def publiclogAddsWrong : ChangeSpec := { name := "publiclogAdds", fn := fun _ => fun
  | [d1, d2, d3, d4, d5] => { results := [.lit (.bool false)], args := [d1, d2, d3, d4, d5] }
  | _ => none }
def PubliclogAddsWrongFalsely : Prop := publiclogAddsRow.holds Tryz.pinned (OpenSpec.ofChange publiclogAddsWrong)

/-- 'sectimelaw33.PubliclogAnswers': WHATEVER THE INPUT: true; the input reads as it did. -/
def publiclogAnswersSpec : ChangeSpec := { name := "publiclogAnswers", fn := fun _ => fun
  | [d1, d2, d3, d4] => { results := [.lit (.bool true)], args := [d1, d2, d3, d4] }
  | _ => none }
def publiclogAnswersRow : OpenClaim := { program := "ytgehkgjllhkhoaagreat", sum := "7cff3efa9bde5e4488fa24dc933963bbadf510343e428f4e09bf42c397dba1c2", func := "sectime/sectimelaw33.PubliclogAnswers", spec := "publiclogAnswers", unfollowed := true, recurses := true, apart := false }
def PubliclogAnswersSaid : Prop := publiclogAnswersRow.holds Tryz.pinned (OpenSpec.ofChange publiclogAnswersSpec)

/-- ITS FALSE NEIGHBOUR: 'it returns false'. Refute it at one input. -/
def publiclogAnswersWrong : ChangeSpec := { name := "publiclogAnswers", fn := fun _ => fun
  | [d1, d2, d3, d4] => { results := [.lit (.bool false)], args := [d1, d2, d3, d4] }
  | _ => none }
def PubliclogAnswersWrongFalsely : Prop := publiclogAnswersRow.holds Tryz.pinned (OpenSpec.ofChange publiclogAnswersWrong)

/-- 'sectimelaw33.PubliclogLosesNothing': WHATEVER THE INPUT: true; the input reads as it did. -/
def publiclogLosesNothingSpec : ChangeSpec := { name := "publiclogLosesNothing", fn := fun _ => fun
  | [d] => { results := [.lit (.bool true)], args := [d] }
  | _ => none }
def publiclogLosesNothingRow : OpenClaim := { program := "ytgehkgjllhkhoaagreat", sum := "7cff3efa9bde5e4488fa24dc933963bbadf510343e428f4e09bf42c397dba1c2", func := "sectime/sectimelaw33.PubliclogLosesNothing", spec := "publiclogLosesNothing", unfollowed := true, recurses := true, apart := false }
def PubliclogLosesNothingSaid : Prop := publiclogLosesNothingRow.holds Tryz.pinned (OpenSpec.ofChange publiclogLosesNothingSpec)

/-- ITS FALSE NEIGHBOUR: 'it returns false'. Refute it at one input. -/
def publiclogLosesNothingWrong : ChangeSpec := { name := "publiclogLosesNothing", fn := fun _ => fun
  | [d] => { results := [.lit (.bool false)], args := [d] }
  | _ => none }
def PubliclogLosesNothingWrongFalsely : Prop := publiclogLosesNothingRow.holds Tryz.pinned (OpenSpec.ofChange publiclogLosesNothingWrong)

/-- 'sectimelaw30.DelegateIsBoundToItsKey': WHATEVER THE INPUT: true; the input reads as it did. -/
def delegateIsBoundToItsKeySpec : ChangeSpec := { name := "delegateIsBoundToItsKey", fn := fun _ => fun
  | [d1, d2] => { results := [.lit (.bool true)], args := [d1, d2] }
  | _ => none }
def delegateIsBoundToItsKeyRow : OpenClaim := { program := "ytgehkgjllhkhoaagreat", sum := "7cff3efa9bde5e4488fa24dc933963bbadf510343e428f4e09bf42c397dba1c2", func := "sectime/sectimelaw30.DelegateIsBoundToItsKey", spec := "delegateIsBoundToItsKey", inPlace := ["slices.overlaps[[]byte]"], unfollowed := true, recurses := true, apart := false }
def DelegateIsBoundToItsKeySaid : Prop := delegateIsBoundToItsKeyRow.holds Tryz.pinned (OpenSpec.ofChange delegateIsBoundToItsKeySpec)

/-- ITS FALSE NEIGHBOUR: 'it returns false'. Refute it at one input. -/
def delegateIsBoundToItsKeyWrong : ChangeSpec := { name := "delegateIsBoundToItsKey", fn := fun _ => fun
  | [d1, d2] => { results := [.lit (.bool false)], args := [d1, d2] }
  | _ => none }
def DelegateIsBoundToItsKeyWrongFalsely : Prop := delegateIsBoundToItsKeyRow.holds Tryz.pinned (OpenSpec.ofChange delegateIsBoundToItsKeyWrong)

/-- 'sectimelaw30.DelegateKeepsTheWindow': WHATEVER THE INPUT: true; the input reads as it did. -/
def delegateKeepsTheWindowSpec : ChangeSpec := { name := "delegateKeepsTheWindow", fn := fun _ => fun
  | [d1, d2, d3, d4, d5] => { results := [.lit (.bool true)], args := [d1, d2, d3, d4, d5] }
  | _ => none }
def delegateKeepsTheWindowRow : OpenClaim := { program := "ytgehkgjllhkhoaagreat", sum := "7cff3efa9bde5e4488fa24dc933963bbadf510343e428f4e09bf42c397dba1c2", func := "sectime/sectimelaw30.DelegateKeepsTheWindow", spec := "delegateKeepsTheWindow", inPlace := ["slices.overlaps[[]byte]"], unfollowed := true, recurses := true, apart := false }
def DelegateKeepsTheWindowSaid : Prop := delegateKeepsTheWindowRow.holds Tryz.pinned (OpenSpec.ofChange delegateKeepsTheWindowSpec)

/-- ITS FALSE NEIGHBOUR: 'it returns false'. Refute it at one input. -/
def delegateKeepsTheWindowWrong : ChangeSpec := { name := "delegateKeepsTheWindow", fn := fun _ => fun
  | [d1, d2, d3, d4, d5] => { results := [.lit (.bool false)], args := [d1, d2, d3, d4, d5] }
  | _ => none }
def DelegateKeepsTheWindowWrongFalsely : Prop := delegateKeepsTheWindowRow.holds Tryz.pinned (OpenSpec.ofChange delegateKeepsTheWindowWrong)

/-- 'sectimetop.TopChainedBatches': WHATEVER THE INPUT: true; the input reads as it did. -/
def topChainedBatchesSpec : ChangeSpec := { name := "topChainedBatches", fn := fun _ => fun
  | [d1, d2, d3, d4, d5] => { results := [.lit (.bool true)], args := [d1, d2, d3, d4, d5] }
  | _ => none }
def topChainedBatchesRow : OpenClaim := { program := "ytgehkgjllhkhoaagreat", sum := "7cff3efa9bde5e4488fa24dc933963bbadf510343e428f4e09bf42c397dba1c2", func := "sectime/sectimetop.TopChainedBatches", spec := "topChainedBatches", inPlace := ["slices.overlaps[[]byte]"], unfollowed := true, recurses := true, named := ["math/bits.divideError", "math/bits.overflowError"], apart := false }
def TopChainedBatchesSaid : Prop := topChainedBatchesRow.holds Tryz.pinned (OpenSpec.ofChange topChainedBatchesSpec)

/-- ITS FALSE NEIGHBOUR: 'it returns false'. Refute it at one input. -/
def topChainedBatchesWrong : ChangeSpec := { name := "topChainedBatches", fn := fun _ => fun
  | [d1, d2, d3, d4, d5] => { results := [.lit (.bool false)], args := [d1, d2, d3, d4, d5] }
  | _ => none }
def TopChainedBatchesWrongFalsely : Prop := topChainedBatchesRow.holds Tryz.pinned (OpenSpec.ofChange topChainedBatchesWrong)

/- THE SECOND FORM. 'bulk': how many values and letters a reading holds, each counted each time it is reached (what is shared counts as often as it is met; a slice's spare places count too). A statement '..UptoSaid' is the law's where the arguments, and the package variables that the reading takes, are together of bulk at most 1048576: NARROWER than '..Said'. Prove '..Said' where nothing that the law and all that it calls make is longer than what came in: it says more and counts as full. Else prove '..UptoSaid'. A law counts once. -/
mutual
def uptoBulk {H : Type} : DataW H → Nat
  | .lit (.string bytes) => bytes.length + 1
  | .lit _ => 1
  | .nil => 1
  | .ptr d => uptoBulk d + 1
  | .slice elems spare => uptoBulkAll elems + uptoBulkAll spare + 1
  | .agg parts => uptoBulkAll parts + 1
  | .iface _ d => uptoBulk d + 1
  | .map entries => uptoBulkEntries entries + 1
  | .held _ => 1
def uptoBulkAll {H : Type} : List (DataW H) → Nat
  | [] => 0
  | d :: r => uptoBulk d + uptoBulkAll r
def uptoBulkEntries {H : Type} : List (Lit × DataW H) → Nat
  | [] => 0
  | x :: r => uptoBulkEntry x + uptoBulkEntries r
def uptoBulkEntry {H : Type} : Lit × DataW H → Nat
  | (.string bytes, d) => bytes.length + uptoBulk d + 1
  | (_, d) => uptoBulk d + 1
 end
def uptoSmall : (H : Type) → List (DataW H) → Bool := fun _ ds => decide (uptoBulkAll ds ≤ 1048576)
def OpenSpec.upto (s : _root_.Go.ChangeSpec) : _root_.Go.OpenSpec := { _root_.Go.OpenSpec.ofChange s with cond := some uptoSmall }

/-- 'sectimelaw32.BlameNeedsOneServer', WHERE WHAT IT READS IS OF BULK AT MOST 1048576: true; the input reads as it did. -/
def blameNeedsOneServerUptoRow : OpenClaim := { program := "ytgehkgjllhkhoaagreat", sum := "7cff3efa9bde5e4488fa24dc933963bbadf510343e428f4e09bf42c397dba1c2", func := "sectime/sectimelaw32.BlameNeedsOneServer", spec := "blameNeedsOneServer", unfollowed := true, recurses := true, apart := false, narrowed := true }
def BlameNeedsOneServerUptoSaid : Prop := blameNeedsOneServerUptoRow.holds Tryz.pinned (OpenSpec.upto blameNeedsOneServerSpec)

/-- 'sectimelaw32.BlameNeverNamesTheHonest', WHERE WHAT IT READS IS OF BULK AT MOST 1048576: true; the input reads as it did. -/
def blameNeverNamesTheHonestUptoRow : OpenClaim := { program := "ytgehkgjllhkhoaagreat", sum := "7cff3efa9bde5e4488fa24dc933963bbadf510343e428f4e09bf42c397dba1c2", func := "sectime/sectimelaw32.BlameNeverNamesTheHonest", spec := "blameNeverNamesTheHonest", unfollowed := true, recurses := true, apart := false, narrowed := true }
def BlameNeverNamesTheHonestUptoSaid : Prop := blameNeverNamesTheHonestUptoRow.holds Tryz.pinned (OpenSpec.upto blameNeverNamesTheHonestSpec)

/-- 'sectimelaw29.BatchTellsTheSpan', WHERE WHAT IT READS IS OF BULK AT MOST 1048576: true; the input reads as it did. -/
def batchTellsTheSpanUptoRow : OpenClaim := { program := "ytgehkgjllhkhoaagreat", sum := "7cff3efa9bde5e4488fa24dc933963bbadf510343e428f4e09bf42c397dba1c2", func := "sectime/sectimelaw29.BatchTellsTheSpan", spec := "batchTellsTheSpan", inPlace := ["slices.overlaps[[]byte]"], unfollowed := true, recurses := true, apart := false, narrowed := true }
def BatchTellsTheSpanUptoSaid : Prop := batchTellsTheSpanUptoRow.holds Tryz.pinned (OpenSpec.upto batchTellsTheSpanSpec)

/-- 'sectimelaw33.PubliclogAdds', WHERE WHAT IT READS IS OF BULK AT MOST 1048576: true; the input reads as it did. -/
def publiclogAddsUptoRow : OpenClaim := { program := "ytgehkgjllhkhoaagreat", sum := "7cff3efa9bde5e4488fa24dc933963bbadf510343e428f4e09bf42c397dba1c2", func := "sectime/sectimelaw33.PubliclogAdds", spec := "publiclogAdds", unfollowed := true, recurses := true, apart := false, narrowed := true }
def PubliclogAddsUptoSaid : Prop := publiclogAddsUptoRow.holds Tryz.pinned (OpenSpec.upto publiclogAddsSpec)

/-- 'sectimelaw33.PubliclogAnswers', WHERE WHAT IT READS IS OF BULK AT MOST 1048576: true; the input reads as it did. -/
def publiclogAnswersUptoRow : OpenClaim := { program := "ytgehkgjllhkhoaagreat", sum := "7cff3efa9bde5e4488fa24dc933963bbadf510343e428f4e09bf42c397dba1c2", func := "sectime/sectimelaw33.PubliclogAnswers", spec := "publiclogAnswers", unfollowed := true, recurses := true, apart := false, narrowed := true }
def PubliclogAnswersUptoSaid : Prop := publiclogAnswersUptoRow.holds Tryz.pinned (OpenSpec.upto publiclogAnswersSpec)

/-- 'sectimelaw33.PubliclogLosesNothing', WHERE WHAT IT READS IS OF BULK AT MOST 1048576: true; the input reads as it did. -/
def publiclogLosesNothingUptoRow : OpenClaim := { program := "ytgehkgjllhkhoaagreat", sum := "7cff3efa9bde5e4488fa24dc933963bbadf510343e428f4e09bf42c397dba1c2", func := "sectime/sectimelaw33.PubliclogLosesNothing", spec := "publiclogLosesNothing", unfollowed := true, recurses := true, apart := false, narrowed := true }
def PubliclogLosesNothingUptoSaid : Prop := publiclogLosesNothingUptoRow.holds Tryz.pinned (OpenSpec.upto publiclogLosesNothingSpec)

/-- 'sectimelaw30.DelegateIsBoundToItsKey', WHERE WHAT IT READS IS OF BULK AT MOST 1048576: true; the input reads as it did. -/
def delegateIsBoundToItsKeyUptoRow : OpenClaim := { program := "ytgehkgjllhkhoaagreat", sum := "7cff3efa9bde5e4488fa24dc933963bbadf510343e428f4e09bf42c397dba1c2", func := "sectime/sectimelaw30.DelegateIsBoundToItsKey", spec := "delegateIsBoundToItsKey", inPlace := ["slices.overlaps[[]byte]"], unfollowed := true, recurses := true, apart := false, narrowed := true }
def DelegateIsBoundToItsKeyUptoSaid : Prop := delegateIsBoundToItsKeyUptoRow.holds Tryz.pinned (OpenSpec.upto delegateIsBoundToItsKeySpec)

/-- 'sectimelaw30.DelegateKeepsTheWindow', WHERE WHAT IT READS IS OF BULK AT MOST 1048576: true; the input reads as it did. -/
def delegateKeepsTheWindowUptoRow : OpenClaim := { program := "ytgehkgjllhkhoaagreat", sum := "7cff3efa9bde5e4488fa24dc933963bbadf510343e428f4e09bf42c397dba1c2", func := "sectime/sectimelaw30.DelegateKeepsTheWindow", spec := "delegateKeepsTheWindow", inPlace := ["slices.overlaps[[]byte]"], unfollowed := true, recurses := true, apart := false, narrowed := true }
def DelegateKeepsTheWindowUptoSaid : Prop := delegateKeepsTheWindowUptoRow.holds Tryz.pinned (OpenSpec.upto delegateKeepsTheWindowSpec)

/-- 'sectimetop.TopChainedBatches', WHERE WHAT IT READS IS OF BULK AT MOST 1048576: true; the input reads as it did. -/
def topChainedBatchesUptoRow : OpenClaim := { program := "ytgehkgjllhkhoaagreat", sum := "7cff3efa9bde5e4488fa24dc933963bbadf510343e428f4e09bf42c397dba1c2", func := "sectime/sectimetop.TopChainedBatches", spec := "topChainedBatches", inPlace := ["slices.overlaps[[]byte]"], unfollowed := true, recurses := true, named := ["math/bits.divideError", "math/bits.overflowError"], apart := false, narrowed := true }
def TopChainedBatchesUptoSaid : Prop := topChainedBatchesUptoRow.holds Tryz.pinned (OpenSpec.upto topChainedBatchesSpec)

end Rows
end Go.Proofs.YtgehkgjllhkhoaaGreat

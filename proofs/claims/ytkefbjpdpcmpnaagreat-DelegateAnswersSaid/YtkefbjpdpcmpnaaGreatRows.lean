/-
  No cell of these rows narrows 'for every input' (looked for: loops, veiled, ifaces, maps, wideKeys, modest, calm, conditions, laid).
  DERIVED. THE GIVEN ROWS OF THIS SEAT. 12 by the template 'for every input the law returns true; each argument reads behind the call as it read before'; 0 by the template 'total and deterministic' (their statements: YtkefbjpdpcmpnaaGreatTotals.lean).
  GIVEN WITH THE SEED: the statements are not yours to turn. If you find one false, say at which input.
  Laid BY PROGRAM, IN A SANDBOX (cutbox-rows.mjs): the forced cells as the released guide's own fill.sh prints them over the translation 9bbc9e5a5588dd7d… (all of the seat's roots in one cut). By AI agents, Wed Nov 11 2026. No macro, syntax, notation, axiom, sorry.
-/
import Derived.Test.YtkefbjpdpcmpnaaGreatChecked
import GoSem.Claim
import GoSem.ClaimJoined
import GoSem.ClaimMapViews
import Derived.JoinedTies
import Derived.KernelRfl
namespace Go.Proofs.YtkefbjpdpcmpnaaGreat
/- THE CELL 'sum', in the pinned program and in every row, IS THE sha256 OF THE DUMP (.gsa) THAT YtkefbjpdpcmpnaaGreatProg.lean LOADS. Nothing in Lean hashes anything: it is a label: what it is worth is what the hold of that sum in a sandbox is worth. -/
noncomputable def Tryz.pinned : Pinned := { name := "ytkefbjpdpcmpnaagreat", sum := "9bbc9e5a5588dd7da92ccfaf62cc28e2fcfbc0ea8419547e71e76a3625bc0f8d", checked := Tryz.checked }
namespace Rows
def none {H : Type} : Left H := { results := [], args := [] }

/-- 'sectimelaw29.BatchVerifies': WHATEVER THE INPUT: true; the input reads as it did. -/
def batchVerifiesSpec : ChangeSpec := { name := "batchVerifies", fn := fun _ => fun
  | [d1, d2, d3, d4, d5, d6] => { results := [.lit (.bool true)], args := [d1, d2, d3, d4, d5, d6] }
  | _ => none }
def batchVerifiesRow : OpenClaim := { program := "ytkefbjpdpcmpnaagreat", sum := "9bbc9e5a5588dd7da92ccfaf62cc28e2fcfbc0ea8419547e71e76a3625bc0f8d", func := "sectime/sectimelaw29.BatchVerifies", spec := "batchVerifies", unfollowed := true, recurses := true, apart := false }
def BatchVerifiesSaid : Prop := batchVerifiesRow.holds Tryz.pinned (OpenSpec.ofChange batchVerifiesSpec)

/-- ITS FALSE NEIGHBOUR: 'it returns false'. Refute it at one input. -/
def batchVerifiesWrong : ChangeSpec := { name := "batchVerifies", fn := fun _ => fun
  | [d1, d2, d3, d4, d5, d6] => { results := [.lit (.bool false)], args := [d1, d2, d3, d4, d5, d6] }
  | _ => none }
def BatchVerifiesWrongFalsely : Prop := batchVerifiesRow.holds Tryz.pinned (OpenSpec.ofChange batchVerifiesWrong)

/-- 'sectimelaw30.DelegateWrites': WHATEVER THE INPUT: true; the input reads as it did. -/
def delegateWritesSpec : ChangeSpec := { name := "delegateWrites", fn := fun _ => fun
  | [d1, d2, d3, d4, d5] => { results := [.lit (.bool true)], args := [d1, d2, d3, d4, d5] }
  | _ => none }
def delegateWritesRow : OpenClaim := { program := "ytkefbjpdpcmpnaagreat", sum := "9bbc9e5a5588dd7da92ccfaf62cc28e2fcfbc0ea8419547e71e76a3625bc0f8d", func := "sectime/sectimelaw30.DelegateWrites", spec := "delegateWrites", unfollowed := true, recurses := true, apart := false }
def DelegateWritesSaid : Prop := delegateWritesRow.holds Tryz.pinned (OpenSpec.ofChange delegateWritesSpec)

/-- ITS FALSE NEIGHBOUR: 'it returns false'. Refute it at one input. -/
def delegateWritesWrong : ChangeSpec := { name := "delegateWrites", fn := fun _ => fun
  | [d1, d2, d3, d4, d5] => { results := [.lit (.bool false)], args := [d1, d2, d3, d4, d5] }
  | _ => none }
def DelegateWritesWrongFalsely : Prop := delegateWritesRow.holds Tryz.pinned (OpenSpec.ofChange delegateWritesWrong)

/-- 'sectimelaw29.BatchAnswers': WHATEVER THE INPUT: true; the input reads as it did. -/
def batchAnswersSpec : ChangeSpec := { name := "batchAnswers", fn := fun _ => fun
  | [d1, d2, d3, d4, d5, d6, d7] => { results := [.lit (.bool true)], args := [d1, d2, d3, d4, d5, d6, d7] }
  | _ => none }
def batchAnswersRow : OpenClaim := { program := "ytkefbjpdpcmpnaagreat", sum := "9bbc9e5a5588dd7da92ccfaf62cc28e2fcfbc0ea8419547e71e76a3625bc0f8d", func := "sectime/sectimelaw29.BatchAnswers", spec := "batchAnswers", inPlace := ["slices.overlaps[[]byte]"], unfollowed := true, recurses := true, apart := false }
def BatchAnswersSaid : Prop := batchAnswersRow.holds Tryz.pinned (OpenSpec.ofChange batchAnswersSpec)

/-- ITS FALSE NEIGHBOUR: 'it returns false'. Refute it at one input. -/
def batchAnswersWrong : ChangeSpec := { name := "batchAnswers", fn := fun _ => fun
  | [d1, d2, d3, d4, d5, d6, d7] => { results := [.lit (.bool false)], args := [d1, d2, d3, d4, d5, d6, d7] }
  | _ => none }
def BatchAnswersWrongFalsely : Prop := batchAnswersRow.holds Tryz.pinned (OpenSpec.ofChange batchAnswersWrong)

/-- 'sectimelaw30.DelegateVerifies': WHATEVER THE INPUT: true; the input reads as it did. -/
def delegateVerifiesSpec : ChangeSpec := { name := "delegateVerifies", fn := fun _ => fun
  | [d1, d2, d3, d4, d5] => { results := [.lit (.bool true)], args := [d1, d2, d3, d4, d5] }
  | _ => none }
def delegateVerifiesRow : OpenClaim := { program := "ytkefbjpdpcmpnaagreat", sum := "9bbc9e5a5588dd7da92ccfaf62cc28e2fcfbc0ea8419547e71e76a3625bc0f8d", func := "sectime/sectimelaw30.DelegateVerifies", spec := "delegateVerifies", unfollowed := true, recurses := true, apart := false }
def DelegateVerifiesSaid : Prop := delegateVerifiesRow.holds Tryz.pinned (OpenSpec.ofChange delegateVerifiesSpec)

/-- ITS FALSE NEIGHBOUR: 'it returns false'. Refute it at one input. -/
def delegateVerifiesWrong : ChangeSpec := { name := "delegateVerifies", fn := fun _ => fun
  | [d1, d2, d3, d4, d5] => { results := [.lit (.bool false)], args := [d1, d2, d3, d4, d5] }
  | _ => none }
def DelegateVerifiesWrongFalsely : Prop := delegateVerifiesRow.holds Tryz.pinned (OpenSpec.ofChange delegateVerifiesWrong)

/-- 'sectimelaw31.ChainVerifies': WHATEVER THE INPUT: true; the input reads as it did. -/
def chainVerifiesSpec : ChangeSpec := { name := "chainVerifies", fn := fun _ => fun
  | [d1, d2, d3, d4, d5] => { results := [.lit (.bool true)], args := [d1, d2, d3, d4, d5] }
  | _ => none }
def chainVerifiesRow : OpenClaim := { program := "ytkefbjpdpcmpnaagreat", sum := "9bbc9e5a5588dd7da92ccfaf62cc28e2fcfbc0ea8419547e71e76a3625bc0f8d", func := "sectime/sectimelaw31.ChainVerifies", spec := "chainVerifies", unfollowed := true, recurses := true, apart := false }
def ChainVerifiesSaid : Prop := chainVerifiesRow.holds Tryz.pinned (OpenSpec.ofChange chainVerifiesSpec)

/-- ITS FALSE NEIGHBOUR: 'it returns false'. Refute it at one input. -/
def chainVerifiesWrong : ChangeSpec := { name := "chainVerifies", fn := fun _ => fun
  | [d1, d2, d3, d4, d5] => { results := [.lit (.bool false)], args := [d1, d2, d3, d4, d5] }
  | _ => none }
def ChainVerifiesWrongFalsely : Prop := chainVerifiesRow.holds Tryz.pinned (OpenSpec.ofChange chainVerifiesWrong)

/-- 'sectimelaw31.ChainGrows': WHATEVER THE INPUT: true; the input reads as it did. -/
def chainGrowsSpec : ChangeSpec := { name := "chainGrows", fn := fun _ => fun
  | [d1, d2] => { results := [.lit (.bool true)], args := [d1, d2] }
  | _ => none }
def chainGrowsRow : OpenClaim := { program := "ytkefbjpdpcmpnaagreat", sum := "9bbc9e5a5588dd7da92ccfaf62cc28e2fcfbc0ea8419547e71e76a3625bc0f8d", func := "sectime/sectimelaw31.ChainGrows", spec := "chainGrows", unfollowed := true, recurses := true, apart := false }
def ChainGrowsSaid : Prop := chainGrowsRow.holds Tryz.pinned (OpenSpec.ofChange chainGrowsSpec)

/-- ITS FALSE NEIGHBOUR: 'it returns false'. Refute it at one input. -/
def chainGrowsWrong : ChangeSpec := { name := "chainGrows", fn := fun _ => fun
  | [d1, d2] => { results := [.lit (.bool false)], args := [d1, d2] }
  | _ => none }
def ChainGrowsWrongFalsely : Prop := chainGrowsRow.holds Tryz.pinned (OpenSpec.ofChange chainGrowsWrong)

/-- 'sectimelaw31.ChainAdds': WHATEVER THE INPUT: true; the input reads as it did. -/
def chainAddsSpec : ChangeSpec := { name := "chainAdds", fn := fun _ => fun
  | [d1, d2, d3, d4, d5] => { results := [.lit (.bool true)], args := [d1, d2, d3, d4, d5] }
  | _ => none }
def chainAddsRow : OpenClaim := { program := "ytkefbjpdpcmpnaagreat", sum := "9bbc9e5a5588dd7da92ccfaf62cc28e2fcfbc0ea8419547e71e76a3625bc0f8d", func := "sectime/sectimelaw31.ChainAdds", spec := "chainAdds", unfollowed := true, recurses := true, apart := false }
def ChainAddsSaid : Prop := chainAddsRow.holds Tryz.pinned (OpenSpec.ofChange chainAddsSpec)

/-- ITS FALSE NEIGHBOUR: 'it returns false'. Refute it at one input. -/
def chainAddsWrong : ChangeSpec := { name := "chainAdds", fn := fun _ => fun
  | [d1, d2, d3, d4, d5] => { results := [.lit (.bool false)], args := [d1, d2, d3, d4, d5] }
  | _ => none }
def ChainAddsWrongFalsely : Prop := chainAddsRow.holds Tryz.pinned (OpenSpec.ofChange chainAddsWrong)

/-- 'sectimelaw32.BlameFinds': WHATEVER THE INPUT: true; the input reads as it did. -/
def blameFindsSpec : ChangeSpec := { name := "blameFinds", fn := fun _ => fun
  | [d1, d2, d3, d4, d5] => { results := [.lit (.bool true)], args := [d1, d2, d3, d4, d5] }
  | _ => none }
def blameFindsRow : OpenClaim := { program := "ytkefbjpdpcmpnaagreat", sum := "9bbc9e5a5588dd7da92ccfaf62cc28e2fcfbc0ea8419547e71e76a3625bc0f8d", func := "sectime/sectimelaw32.BlameFinds", spec := "blameFinds", unfollowed := true, recurses := true, apart := false }
def BlameFindsSaid : Prop := blameFindsRow.holds Tryz.pinned (OpenSpec.ofChange blameFindsSpec)

/-- ITS FALSE NEIGHBOUR: 'it returns false'. Refute it at one input. -/
def blameFindsWrong : ChangeSpec := { name := "blameFinds", fn := fun _ => fun
  | [d1, d2, d3, d4, d5] => { results := [.lit (.bool false)], args := [d1, d2, d3, d4, d5] }
  | _ => none }
def BlameFindsWrongFalsely : Prop := blameFindsRow.holds Tryz.pinned (OpenSpec.ofChange blameFindsWrong)

/-- 'sectimelaw32.BlameChecks': WHATEVER THE INPUT: true; the input reads as it did. -/
def blameChecksSpec : ChangeSpec := { name := "blameChecks", fn := fun _ => fun
  | [d1, d2, d3, d4, d5, d6] => { results := [.lit (.bool true)], args := [d1, d2, d3, d4, d5, d6] }
  | _ => none }
def blameChecksRow : OpenClaim := { program := "ytkefbjpdpcmpnaagreat", sum := "9bbc9e5a5588dd7da92ccfaf62cc28e2fcfbc0ea8419547e71e76a3625bc0f8d", func := "sectime/sectimelaw32.BlameChecks", spec := "blameChecks", unfollowed := true, recurses := true, apart := false }
def BlameChecksSaid : Prop := blameChecksRow.holds Tryz.pinned (OpenSpec.ofChange blameChecksSpec)

/-- ITS FALSE NEIGHBOUR: 'it returns false'. Refute it at one input. -/
def blameChecksWrong : ChangeSpec := { name := "blameChecks", fn := fun _ => fun
  | [d1, d2, d3, d4, d5, d6] => { results := [.lit (.bool false)], args := [d1, d2, d3, d4, d5, d6] }
  | _ => none }
def BlameChecksWrongFalsely : Prop := blameChecksRow.holds Tryz.pinned (OpenSpec.ofChange blameChecksWrong)

/-- 'sectimelaw30.DelegateAnswers': WHATEVER THE INPUT: true; the input reads as it did. -/
def delegateAnswersSpec : ChangeSpec := { name := "delegateAnswers", fn := fun _ => fun
  | [d1, d2, d3, d4, d5] => { results := [.lit (.bool true)], args := [d1, d2, d3, d4, d5] }
  | _ => none }
def delegateAnswersRow : OpenClaim := { program := "ytkefbjpdpcmpnaagreat", sum := "9bbc9e5a5588dd7da92ccfaf62cc28e2fcfbc0ea8419547e71e76a3625bc0f8d", func := "sectime/sectimelaw30.DelegateAnswers", spec := "delegateAnswers", inPlace := ["slices.overlaps[[]byte]"], unfollowed := true, recurses := true, apart := false }
def DelegateAnswersSaid : Prop := delegateAnswersRow.holds Tryz.pinned (OpenSpec.ofChange delegateAnswersSpec)

/-- ITS FALSE NEIGHBOUR: 'it returns false'. Refute it at one input. -/
def delegateAnswersWrong : ChangeSpec := { name := "delegateAnswers", fn := fun _ => fun
  | [d1, d2, d3, d4, d5] => { results := [.lit (.bool false)], args := [d1, d2, d3, d4, d5] }
  | _ => none }
def DelegateAnswersWrongFalsely : Prop := delegateAnswersRow.holds Tryz.pinned (OpenSpec.ofChange delegateAnswersWrong)

/-- 'sectimelaw32.BlameWrites': WHATEVER THE INPUT: true; the input reads as it did. -/
def blameWritesSpec : ChangeSpec := { name := "blameWrites", fn := fun _ => fun
  | [d1, d2, d3, d4] => { results := [.lit (.bool true)], args := [d1, d2, d3, d4] }
  | _ => none }
def blameWritesRow : OpenClaim := { program := "ytkefbjpdpcmpnaagreat", sum := "9bbc9e5a5588dd7da92ccfaf62cc28e2fcfbc0ea8419547e71e76a3625bc0f8d", func := "sectime/sectimelaw32.BlameWrites", spec := "blameWrites", unfollowed := true, recurses := true, apart := false }
def BlameWritesSaid : Prop := blameWritesRow.holds Tryz.pinned (OpenSpec.ofChange blameWritesSpec)

/-- ITS FALSE NEIGHBOUR: 'it returns false'. Refute it at one input. -/
def blameWritesWrong : ChangeSpec := { name := "blameWrites", fn := fun _ => fun
  | [d1, d2, d3, d4] => { results := [.lit (.bool false)], args := [d1, d2, d3, d4] }
  | _ => none }
def BlameWritesWrongFalsely : Prop := blameWritesRow.holds Tryz.pinned (OpenSpec.ofChange blameWritesWrong)

/-- 'sectimelaw30.DelegateKeepsTheWindow': WHATEVER THE INPUT: true; the input reads as it did. -/
def delegateKeepsTheWindowSpec : ChangeSpec := { name := "delegateKeepsTheWindow", fn := fun _ => fun
  | [d1, d2, d3, d4, d5] => { results := [.lit (.bool true)], args := [d1, d2, d3, d4, d5] }
  | _ => none }
def delegateKeepsTheWindowRow : OpenClaim := { program := "ytkefbjpdpcmpnaagreat", sum := "9bbc9e5a5588dd7da92ccfaf62cc28e2fcfbc0ea8419547e71e76a3625bc0f8d", func := "sectime/sectimelaw30.DelegateKeepsTheWindow", spec := "delegateKeepsTheWindow", inPlace := ["slices.overlaps[[]byte]"], unfollowed := true, recurses := true, apart := false }
def DelegateKeepsTheWindowSaid : Prop := delegateKeepsTheWindowRow.holds Tryz.pinned (OpenSpec.ofChange delegateKeepsTheWindowSpec)

/-- ITS FALSE NEIGHBOUR: 'it returns false'. Refute it at one input. -/
def delegateKeepsTheWindowWrong : ChangeSpec := { name := "delegateKeepsTheWindow", fn := fun _ => fun
  | [d1, d2, d3, d4, d5] => { results := [.lit (.bool false)], args := [d1, d2, d3, d4, d5] }
  | _ => none }
def DelegateKeepsTheWindowWrongFalsely : Prop := delegateKeepsTheWindowRow.holds Tryz.pinned (OpenSpec.ofChange delegateKeepsTheWindowWrong)

/- THE SECOND FORM. 'bulk': how many values and letters a reading holds, each counted each time it is reached (what is shared counts as often as it is met; a slice's spare places count too). A statement '..UptoSaid' is the law's where the arguments, and the package variables that the reading takes, are together of bulk at most 1048576: NARROWER than '..Said'. Prove '..Said' where nothing that the law and all that it calls make is longer than what came in: it says more and counts as full. Else prove '..UptoSaid'. A law counts once. -/
mutual
def uptoBulk {H : Type} : DataW H → Nat
  | .lit (.string bytes) => bytes.length + 1
  | .lit _ => 1
  | .nil => 1
  | .ptr d => uptoBulk d + 1
  | .slice elems spare => uptoBulkAll elems + uptoBulkAll spare + 1
  | .agg parts => uptoBulkAll parts + 1
  | .iface _ d => uptoBulk d + 1
  | .map entries => uptoBulkEntries entries + 1
  | .held _ => 1
def uptoBulkAll {H : Type} : List (DataW H) → Nat
  | [] => 0
  | d :: r => uptoBulk d + uptoBulkAll r
def uptoBulkEntries {H : Type} : List (Lit × DataW H) → Nat
  | [] => 0
  | x :: r => uptoBulkEntry x + uptoBulkEntries r
def uptoBulkEntry {H : Type} : Lit × DataW H → Nat
  | (.string bytes, d) => bytes.length + uptoBulk d + 1
  | (_, d) => uptoBulk d + 1
 end
def uptoSmall : (H : Type) → List (DataW H) → Bool := fun _ ds => decide (uptoBulkAll ds ≤ 1048576)
def OpenSpec.upto (s : _root_.Go.ChangeSpec) : _root_.Go.OpenSpec := { _root_.Go.OpenSpec.ofChange s with cond := some uptoSmall }

/-- 'sectimelaw29.BatchVerifies', WHERE WHAT IT READS IS OF BULK AT MOST 1048576: true; the input reads as it did. -/
def batchVerifiesUptoRow : OpenClaim := { program := "ytkefbjpdpcmpnaagreat", sum := "9bbc9e5a5588dd7da92ccfaf62cc28e2fcfbc0ea8419547e71e76a3625bc0f8d", func := "sectime/sectimelaw29.BatchVerifies", spec := "batchVerifies", unfollowed := true, recurses := true, apart := false, narrowed := true }
def BatchVerifiesUptoSaid : Prop := batchVerifiesUptoRow.holds Tryz.pinned (OpenSpec.upto batchVerifiesSpec)

/-- 'sectimelaw30.DelegateWrites', WHERE WHAT IT READS IS OF BULK AT MOST 1048576: true; the input reads as it did. -/
def delegateWritesUptoRow : OpenClaim := { program := "ytkefbjpdpcmpnaagreat", sum := "9bbc9e5a5588dd7da92ccfaf62cc28e2fcfbc0ea8419547e71e76a3625bc0f8d", func := "sectime/sectimelaw30.DelegateWrites", spec := "delegateWrites", unfollowed := true, recurses := true, apart := false, narrowed := true }
def DelegateWritesUptoSaid : Prop := delegateWritesUptoRow.holds Tryz.pinned (OpenSpec.upto delegateWritesSpec)

/-- 'sectimelaw29.BatchAnswers', WHERE WHAT IT READS IS OF BULK AT MOST 1048576: true; the input reads as it did. -/
def batchAnswersUptoRow : OpenClaim := { program := "ytkefbjpdpcmpnaagreat", sum := "9bbc9e5a5588dd7da92ccfaf62cc28e2fcfbc0ea8419547e71e76a3625bc0f8d", func := "sectime/sectimelaw29.BatchAnswers", spec := "batchAnswers", inPlace := ["slices.overlaps[[]byte]"], unfollowed := true, recurses := true, apart := false, narrowed := true }
def BatchAnswersUptoSaid : Prop := batchAnswersUptoRow.holds Tryz.pinned (OpenSpec.upto batchAnswersSpec)

/-- 'sectimelaw30.DelegateVerifies', WHERE WHAT IT READS IS OF BULK AT MOST 1048576: true; the input reads as it did. -/
def delegateVerifiesUptoRow : OpenClaim := { program := "ytkefbjpdpcmpnaagreat", sum := "9bbc9e5a5588dd7da92ccfaf62cc28e2fcfbc0ea8419547e71e76a3625bc0f8d", func := "sectime/sectimelaw30.DelegateVerifies", spec := "delegateVerifies", unfollowed := true, recurses := true, apart := false, narrowed := true }
def DelegateVerifiesUptoSaid : Prop := delegateVerifiesUptoRow.holds Tryz.pinned (OpenSpec.upto delegateVerifiesSpec)

/-- 'sectimelaw31.ChainVerifies', WHERE WHAT IT READS IS OF BULK AT MOST 1048576: true; the input reads as it did. -/
def chainVerifiesUptoRow : OpenClaim := { program := "ytkefbjpdpcmpnaagreat", sum := "9bbc9e5a5588dd7da92ccfaf62cc28e2fcfbc0ea8419547e71e76a3625bc0f8d", func := "sectime/sectimelaw31.ChainVerifies", spec := "chainVerifies", unfollowed := true, recurses := true, apart := false, narrowed := true }
def ChainVerifiesUptoSaid : Prop := chainVerifiesUptoRow.holds Tryz.pinned (OpenSpec.upto chainVerifiesSpec)

/-- 'sectimelaw31.ChainGrows', WHERE WHAT IT READS IS OF BULK AT MOST 1048576: true; the input reads as it did. -/
def chainGrowsUptoRow : OpenClaim := { program := "ytkefbjpdpcmpnaagreat", sum := "9bbc9e5a5588dd7da92ccfaf62cc28e2fcfbc0ea8419547e71e76a3625bc0f8d", func := "sectime/sectimelaw31.ChainGrows", spec := "chainGrows", unfollowed := true, recurses := true, apart := false, narrowed := true }
def ChainGrowsUptoSaid : Prop := chainGrowsUptoRow.holds Tryz.pinned (OpenSpec.upto chainGrowsSpec)

/-- 'sectimelaw31.ChainAdds', WHERE WHAT IT READS IS OF BULK AT MOST 1048576: true; the input reads as it did. -/
def chainAddsUptoRow : OpenClaim := { program := "ytkefbjpdpcmpnaagreat", sum := "9bbc9e5a5588dd7da92ccfaf62cc28e2fcfbc0ea8419547e71e76a3625bc0f8d", func := "sectime/sectimelaw31.ChainAdds", spec := "chainAdds", unfollowed := true, recurses := true, apart := false, narrowed := true }
def ChainAddsUptoSaid : Prop := chainAddsUptoRow.holds Tryz.pinned (OpenSpec.upto chainAddsSpec)

/-- 'sectimelaw32.BlameFinds', WHERE WHAT IT READS IS OF BULK AT MOST 1048576: true; the input reads as it did. -/
def blameFindsUptoRow : OpenClaim := { program := "ytkefbjpdpcmpnaagreat", sum := "9bbc9e5a5588dd7da92ccfaf62cc28e2fcfbc0ea8419547e71e76a3625bc0f8d", func := "sectime/sectimelaw32.BlameFinds", spec := "blameFinds", unfollowed := true, recurses := true, apart := false, narrowed := true }
def BlameFindsUptoSaid : Prop := blameFindsUptoRow.holds Tryz.pinned (OpenSpec.upto blameFindsSpec)

/-- 'sectimelaw32.BlameChecks', WHERE WHAT IT READS IS OF BULK AT MOST 1048576: true; the input reads as it did. -/
def blameChecksUptoRow : OpenClaim := { program := "ytkefbjpdpcmpnaagreat", sum := "9bbc9e5a5588dd7da92ccfaf62cc28e2fcfbc0ea8419547e71e76a3625bc0f8d", func := "sectime/sectimelaw32.BlameChecks", spec := "blameChecks", unfollowed := true, recurses := true, apart := false, narrowed := true }
def BlameChecksUptoSaid : Prop := blameChecksUptoRow.holds Tryz.pinned (OpenSpec.upto blameChecksSpec)

/-- 'sectimelaw30.DelegateAnswers', WHERE WHAT IT READS IS OF BULK AT MOST 1048576: true; the input reads as it did. -/
def delegateAnswersUptoRow : OpenClaim := { program := "ytkefbjpdpcmpnaagreat", sum := "9bbc9e5a5588dd7da92ccfaf62cc28e2fcfbc0ea8419547e71e76a3625bc0f8d", func := "sectime/sectimelaw30.DelegateAnswers", spec := "delegateAnswers", inPlace := ["slices.overlaps[[]byte]"], unfollowed := true, recurses := true, apart := false, narrowed := true }
def DelegateAnswersUptoSaid : Prop := delegateAnswersUptoRow.holds Tryz.pinned (OpenSpec.upto delegateAnswersSpec)

/-- 'sectimelaw32.BlameWrites', WHERE WHAT IT READS IS OF BULK AT MOST 1048576: true; the input reads as it did. -/
def blameWritesUptoRow : OpenClaim := { program := "ytkefbjpdpcmpnaagreat", sum := "9bbc9e5a5588dd7da92ccfaf62cc28e2fcfbc0ea8419547e71e76a3625bc0f8d", func := "sectime/sectimelaw32.BlameWrites", spec := "blameWrites", unfollowed := true, recurses := true, apart := false, narrowed := true }
def BlameWritesUptoSaid : Prop := blameWritesUptoRow.holds Tryz.pinned (OpenSpec.upto blameWritesSpec)

/-- 'sectimelaw30.DelegateKeepsTheWindow', WHERE WHAT IT READS IS OF BULK AT MOST 1048576: true; the input reads as it did. -/
def delegateKeepsTheWindowUptoRow : OpenClaim := { program := "ytkefbjpdpcmpnaagreat", sum := "9bbc9e5a5588dd7da92ccfaf62cc28e2fcfbc0ea8419547e71e76a3625bc0f8d", func := "sectime/sectimelaw30.DelegateKeepsTheWindow", spec := "delegateKeepsTheWindow", inPlace := ["slices.overlaps[[]byte]"], unfollowed := true, recurses := true, apart := false, narrowed := true }
def DelegateKeepsTheWindowUptoSaid : Prop := delegateKeepsTheWindowUptoRow.holds Tryz.pinned (OpenSpec.upto delegateKeepsTheWindowSpec)

end Rows
end Go.Proofs.YtkefbjpdpcmpnaaGreat

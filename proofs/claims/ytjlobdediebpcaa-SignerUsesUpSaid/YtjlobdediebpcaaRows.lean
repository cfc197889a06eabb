/-
  No cell of these rows narrows 'for every input' (looked for: loops, veiled, ifaces, maps, wideKeys, modest, calm, conditions, laid).
  DERIVED. THE GIVEN ROWS OF THIS SEAT. 8 by the template 'for every input the law returns true; each argument reads behind the call as it read before'; 0 by the template 'total and deterministic' (their statements: YtjlobdediebpcaaTotals.lean).
  GIVEN WITH THE SEED: the statements are not yours to turn. If you find one false, say at which input.
  Laid BY PROGRAM, IN A SANDBOX (cutbox-rows.mjs): the forced cells as the released guide's own fill.sh prints them over the translation 7409ae9f98c4c605… (all of the seat's roots in one cut). By AI agents, Wed Nov 11 2026. No macro, syntax, notation, axiom, sorry.
-/
import Derived.Test.YtjlobdediebpcaaChecked
import GoSem.Claim
import GoSem.ClaimJoined
import GoSem.ClaimMapViews
import Derived.JoinedTies
import Derived.KernelRfl
namespace Go.Proofs.Ytjlobdediebpcaa
/- THE CELL 'sum', in the pinned program and in every row, IS THE sha256 OF THE DUMP (.gsa) THAT YtjlobdediebpcaaProg.lean LOADS. Nothing in Lean hashes anything: it is a label: what it is worth is what the hold of that sum in a sandbox is worth. -/
noncomputable def Try.pinned : Pinned := { name := "ytjlobdediebpcaa", sum := "7409ae9f98c4c605edb69eae65874fb497e40adc6019515eecef2b03888847bb", checked := Try.checked }
namespace Rows
def none {H : Type} : Left H := { results := [], args := [] }

/-- 'sectimelaw29.BatchWritesSpans': WHATEVER THE INPUT: true; the input reads as it did. -/
def batchWritesSpansSpec : ChangeSpec := { name := "batchWritesSpans", fn := fun _ => fun
  | [d1, d2, d3, d4] => { results := [.lit (.bool true)], args := [d1, d2, d3, d4] }
  | _ => none }
def batchWritesSpansRow : OpenClaim := { program := "ytjlobdediebpcaa", sum := "7409ae9f98c4c605edb69eae65874fb497e40adc6019515eecef2b03888847bb", func := "sectime/sectimelaw29.BatchWritesSpans", spec := "batchWritesSpans", apart := false }
def BatchWritesSpansSaid : Prop := batchWritesSpansRow.holds Try.pinned (OpenSpec.ofChange batchWritesSpansSpec)

/-- ITS FALSE NEIGHBOUR: 'it returns false'. Refute it at one input. -/
def batchWritesSpansWrong : ChangeSpec := { name := "batchWritesSpans", fn := fun _ => fun
  | [d1, d2, d3, d4] => { results := [.lit (.bool false)], args := [d1, d2, d3, d4] }
  | _ => none }
def BatchWritesSpansWrongFalsely : Prop := batchWritesSpansRow.holds Try.pinned (OpenSpec.ofChange batchWritesSpansWrong)

/-- 'sectimelaw09.SignerPublic': WHATEVER THE INPUT: true; the input reads as it did. -/
def signerPublicSpec : ChangeSpec := { name := "signerPublic", fn := fun _ => fun
  | [d1, d2] => { results := [.lit (.bool true)], args := [d1, d2] }
  | _ => none }
def signerPublicRow : OpenClaim := { program := "ytjlobdediebpcaa", sum := "7409ae9f98c4c605edb69eae65874fb497e40adc6019515eecef2b03888847bb", func := "sectime/sectimelaw09.SignerPublic", spec := "signerPublic", inPlace := ["slices.overlaps[[]byte]"], unfollowed := true, recurses := true, apart := false }
def SignerPublicSaid : Prop := signerPublicRow.holds Try.pinned (OpenSpec.ofChange signerPublicSpec)

/-- ITS FALSE NEIGHBOUR: 'it returns false'. Refute it at one input. -/
def signerPublicWrong : ChangeSpec := { name := "signerPublic", fn := fun _ => fun
  | [d1, d2] => { results := [.lit (.bool false)], args := [d1, d2] }
  | _ => none }
def SignerPublicWrongFalsely : Prop := signerPublicRow.holds Try.pinned (OpenSpec.ofChange signerPublicWrong)

/-- 'sectimelaw09.SignerActs': WHATEVER THE INPUT: true; the input reads as it did. -/
def signerActsSpec : ChangeSpec := { name := "signerActs", fn := fun _ => fun
  | [d1, d2] => { results := [.lit (.bool true)], args := [d1, d2] }
  | _ => none }
def signerActsRow : OpenClaim := { program := "ytjlobdediebpcaa", sum := "7409ae9f98c4c605edb69eae65874fb497e40adc6019515eecef2b03888847bb", func := "sectime/sectimelaw09.SignerActs", spec := "signerActs", inPlace := ["slices.overlaps[[]byte]"], unfollowed := true, recurses := true, apart := false }
def SignerActsSaid : Prop := signerActsRow.holds Try.pinned (OpenSpec.ofChange signerActsSpec)

/-- ITS FALSE NEIGHBOUR: 'it returns false'. Refute it at one input. -/
def signerActsWrong : ChangeSpec := { name := "signerActs", fn := fun _ => fun
  | [d1, d2] => { results := [.lit (.bool false)], args := [d1, d2] }
  | _ => none }
def SignerActsWrongFalsely : Prop := signerActsRow.holds Try.pinned (OpenSpec.ofChange signerActsWrong)

/-- 'sectimelaw09.SignerVerifies': WHATEVER THE INPUT: true; the input reads as it did. -/
def signerVerifiesSpec : ChangeSpec := { name := "signerVerifies", fn := fun _ => fun
  | [d1, d2, d3] => { results := [.lit (.bool true)], args := [d1, d2, d3] }
  | _ => none }
def signerVerifiesRow : OpenClaim := { program := "ytjlobdediebpcaa", sum := "7409ae9f98c4c605edb69eae65874fb497e40adc6019515eecef2b03888847bb", func := "sectime/sectimelaw09.SignerVerifies", spec := "signerVerifies", inPlace := ["slices.overlaps[[]byte]"], unfollowed := true, recurses := true, apart := false }
def SignerVerifiesSaid : Prop := signerVerifiesRow.holds Try.pinned (OpenSpec.ofChange signerVerifiesSpec)

/-- ITS FALSE NEIGHBOUR: 'it returns false'. Refute it at one input. -/
def signerVerifiesWrong : ChangeSpec := { name := "signerVerifies", fn := fun _ => fun
  | [d1, d2, d3] => { results := [.lit (.bool false)], args := [d1, d2, d3] }
  | _ => none }
def SignerVerifiesWrongFalsely : Prop := signerVerifiesRow.holds Try.pinned (OpenSpec.ofChange signerVerifiesWrong)

/-- 'sectimetop.TopKeysAndHashes': WHATEVER THE INPUT: true; the input reads as it did. -/
def topKeysAndHashesSpec : ChangeSpec := { name := "topKeysAndHashes", fn := fun _ => fun
  | [d1, d2, d3] => { results := [.lit (.bool true)], args := [d1, d2, d3] }
  | _ => none }
def topKeysAndHashesRow : OpenClaim := { program := "ytjlobdediebpcaa", sum := "7409ae9f98c4c605edb69eae65874fb497e40adc6019515eecef2b03888847bb", func := "sectime/sectimetop.TopKeysAndHashes", spec := "topKeysAndHashes", inPlace := ["slices.overlaps[[]byte]"], unfollowed := true, recurses := true, apart := false }
def TopKeysAndHashesSaid : Prop := topKeysAndHashesRow.holds Try.pinned (OpenSpec.ofChange topKeysAndHashesSpec)

/-- ITS FALSE NEIGHBOUR: 'it returns false'. Refute it at one input. -/
def topKeysAndHashesWrong : ChangeSpec := { name := "topKeysAndHashes", fn := fun _ => fun
  | [d1, d2, d3] => { results := [.lit (.bool false)], args := [d1, d2, d3] }
  | _ => none }
def TopKeysAndHashesWrongFalsely : Prop := topKeysAndHashesRow.holds Try.pinned (OpenSpec.ofChange topKeysAndHashesWrong)

/-- 'sectimelaw09.SignerSigns': WHATEVER THE INPUT: true; the input reads as it did. -/
def signerSignsSpec : ChangeSpec := { name := "signerSigns", fn := fun _ => fun
  | [d1, d2, d3, d4] => { results := [.lit (.bool true)], args := [d1, d2, d3, d4] }
  | _ => none }
def signerSignsRow : OpenClaim := { program := "ytjlobdediebpcaa", sum := "7409ae9f98c4c605edb69eae65874fb497e40adc6019515eecef2b03888847bb", func := "sectime/sectimelaw09.SignerSigns", spec := "signerSigns", inPlace := ["slices.overlaps[[]byte]"], unfollowed := true, recurses := true, apart := false }
def SignerSignsSaid : Prop := signerSignsRow.holds Try.pinned (OpenSpec.ofChange signerSignsSpec)

/-- ITS FALSE NEIGHBOUR: 'it returns false'. Refute it at one input. -/
def signerSignsWrong : ChangeSpec := { name := "signerSigns", fn := fun _ => fun
  | [d1, d2, d3, d4] => { results := [.lit (.bool false)], args := [d1, d2, d3, d4] }
  | _ => none }
def SignerSignsWrongFalsely : Prop := signerSignsRow.holds Try.pinned (OpenSpec.ofChange signerSignsWrong)

/-- 'sectimelaw09.SignerUsesUp': WHATEVER THE INPUT: true; the input reads as it did. -/
def signerUsesUpSpec : ChangeSpec := { name := "signerUsesUp", fn := fun _ => fun
  | [d1, d2] => { results := [.lit (.bool true)], args := [d1, d2] }
  | _ => none }
def signerUsesUpRow : OpenClaim := { program := "ytjlobdediebpcaa", sum := "7409ae9f98c4c605edb69eae65874fb497e40adc6019515eecef2b03888847bb", func := "sectime/sectimelaw09.SignerUsesUp", spec := "signerUsesUp", inPlace := ["slices.overlaps[[]byte]"], unfollowed := true, recurses := true, apart := false }
def SignerUsesUpSaid : Prop := signerUsesUpRow.holds Try.pinned (OpenSpec.ofChange signerUsesUpSpec)

/-- ITS FALSE NEIGHBOUR: 'it returns false'. Refute it at one input. -/
def signerUsesUpWrong : ChangeSpec := { name := "signerUsesUp", fn := fun _ => fun
  | [d1, d2] => { results := [.lit (.bool false)], args := [d1, d2] }
  | _ => none }
def SignerUsesUpWrongFalsely : Prop := signerUsesUpRow.holds Try.pinned (OpenSpec.ofChange signerUsesUpWrong)

/-- 'sectimetop.TopBatches': WHATEVER THE INPUT: true; the input reads as it did. -/
def topBatchesSpec : ChangeSpec := { name := "topBatches", fn := fun _ => fun
  | [d1, d2, d3, d4, d5] => { results := [.lit (.bool true)], args := [d1, d2, d3, d4, d5] }
  | _ => none }
def topBatchesRow : OpenClaim := { program := "ytjlobdediebpcaa", sum := "7409ae9f98c4c605edb69eae65874fb497e40adc6019515eecef2b03888847bb", func := "sectime/sectimetop.TopBatches", spec := "topBatches", inPlace := ["slices.overlaps[[]byte]"], unfollowed := true, recurses := true, apart := false }
def TopBatchesSaid : Prop := topBatchesRow.holds Try.pinned (OpenSpec.ofChange topBatchesSpec)

/-- ITS FALSE NEIGHBOUR: 'it returns false'. Refute it at one input. -/
def topBatchesWrong : ChangeSpec := { name := "topBatches", fn := fun _ => fun
  | [d1, d2, d3, d4, d5] => { results := [.lit (.bool false)], args := [d1, d2, d3, d4, d5] }
  | _ => none }
def TopBatchesWrongFalsely : Prop := topBatchesRow.holds Try.pinned (OpenSpec.ofChange topBatchesWrong)

/- THE SECOND FORM. 'bulk': how many values and letters a reading holds, each counted each time it is reached (what is shared counts as often as it is met; a slice's spare places count too). A statement '..UptoSaid' is the law's where the arguments, and the package variables that the reading takes, are together of bulk at most 1048576: NARROWER than '..Said'. Prove '..Said' where nothing that the law and all that it calls make is longer than what came in: it says more and counts as full. Else prove '..UptoSaid'. A law counts once. -/
mutual
def uptoBulk {H : Type} : DataW H → Nat
  | .lit (.string bytes) => bytes.length + 1
  | .lit _ => 1
  | .nil => 1
  | .ptr d => uptoBulk d + 1
  | .slice elems spare => uptoBulkAll elems + uptoBulkAll spare + 1
  | .agg parts => uptoBulkAll parts + 1
  | .iface _ d => uptoBulk d + 1
  | .map entries => uptoBulkEntries entries + 1
  | .held _ => 1
def uptoBulkAll {H : Type} : List (DataW H) → Nat
  | [] => 0
  | d :: r => uptoBulk d + uptoBulkAll r
def uptoBulkEntries {H : Type} : List (Lit × DataW H) → Nat
  | [] => 0
  | x :: r => uptoBulkEntry x + uptoBulkEntries r
def uptoBulkEntry {H : Type} : Lit × DataW H → Nat
  | (.string bytes, d) => bytes.length + uptoBulk d + 1
  | (_, d) => uptoBulk d + 1
 end
def uptoSmall : (H : Type) → List (DataW H) → Bool := fun _ ds => decide (uptoBulkAll ds ≤ 1048576)
def OpenSpec.upto (s : _root_.Go.ChangeSpec) : _root_.Go.OpenSpec := { _root_.Go.OpenSpec.ofChange s with cond := some uptoSmall }

/-- 'sectimelaw29.BatchWritesSpans', WHERE WHAT IT READS IS OF BULK AT MOST 1048576: true; the input reads as it did. -/
def batchWritesSpansUptoRow : OpenClaim := { program := "ytjlobdediebpcaa", sum := "7409ae9f98c4c605edb69eae65874fb497e40adc6019515eecef2b03888847bb", func := "sectime/sectimelaw29.BatchWritesSpans", spec := "batchWritesSpans", apart := false, narrowed := true }
def BatchWritesSpansUptoSaid : Prop := batchWritesSpansUptoRow.holds Try.pinned (OpenSpec.upto batchWritesSpansSpec)

/-- 'sectimelaw09.SignerPublic', WHERE WHAT IT READS IS OF BULK AT MOST 1048576: true; the input reads as it did. -/
def signerPublicUptoRow : OpenClaim := { program := "ytjlobdediebpcaa", sum := "7409ae9f98c4c605edb69eae65874fb497e40adc6019515eecef2b03888847bb", func := "sectime/sectimelaw09.SignerPublic", spec := "signerPublic", inPlace := ["slices.overlaps[[]byte]"], unfollowed := true, recurses := true, apart := false, narrowed := true }
def SignerPublicUptoSaid : Prop := signerPublicUptoRow.holds Try.pinned (OpenSpec.upto signerPublicSpec)

/-- 'sectimelaw09.SignerActs', WHERE WHAT IT READS IS OF BULK AT MOST 1048576: true; the input reads as it did. -/
def signerActsUptoRow : OpenClaim := { program := "ytjlobdediebpcaa", sum := "7409ae9f98c4c605edb69eae65874fb497e40adc6019515eecef2b03888847bb", func := "sectime/sectimelaw09.SignerActs", spec := "signerActs", inPlace := ["slices.overlaps[[]byte]"], unfollowed := true, recurses := true, apart := false, narrowed := true }
def SignerActsUptoSaid : Prop := signerActsUptoRow.holds Try.pinned (OpenSpec.upto signerActsSpec)

/-- 'sectimelaw09.SignerVerifies', WHERE WHAT IT READS IS OF BULK AT MOST 1048576: true; the input reads as it did. -/
def signerVerifiesUptoRow : OpenClaim := { program := "ytjlobdediebpcaa", sum := "7409ae9f98c4c605edb69eae65874fb497e40adc6019515eecef2b03888847bb", func := "sectime/sectimelaw09.SignerVerifies", spec := "signerVerifies", inPlace := ["slices.overlaps[[]byte]"], unfollowed := true, recurses := true, apart := false, narrowed := true }
def SignerVerifiesUptoSaid : Prop := signerVerifiesUptoRow.holds Try.pinned (OpenSpec.upto signerVerifiesSpec)

/-- 'sectimetop.TopKeysAndHashes', WHERE WHAT IT READS IS OF BULK AT MOST 1048576: true; the input reads as it did. -/
def topKeysAndHashesUptoRow : OpenClaim := { program := "ytjlobdediebpcaa", sum := "7409ae9f98c4c605edb69eae65874fb497e40adc6019515eecef2b03888847bb", func := "sectime/sectimetop.TopKeysAndHashes", spec := "topKeysAndHashes", inPlace := ["slices.overlaps[[]byte]"], unfollowed := true, recurses := true, apart := false, narrowed := true }
def TopKeysAndHashesUptoSaid : Prop := topKeysAndHashesUptoRow.holds Try.pinned (OpenSpec.upto topKeysAndHashesSpec)

/-- 'sectimelaw09.SignerSigns', WHERE WHAT IT READS IS OF BULK AT MOST 1048576: true; the input reads as it did. -/
def signerSignsUptoRow : OpenClaim := { program := "ytjlobdediebpcaa", sum := "7409ae9f98c4c605edb69eae65874fb497e40adc6019515eecef2b03888847bb", func := "sectime/sectimelaw09.SignerSigns", spec := "signerSigns", inPlace := ["slices.overlaps[[]byte]"], unfollowed := true, recurses := true, apart := false, narrowed := true }
def SignerSignsUptoSaid : Prop := signerSignsUptoRow.holds Try.pinned (OpenSpec.upto signerSignsSpec)

/-- 'sectimelaw09.SignerUsesUp', WHERE WHAT IT READS IS OF BULK AT MOST 1048576: true; the input reads as it did. -/
def signerUsesUpUptoRow : OpenClaim := { program := "ytjlobdediebpcaa", sum := "7409ae9f98c4c605edb69eae65874fb497e40adc6019515eecef2b03888847bb", func := "sectime/sectimelaw09.SignerUsesUp", spec := "signerUsesUp", inPlace := ["slices.overlaps[[]byte]"], unfollowed := true, recurses := true, apart := false, narrowed := true }
def SignerUsesUpUptoSaid : Prop := signerUsesUpUptoRow.holds Try.pinned (OpenSpec.upto signerUsesUpSpec)

/-- 'sectimetop.TopBatches', WHERE WHAT IT READS IS OF BULK AT MOST 1048576: true; the input reads as it did. -/
def topBatchesUptoRow : OpenClaim := { program := "ytjlobdediebpcaa", sum := "7409ae9f98c4c605edb69eae65874fb497e40adc6019515eecef2b03888847bb", func := "sectime/sectimetop.TopBatches", spec := "topBatches", inPlace := ["slices.overlaps[[]byte]"], unfollowed := true, recurses := true, apart := false, narrowed := true }
def TopBatchesUptoSaid : Prop := topBatchesUptoRow.holds Try.pinned (OpenSpec.upto topBatchesSpec)

end Rows
end Go.Proofs.Ytjlobdediebpcaa

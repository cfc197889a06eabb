/-
  No cell of these rows narrows 'for every input' (looked for: loops, veiled, ifaces, maps, wideKeys, modest, calm, conditions, laid).
  DERIVED. THE GIVEN ROWS OF THIS SEAT. 10 by the template 'for every input the law returns true; each argument reads behind the call as it read before'; 0 by the template 'total and deterministic' (their statements: YtjgepckncogdaaaGreatTotals.lean).
  GIVEN WITH THE SEED: the statements are not yours to turn. If you find one false, say at which input.
  Laid BY PROGRAM, IN A SANDBOX (cutbox-rows.mjs): the forced cells as the released guide's own fill.sh prints them over the translation ec8164c20bd268e0… (all of the seat's roots in one cut). By AI agents, Wed Nov 11 2026. No macro, syntax, notation, axiom, sorry.
-/
import Derived.Test.YtjgepckncogdaaaGreatChecked
import GoSem.Claim
import GoSem.ClaimJoined
import GoSem.ClaimMapViews
import Derived.JoinedTies
import Derived.KernelRfl
namespace Go.Proofs.YtjgepckncogdaaaGreat
/- THE CELL 'sum', in the pinned program and in every row, IS THE sha256 OF THE DUMP (.gsa) THAT YtjgepckncogdaaaGreatProg.lean LOADS. Nothing in Lean hashes anything: it is a label: what it is worth is what the hold of that sum in a sandbox is worth. -/
noncomputable def Tryz.pinned : Pinned := { name := "ytjgepckncogdaaagreat", sum := "ec8164c20bd268e0f432873649d06db0a068506887a4ff9a87a1d74f41b01d4d", checked := Tryz.checked }
namespace Rows
def none {H : Type} : Left H := { results := [], args := [] }

/-- 'sectimelaw29.BatchTellsTheSpan': WHATEVER THE INPUT: true; the input reads as it did. -/
def batchTellsTheSpanSpec : ChangeSpec := { name := "batchTellsTheSpan", fn := fun _ => fun
  | [d1, d2, d3, d4, d5] => { results := [.lit (.bool true)], args := [d1, d2, d3, d4, d5] }
  | _ => none }
def batchTellsTheSpanRow : OpenClaim := { program := "ytjgepckncogdaaagreat", sum := "ec8164c20bd268e0f432873649d06db0a068506887a4ff9a87a1d74f41b01d4d", func := "sectime/sectimelaw29.BatchTellsTheSpan", spec := "batchTellsTheSpan", inPlace := ["slices.overlaps[[]byte]"], unfollowed := true, recurses := true, apart := false }
def BatchTellsTheSpanSaid : Prop := batchTellsTheSpanRow.holds Tryz.pinned (OpenSpec.ofChange batchTellsTheSpanSpec)

/-- ITS FALSE NEIGHBOUR: 'it returns false'. Refute it at one input. -/
def batchTellsTheSpanWrong : ChangeSpec := { name := "batchTellsTheSpan", fn := fun _ => fun
  | [d1, d2, d3, d4, d5] => { results := [.lit (.bool false)], args := [d1, d2, d3, d4, d5] }
  | _ => none }
def BatchTellsTheSpanWrongFalsely : Prop := batchTellsTheSpanRow.holds Tryz.pinned (OpenSpec.ofChange batchTellsTheSpanWrong)

/-- 'sectimelaw33.PubliclogAdds': WHATEVER THE INPUT: true; the input reads as it did. -/
def publiclogAddsSpec : ChangeSpec := { name := "publiclogAdds", fn := fun _ => fun
  | [d1, d2, d3, d4, d5] => { results := [.lit (.bool true)], args := [d1, d2, d3, d4, d5] }
  | _ => none }
def publiclogAddsRow : OpenClaim := { program := "ytjgepckncogdaaagreat", sum := "ec8164c20bd268e0f432873649d06db0a068506887a4ff9a87a1d74f41b01d4d", func := "sectime/sectimelaw33.PubliclogAdds", spec := "publiclogAdds", unfollowed := true, recurses := true, apart := false }
def PubliclogAddsSaid : Prop := publiclogAddsRow.holds Tryz.pinned (OpenSpec.ofChange publiclogAddsSpec)

/-- ITS FALSE NEIGHBOUR: 'it returns false'. Refute it at one input. -/
def publiclogAddsWrong : ChangeSpec := { name := "publiclogAdds", fn := fun _ => fun
  | [d1, d2, d3, d4, d5] => { results := [.lit (.bool false)], args := [d1, d2, d3, d4, d5] }
  | _ => none }
def PubliclogAddsWrongFalsely : Prop := publiclogAddsRow.holds Tryz.pinned (OpenSpec.ofChange publiclogAddsWrong)

/-- 'sectimelaw33.PubliclogLosesNothing': WHATEVER THE INPUT: true; the input reads as it did. -/
def publiclogLosesNothingSpec : ChangeSpec := { name := "publiclogLosesNothing", fn := fun _ => fun
  | [d] => { results := [.lit (.bool true)], args := [d] }
  | _ => none }
def publiclogLosesNothingRow : OpenClaim := { program := "ytjgepckncogdaaagreat", sum := "ec8164c20bd268e0f432873649d06db0a068506887a4ff9a87a1d74f41b01d4d", func := "sectime/sectimelaw33.PubliclogLosesNothing", spec := "publiclogLosesNothing", unfollowed := true, recurses := true, apart := false }
def PubliclogLosesNothingSaid : Prop := publiclogLosesNothingRow.holds Tryz.pinned (OpenSpec.ofChange publiclogLosesNothingSpec)

/-- ITS FALSE NEIGHBOUR: 'it returns false'. Refute it at one input. -/
def publiclogLosesNothingWrong : ChangeSpec := { name := "publiclogLosesNothing", fn := fun _ => fun
  | [d] => { results := [.lit (.bool false)], args := [d] }
  | _ => none }
def PubliclogLosesNothingWrongFalsely : Prop := publiclogLosesNothingRow.holds Tryz.pinned (OpenSpec.ofChange publiclogLosesNothingWrong)

/-- 'sectimelaw40.ContactChains': WHATEVER THE INPUT: true; the input reads as it did. -/
def contactChainsSpec : ChangeSpec := { name := "contactChains", fn := fun _ => fun
  | [d1, d2, d3, d4, d5] => { results := [.lit (.bool true)], args := [d1, d2, d3, d4, d5] }
  | _ => none }
def contactChainsRow : OpenClaim := { program := "ytjgepckncogdaaagreat", sum := "ec8164c20bd268e0f432873649d06db0a068506887a4ff9a87a1d74f41b01d4d", func := "sectime/sectimelaw40.ContactChains", spec := "contactChains", inPlace := ["internal/bytealg.IndexByteString", "internal/bytealg.IndexString"], unfollowed := true, recurses := true, named := ["internal/bytealg.MaxLen"], apart := false }
def ContactChainsSaid : Prop := contactChainsRow.holds Tryz.pinned (OpenSpec.ofChange contactChainsSpec)

/-- ITS FALSE NEIGHBOUR: 'it returns false'. Refute it at one input. -/
def contactChainsWrong : ChangeSpec := { name := "contactChains", fn := fun _ => fun
  | [d1, d2, d3, d4, d5] => { results := [.lit (.bool false)], args := [d1, d2, d3, d4, d5] }
  | _ => none }
def ContactChainsWrongFalsely : Prop := contactChainsRow.holds Tryz.pinned (OpenSpec.ofChange contactChainsWrong)

/-- 'sectimelaw40.ContactKeepsWindows': WHATEVER THE INPUT: true; the input reads as it did. -/
def contactKeepsWindowsSpec : ChangeSpec := { name := "contactKeepsWindows", fn := fun _ => fun
  | [d1, d2] => { results := [.lit (.bool true)], args := [d1, d2] }
  | _ => none }
def contactKeepsWindowsRow : OpenClaim := { program := "ytjgepckncogdaaagreat", sum := "ec8164c20bd268e0f432873649d06db0a068506887a4ff9a87a1d74f41b01d4d", func := "sectime/sectimelaw40.ContactKeepsWindows", spec := "contactKeepsWindows", inPlace := ["internal/bytealg.IndexByteString", "internal/bytealg.IndexString"], unfollowed := true, recurses := true, named := ["internal/bytealg.MaxLen"], apart := false }
def ContactKeepsWindowsSaid : Prop := contactKeepsWindowsRow.holds Tryz.pinned (OpenSpec.ofChange contactKeepsWindowsSpec)

/-- ITS FALSE NEIGHBOUR: 'it returns false'. Refute it at one input. -/
def contactKeepsWindowsWrong : ChangeSpec := { name := "contactKeepsWindows", fn := fun _ => fun
  | [d1, d2] => { results := [.lit (.bool false)], args := [d1, d2] }
  | _ => none }
def ContactKeepsWindowsWrongFalsely : Prop := contactKeepsWindowsRow.holds Tryz.pinned (OpenSpec.ofChange contactKeepsWindowsWrong)

/-- 'sectimelaw40.ContactFirst': WHATEVER THE INPUT: true; the input reads as it did. -/
def contactFirstSpec : ChangeSpec := { name := "contactFirst", fn := fun _ => fun
  | [d1, d2, d3] => { results := [.lit (.bool true)], args := [d1, d2, d3] }
  | _ => none }
def contactFirstRow : OpenClaim := { program := "ytjgepckncogdaaagreat", sum := "ec8164c20bd268e0f432873649d06db0a068506887a4ff9a87a1d74f41b01d4d", func := "sectime/sectimelaw40.ContactFirst", spec := "contactFirst", inPlace := ["internal/bytealg.IndexByteString", "internal/bytealg.IndexString"], unfollowed := true, recurses := true, named := ["internal/bytealg.MaxLen"], apart := false }
def ContactFirstSaid : Prop := contactFirstRow.holds Tryz.pinned (OpenSpec.ofChange contactFirstSpec)

/-- ITS FALSE NEIGHBOUR: 'it returns false'. Refute it at one input. -/
def contactFirstWrong : ChangeSpec := { name := "contactFirst", fn := fun _ => fun
  | [d1, d2, d3] => { results := [.lit (.bool false)], args := [d1, d2, d3] }
  | _ => none }
def ContactFirstWrongFalsely : Prop := contactFirstRow.holds Tryz.pinned (OpenSpec.ofChange contactFirstWrong)

/-- 'sectimelaw40.ContactContainsTruth': WHATEVER THE INPUT: true; the input reads as it did. -/
def contactContainsTruthSpec : ChangeSpec := { name := "contactContainsTruth", fn := fun _ => fun
  | [d1, d2] => { results := [.lit (.bool true)], args := [d1, d2] }
  | _ => none }
def contactContainsTruthRow : OpenClaim := { program := "ytjgepckncogdaaagreat", sum := "ec8164c20bd268e0f432873649d06db0a068506887a4ff9a87a1d74f41b01d4d", func := "sectime/sectimelaw40.ContactContainsTruth", spec := "contactContainsTruth", inPlace := ["internal/bytealg.IndexByteString", "internal/bytealg.IndexString"], unfollowed := true, recurses := true, named := ["internal/bytealg.MaxLen"], apart := false }
def ContactContainsTruthSaid : Prop := contactContainsTruthRow.holds Tryz.pinned (OpenSpec.ofChange contactContainsTruthSpec)

/-- ITS FALSE NEIGHBOUR: 'it returns false'. Refute it at one input. -/
def contactContainsTruthWrong : ChangeSpec := { name := "contactContainsTruth", fn := fun _ => fun
  | [d1, d2] => { results := [.lit (.bool false)], args := [d1, d2] }
  | _ => none }
def ContactContainsTruthWrongFalsely : Prop := contactContainsTruthRow.holds Tryz.pinned (OpenSpec.ofChange contactContainsTruthWrong)

/-- 'sectimelaw40.ContactSigns': WHATEVER THE INPUT: true; the input reads as it did. -/
def contactSignsSpec : ChangeSpec := { name := "contactSigns", fn := fun _ => fun
  | [d1, d2, d3, d4, d5, d6, d7, d8] => { results := [.lit (.bool true)], args := [d1, d2, d3, d4, d5, d6, d7, d8] }
  | _ => none }
def contactSignsRow : OpenClaim := { program := "ytjgepckncogdaaagreat", sum := "ec8164c20bd268e0f432873649d06db0a068506887a4ff9a87a1d74f41b01d4d", func := "sectime/sectimelaw40.ContactSigns", spec := "contactSigns", inPlace := ["internal/bytealg.IndexByteString", "internal/bytealg.IndexString", "slices.overlaps[[]byte]"], unfollowed := true, recurses := true, named := ["internal/bytealg.MaxLen"], apart := false }
def ContactSignsSaid : Prop := contactSignsRow.holds Tryz.pinned (OpenSpec.ofChange contactSignsSpec)

/-- ITS FALSE NEIGHBOUR: 'it returns false'. Refute it at one input. -/
def contactSignsWrong : ChangeSpec := { name := "contactSigns", fn := fun _ => fun
  | [d1, d2, d3, d4, d5, d6, d7, d8] => { results := [.lit (.bool false)], args := [d1, d2, d3, d4, d5, d6, d7, d8] }
  | _ => none }
def ContactSignsWrongFalsely : Prop := contactSignsRow.holds Tryz.pinned (OpenSpec.ofChange contactSignsWrong)

/-- 'sectimetop.TopFirstContact': WHATEVER THE INPUT: true; the input reads as it did. -/
def topFirstContactSpec : ChangeSpec := { name := "topFirstContact", fn := fun _ => fun
  | [d1, d2] => { results := [.lit (.bool true)], args := [d1, d2] }
  | _ => none }
def topFirstContactRow : OpenClaim := { program := "ytjgepckncogdaaagreat", sum := "ec8164c20bd268e0f432873649d06db0a068506887a4ff9a87a1d74f41b01d4d", func := "sectime/sectimetop.TopFirstContact", spec := "topFirstContact", inPlace := ["internal/bytealg.IndexByteString", "internal/bytealg.IndexString"], unfollowed := true, recurses := true, named := ["math/bits.divideError", "math/bits.overflowError", "internal/bytealg.MaxLen"], apart := false }
def TopFirstContactSaid : Prop := topFirstContactRow.holds Tryz.pinned (OpenSpec.ofChange topFirstContactSpec)

/-- ITS FALSE NEIGHBOUR: 'it returns false'. Refute it at one input. -/
def topFirstContactWrong : ChangeSpec := { name := "topFirstContact", fn := fun _ => fun
  | [d1, d2] => { results := [.lit (.bool false)], args := [d1, d2] }
  | _ => none }
def TopFirstContactWrongFalsely : Prop := topFirstContactRow.holds Tryz.pinned (OpenSpec.ofChange topFirstContactWrong)

/-- 'sectimetop.TopChainedBatches': WHATEVER THE INPUT: true; the input reads as it did. -/
def topChainedBatchesSpec : ChangeSpec := { name := "topChainedBatches", fn := fun _ => fun
  | [d1, d2, d3, d4, d5] => { results := [.lit (.bool true)], args := [d1, d2, d3, d4, d5] }
  | _ => none }
def topChainedBatchesRow : OpenClaim := { program := "ytjgepckncogdaaagreat", sum := "ec8164c20bd268e0f432873649d06db0a068506887a4ff9a87a1d74f41b01d4d", func := "sectime/sectimetop.TopChainedBatches", spec := "topChainedBatches", inPlace := ["slices.overlaps[[]byte]"], unfollowed := true, recurses := true, named := ["math/bits.divideError", "math/bits.overflowError"], apart := false }
def TopChainedBatchesSaid : Prop := topChainedBatchesRow.holds Tryz.pinned (OpenSpec.ofChange topChainedBatchesSpec)

/-- ITS FALSE NEIGHBOUR: 'it returns false'. Refute it at one input. -/
def topChainedBatchesWrong : ChangeSpec := { name := "topChainedBatches", fn := fun _ => fun
  | [d1, d2, d3, d4, d5] => { results := [.lit (.bool false)], args := [d1, d2, d3, d4, d5] }
  | _ => none }
def TopChainedBatchesWrongFalsely : Prop := topChainedBatchesRow.holds Tryz.pinned (OpenSpec.ofChange topChainedBatchesWrong)

/- THE SECOND FORM. 'bulk': how many values and letters a reading holds, each counted each time it is reached (what is shared counts as often as it is met; a slice's spare places count too). A statement '..UptoSaid' is the law's where the arguments, and the package variables that the reading takes, are together of bulk at most 1048576: NARROWER than '..Said'. Prove '..Said' where nothing that the law and all that it calls make is longer than what came in: it says more and counts as full. Else prove '..UptoSaid'. A law counts once. -/
mutual
def uptoBulk {H : Type} : DataW H → Nat
  | .lit (.string bytes) => bytes.length + 1
  | .lit _ => 1
  | .nil => 1
  | .ptr d => uptoBulk d + 1
  | .slice elems spare => uptoBulkAll elems + uptoBulkAll spare + 1
  | .agg parts => uptoBulkAll parts + 1
  | .iface _ d => uptoBulk d + 1
  | .map entries => uptoBulkEntries entries + 1
  | .held _ => 1
def uptoBulkAll {H : Type} : List (DataW H) → Nat
  | [] => 0
  | d :: r => uptoBulk d + uptoBulkAll r
def uptoBulkEntries {H : Type} : List (Lit × DataW H) → Nat
  | [] => 0
  | x :: r => uptoBulkEntry x + uptoBulkEntries r
def uptoBulkEntry {H : Type} : Lit × DataW H → Nat
  | (.string bytes, d) => bytes.length + uptoBulk d + 1
  | (_, d) => uptoBulk d + 1
 end
def uptoSmall : (H : Type) → List (DataW H) → Bool := fun _ ds => decide (uptoBulkAll ds ≤ 1048576)
def OpenSpec.upto (s : _root_.Go.ChangeSpec) : _root_.Go.OpenSpec := { _root_.Go.OpenSpec.ofChange s with cond := some uptoSmall }

/-- 'sectimelaw29.BatchTellsTheSpan', WHERE WHAT IT READS IS OF BULK AT MOST 1048576: true; the input reads as it did. -/
def batchTellsTheSpanUptoRow : OpenClaim := { program := "ytjgepckncogdaaagreat", sum := "ec8164c20bd268e0f432873649d06db0a068506887a4ff9a87a1d74f41b01d4d", func := "sectime/sectimelaw29.BatchTellsTheSpan", spec := "batchTellsTheSpan", inPlace := ["slices.overlaps[[]byte]"], unfollowed := true, recurses := true, apart := false, narrowed := true }
def BatchTellsTheSpanUptoSaid : Prop := batchTellsTheSpanUptoRow.holds Tryz.pinned (OpenSpec.upto batchTellsTheSpanSpec)

/-- 'sectimelaw33.PubliclogAdds', WHERE WHAT IT READS IS OF BULK AT MOST 1048576: true; the input reads as it did. -/
def publiclogAddsUptoRow : OpenClaim := { program := "ytjgepckncogdaaagreat", sum := "ec8164c20bd268e0f432873649d06db0a068506887a4ff9a87a1d74f41b01d4d", func := "sectime/sectimelaw33.PubliclogAdds", spec := "publiclogAdds", unfollowed := true, recurses := true, apart := false, narrowed := true }
def PubliclogAddsUptoSaid : Prop := publiclogAddsUptoRow.holds Tryz.pinned (OpenSpec.upto publiclogAddsSpec)

/-- 'sectimelaw33.PubliclogLosesNothing', WHERE WHAT IT READS IS OF BULK AT MOST 1048576: true; the input reads as it did. -/
def publiclogLosesNothingUptoRow : OpenClaim := { program := "ytjgepckncogdaaagreat", sum := "ec8164c20bd268e0f432873649d06db0a068506887a4ff9a87a1d74f41b01d4d", func := "sectime/sectimelaw33.PubliclogLosesNothing", spec := "publiclogLosesNothing", unfollowed := true, recurses := true, apart := false, narrowed := true }
def PubliclogLosesNothingUptoSaid : Prop := publiclogLosesNothingUptoRow.holds Tryz.pinned (OpenSpec.upto publiclogLosesNothingSpec)

/-- 'sectimelaw40.ContactChains', WHERE WHAT IT READS IS OF BULK AT MOST 1048576: true; the input reads as it did. -/
def contactChainsUptoRow : OpenClaim := { program := "ytjgepckncogdaaagreat", sum := "ec8164c20bd268e0f432873649d06db0a068506887a4ff9a87a1d74f41b01d4d", func := "sectime/sectimelaw40.ContactChains", spec := "contactChains", inPlace := ["internal/bytealg.IndexByteString", "internal/bytealg.IndexString"], unfollowed := true, recurses := true, named := ["internal/bytealg.MaxLen"], apart := false, narrowed := true }
def ContactChainsUptoSaid : Prop := contactChainsUptoRow.holds Tryz.pinned (OpenSpec.upto contactChainsSpec)

/-- 'sectimelaw40.ContactKeepsWindows', WHERE WHAT IT READS IS OF BULK AT MOST 1048576: true; the input reads as it did. -/
def contactKeepsWindowsUptoRow : OpenClaim := { program := "ytjgepckncogdaaagreat", sum := "ec8164c20bd268e0f432873649d06db0a068506887a4ff9a87a1d74f41b01d4d", func := "sectime/sectimelaw40.ContactKeepsWindows", spec := "contactKeepsWindows", inPlace := ["internal/bytealg.IndexByteString", "internal/bytealg.IndexString"], unfollowed := true, recurses := true, named := ["internal/bytealg.MaxLen"], apart := false, narrowed := true }
def ContactKeepsWindowsUptoSaid : Prop := contactKeepsWindowsUptoRow.holds Tryz.pinned (OpenSpec.upto contactKeepsWindowsSpec)

/-- 'sectimelaw40.ContactFirst', WHERE WHAT IT READS IS OF BULK AT MOST 1048576: true; the input reads as it did. -/
def contactFirstUptoRow : OpenClaim := { program := "ytjgepckncogdaaagreat", sum := "ec8164c20bd268e0f432873649d06db0a068506887a4ff9a87a1d74f41b01d4d", func := "sectime/sectimelaw40.ContactFirst", spec := "contactFirst", inPlace := ["internal/bytealg.IndexByteString", "internal/bytealg.IndexString"], unfollowed := true, recurses := true, named := ["internal/bytealg.MaxLen"], apart := false, narrowed := true }
def ContactFirstUptoSaid : Prop := contactFirstUptoRow.holds Tryz.pinned (OpenSpec.upto contactFirstSpec)

/-- 'sectimelaw40.ContactContainsTruth', WHERE WHAT IT READS IS OF BULK AT MOST 1048576: true; the input reads as it did. -/
def contactContainsTruthUptoRow : OpenClaim := { program := "ytjgepckncogdaaagreat", sum := "ec8164c20bd268e0f432873649d06db0a068506887a4ff9a87a1d74f41b01d4d", func := "sectime/sectimelaw40.ContactContainsTruth", spec := "contactContainsTruth", inPlace := ["internal/bytealg.IndexByteString", "internal/bytealg.IndexString"], unfollowed := true, recurses := true, named := ["internal/bytealg.MaxLen"], apart := false, narrowed := true }
def ContactContainsTruthUptoSaid : Prop := contactContainsTruthUptoRow.holds Tryz.pinned (OpenSpec.upto contactContainsTruthSpec)

/-- 'sectimelaw40.ContactSigns', WHERE WHAT IT READS IS OF BULK AT MOST 1048576: true; the input reads as it did. -/
def contactSignsUptoRow : OpenClaim := { program := "ytjgepckncogdaaagreat", sum := "ec8164c20bd268e0f432873649d06db0a068506887a4ff9a87a1d74f41b01d4d", func := "sectime/sectimelaw40.ContactSigns", spec := "contactSigns", inPlace := ["internal/bytealg.IndexByteString", "internal/bytealg.IndexString", "slices.overlaps[[]byte]"], unfollowed := true, recurses := true, named := ["internal/bytealg.MaxLen"], apart := false, narrowed := true }
def ContactSignsUptoSaid : Prop := contactSignsUptoRow.holds Tryz.pinned (OpenSpec.upto contactSignsSpec)

/-- 'sectimetop.TopFirstContact', WHERE WHAT IT READS IS OF BULK AT MOST 1048576: true; the input reads as it did. -/
def topFirstContactUptoRow : OpenClaim := { program := "ytjgepckncogdaaagreat", sum := "ec8164c20bd268e0f432873649d06db0a068506887a4ff9a87a1d74f41b01d4d", func := "sectime/sectimetop.TopFirstContact", spec := "topFirstContact", inPlace := ["internal/bytealg.IndexByteString", "internal/bytealg.IndexString"], unfollowed := true, recurses := true, named := ["math/bits.divideError", "math/bits.overflowError", "internal/bytealg.MaxLen"], apart := false, narrowed := true }
def TopFirstContactUptoSaid : Prop := topFirstContactUptoRow.holds Tryz.pinned (OpenSpec.upto topFirstContactSpec)

/-- 'sectimetop.TopChainedBatches', WHERE WHAT IT READS IS OF BULK AT MOST 1048576: true; the input reads as it did. -/
def topChainedBatchesUptoRow : OpenClaim := { program := "ytjgepckncogdaaagreat", sum := "ec8164c20bd268e0f432873649d06db0a068506887a4ff9a87a1d74f41b01d4d", func := "sectime/sectimetop.TopChainedBatches", spec := "topChainedBatches", inPlace := ["slices.overlaps[[]byte]"], unfollowed := true, recurses := true, named := ["math/bits.divideError", "math/bits.overflowError"], apart := false, narrowed := true }
def TopChainedBatchesUptoSaid : Prop := topChainedBatchesUptoRow.holds Tryz.pinned (OpenSpec.upto topChainedBatchesSpec)

end Rows
end Go.Proofs.YtjgepckncogdaaaGreat

/-
  No cell of these rows narrows 'for every input' (looked for: loops, veiled, ifaces, maps, wideKeys, modest, calm, conditions, laid).
  DERIVED. THE GIVEN ROWS OF THIS SEAT. 11 by the template 'for every input the law returns true; each argument reads behind the call as it read before'; 0 by the template 'total and deterministic' (their statements: YtiamkbmefllljaaTotals.lean).
  GIVEN WITH THE SEED: the statements are not yours to turn. If you find one false, say at which input.
  Laid BY PROGRAM, IN A SANDBOX (cutbox-rows.mjs): the forced cells as the released guide's own fill.sh prints them over the translation 0372321dd51c0c3f… (all of the seat's roots in one cut). By AI agents, Wed Nov 11 2026. No macro, syntax, notation, axiom, sorry.
-/
import Derived.Test.YtiamkbmefllljaaChecked
import GoSem.Claim
import GoSem.ClaimJoined
import GoSem.ClaimMapViews
import Derived.JoinedTies
import Derived.KernelRfl
namespace Go.Proofs.Ytiamkbmefllljaa
/- THE CELL 'sum', in the pinned program and in every row, IS THE sha256 OF THE DUMP (.gsa) THAT YtiamkbmefllljaaProg.lean LOADS. Nothing in Lean hashes anything: it is a label: what it is worth is what the hold of that sum in a sandbox is worth. -/
noncomputable def Try.pinned : Pinned := { name := "ytiamkbmefllljaa", sum := "0372321dd51c0c3fcd51099117394459ec5e79a149fe0cdfeda28850932f9095", checked := Try.checked }
namespace Rows
def none {H : Type} : Left H := { results := [], args := [] }

/-- 'pannierlaw03.BlockFull': WHATEVER THE INPUT: true; the input reads as it did. -/
def blockFullSpec : ChangeSpec := { name := "blockFull", fn := fun _ => fun
  | [d1, d2] => { results := [.lit (.bool true)], args := [d1, d2] }
  | _ => none }
def blockFullRow : OpenClaim := { program := "ytiamkbmefllljaa", sum := "0372321dd51c0c3fcd51099117394459ec5e79a149fe0cdfeda28850932f9095", func := "pannier/pannierlaw03.BlockFull", spec := "blockFull", apart := false }
def BlockFullSaid : Prop := blockFullRow.holds Try.pinned (OpenSpec.ofChange blockFullSpec)

/-- ITS FALSE NEIGHBOUR: 'it returns false'. Refute it at one input. -/
def blockFullWrong : ChangeSpec := { name := "blockFull", fn := fun _ => fun
  | [d1, d2] => { results := [.lit (.bool false)], args := [d1, d2] }
  | _ => none }
def BlockFullWrongFalsely : Prop := blockFullRow.holds Try.pinned (OpenSpec.ofChange blockFullWrong)

/-- 'panniertop.WholeStore': WHATEVER THE INPUT: true; the input reads as it did. -/
def wholeStoreSpec : ChangeSpec := { name := "wholeStore", fn := fun _ => fun
  | [d1, d2] => { results := [.lit (.bool true)], args := [d1, d2] }
  | _ => none }
def wholeStoreRow : OpenClaim := { program := "ytiamkbmefllljaa", sum := "0372321dd51c0c3fcd51099117394459ec5e79a149fe0cdfeda28850932f9095", func := "pannier/panniertop.WholeStore", spec := "wholeStore", apart := false }
def WholeStoreSaid : Prop := wholeStoreRow.holds Try.pinned (OpenSpec.ofChange wholeStoreSpec)

/-- ITS FALSE NEIGHBOUR: 'it returns false'. Refute it at one input. -/
def wholeStoreWrong : ChangeSpec := { name := "wholeStore", fn := fun _ => fun
  | [d1, d2] => { results := [.lit (.bool false)], args := [d1, d2] }
  | _ => none }
def WholeStoreWrongFalsely : Prop := wholeStoreRow.holds Try.pinned (OpenSpec.ofChange wholeStoreWrong)

/-- 'pannierlaw03.BlockOwn': WHATEVER THE INPUT: true; the input reads as it did. -/
def blockOwnSpec : ChangeSpec := { name := "blockOwn", fn := fun _ => fun
  | [d1, d2] => { results := [.lit (.bool true)], args := [d1, d2] }
  | _ => none }
def blockOwnRow : OpenClaim := { program := "ytiamkbmefllljaa", sum := "0372321dd51c0c3fcd51099117394459ec5e79a149fe0cdfeda28850932f9095", func := "pannier/pannierlaw03.BlockOwn", spec := "blockOwn", apart := false }
def BlockOwnSaid : Prop := blockOwnRow.holds Try.pinned (OpenSpec.ofChange blockOwnSpec)

/-- ITS FALSE NEIGHBOUR: 'it returns false'. Refute it at one input. -/
def blockOwnWrong : ChangeSpec := { name := "blockOwn", fn := fun _ => fun
  | [d1, d2] => { results := [.lit (.bool false)], args := [d1, d2] }
  | _ => none }
def BlockOwnWrongFalsely : Prop := blockOwnRow.holds Try.pinned (OpenSpec.ofChange blockOwnWrong)

/-- 'pannierlaw03.BlockParts': WHATEVER THE INPUT: true; the input reads as it did. -/
def blockPartsSpec : ChangeSpec := { name := "blockParts", fn := fun _ => fun
  | [d1, d2, d3] => { results := [.lit (.bool true)], args := [d1, d2, d3] }
  | _ => none }
def blockPartsRow : OpenClaim := { program := "ytiamkbmefllljaa", sum := "0372321dd51c0c3fcd51099117394459ec5e79a149fe0cdfeda28850932f9095", func := "pannier/pannierlaw03.BlockParts", spec := "blockParts", apart := false }
def BlockPartsSaid : Prop := blockPartsRow.holds Try.pinned (OpenSpec.ofChange blockPartsSpec)

/-- ITS FALSE NEIGHBOUR: 'it returns false'. Refute it at one input. -/
def blockPartsWrong : ChangeSpec := { name := "blockParts", fn := fun _ => fun
  | [d1, d2, d3] => { results := [.lit (.bool false)], args := [d1, d2, d3] }
  | _ => none }
def BlockPartsWrongFalsely : Prop := blockPartsRow.holds Try.pinned (OpenSpec.ofChange blockPartsWrong)

/-- 'pannierlaw03.BlockPlays': WHATEVER THE INPUT: true; the input reads as it did. -/
def blockPlaysSpec : ChangeSpec := { name := "blockPlays", fn := fun _ => fun
  | [d1, d2] => { results := [.lit (.bool true)], args := [d1, d2] }
  | _ => none }
def blockPlaysRow : OpenClaim := { program := "ytiamkbmefllljaa", sum := "0372321dd51c0c3fcd51099117394459ec5e79a149fe0cdfeda28850932f9095", func := "pannier/pannierlaw03.BlockPlays", spec := "blockPlays", apart := false }
def BlockPlaysSaid : Prop := blockPlaysRow.holds Try.pinned (OpenSpec.ofChange blockPlaysSpec)

/-- ITS FALSE NEIGHBOUR: 'it returns false'. Refute it at one input. -/
def blockPlaysWrong : ChangeSpec := { name := "blockPlays", fn := fun _ => fun
  | [d1, d2] => { results := [.lit (.bool false)], args := [d1, d2] }
  | _ => none }
def BlockPlaysWrongFalsely : Prop := blockPlaysRow.holds Try.pinned (OpenSpec.ofChange blockPlaysWrong)

/-- 'pannierlaw03.BlockHolds': WHATEVER THE INPUT: true; the input reads as it did. -/
def blockHoldsSpec : ChangeSpec := { name := "blockHolds", fn := fun _ => fun
  | [d1, d2] => { results := [.lit (.bool true)], args := [d1, d2] }
  | _ => none }
def blockHoldsRow : OpenClaim := { program := "ytiamkbmefllljaa", sum := "0372321dd51c0c3fcd51099117394459ec5e79a149fe0cdfeda28850932f9095", func := "pannier/pannierlaw03.BlockHolds", spec := "blockHolds", apart := false }
def BlockHoldsSaid : Prop := blockHoldsRow.holds Try.pinned (OpenSpec.ofChange blockHoldsSpec)

/-- ITS FALSE NEIGHBOUR: 'it returns false'. Refute it at one input. -/
def blockHoldsWrong : ChangeSpec := { name := "blockHolds", fn := fun _ => fun
  | [d1, d2] => { results := [.lit (.bool false)], args := [d1, d2] }
  | _ => none }
def BlockHoldsWrongFalsely : Prop := blockHoldsRow.holds Try.pinned (OpenSpec.ofChange blockHoldsWrong)

/-- 'pannierlaw03.BlockRange': WHATEVER THE INPUT: true; the input reads as it did. -/
def blockRangeSpec : ChangeSpec := { name := "blockRange", fn := fun _ => fun
  | [d1, d2, d3] => { results := [.lit (.bool true)], args := [d1, d2, d3] }
  | _ => none }
def blockRangeRow : OpenClaim := { program := "ytiamkbmefllljaa", sum := "0372321dd51c0c3fcd51099117394459ec5e79a149fe0cdfeda28850932f9095", func := "pannier/pannierlaw03.BlockRange", spec := "blockRange", apart := false }
def BlockRangeSaid : Prop := blockRangeRow.holds Try.pinned (OpenSpec.ofChange blockRangeSpec)

/-- ITS FALSE NEIGHBOUR: 'it returns false'. Refute it at one input. -/
def blockRangeWrong : ChangeSpec := { name := "blockRange", fn := fun _ => fun
  | [d1, d2, d3] => { results := [.lit (.bool false)], args := [d1, d2, d3] }
  | _ => none }
def BlockRangeWrongFalsely : Prop := blockRangeRow.holds Try.pinned (OpenSpec.ofChange blockRangeWrong)

/-- 'pannierlaw04.ExtentParts': WHATEVER THE INPUT: true; the input reads as it did. -/
def extentPartsSpec : ChangeSpec := { name := "extentParts", fn := fun _ => fun
  | [d1, d2] => { results := [.lit (.bool true)], args := [d1, d2] }
  | _ => none }
def extentPartsRow : OpenClaim := { program := "ytiamkbmefllljaa", sum := "0372321dd51c0c3fcd51099117394459ec5e79a149fe0cdfeda28850932f9095", func := "pannier/pannierlaw04.ExtentParts", spec := "extentParts", apart := false }
def ExtentPartsSaid : Prop := extentPartsRow.holds Try.pinned (OpenSpec.ofChange extentPartsSpec)

/-- ITS FALSE NEIGHBOUR: 'it returns false'. Refute it at one input. -/
def extentPartsWrong : ChangeSpec := { name := "extentParts", fn := fun _ => fun
  | [d1, d2] => { results := [.lit (.bool false)], args := [d1, d2] }
  | _ => none }
def ExtentPartsWrongFalsely : Prop := extentPartsRow.holds Try.pinned (OpenSpec.ofChange extentPartsWrong)

/-- 'pannierlaw04.ExtentReads': WHATEVER THE INPUT: true; the input reads as it did. -/
def extentReadsSpec : ChangeSpec := { name := "extentReads", fn := fun _ => fun
  | [d1, d2, d3] => { results := [.lit (.bool true)], args := [d1, d2, d3] }
  | _ => none }
def extentReadsRow : OpenClaim := { program := "ytiamkbmefllljaa", sum := "0372321dd51c0c3fcd51099117394459ec5e79a149fe0cdfeda28850932f9095", func := "pannier/pannierlaw04.ExtentReads", spec := "extentReads", apart := false }
def ExtentReadsSaid : Prop := extentReadsRow.holds Try.pinned (OpenSpec.ofChange extentReadsSpec)

/-- ITS FALSE NEIGHBOUR: 'it returns false'. Refute it at one input. -/
def extentReadsWrong : ChangeSpec := { name := "extentReads", fn := fun _ => fun
  | [d1, d2, d3] => { results := [.lit (.bool false)], args := [d1, d2, d3] }
  | _ => none }
def ExtentReadsWrongFalsely : Prop := extentReadsRow.holds Try.pinned (OpenSpec.ofChange extentReadsWrong)

/-- 'pannierlaw04.ExtentPlays': WHATEVER THE INPUT: true; the input reads as it did. -/
def extentPlaysSpec : ChangeSpec := { name := "extentPlays", fn := fun _ => fun
  | [d1, d2] => { results := [.lit (.bool true)], args := [d1, d2] }
  | _ => none }
def extentPlaysRow : OpenClaim := { program := "ytiamkbmefllljaa", sum := "0372321dd51c0c3fcd51099117394459ec5e79a149fe0cdfeda28850932f9095", func := "pannier/pannierlaw04.ExtentPlays", spec := "extentPlays", apart := false }
def ExtentPlaysSaid : Prop := extentPlaysRow.holds Try.pinned (OpenSpec.ofChange extentPlaysSpec)

/-- ITS FALSE NEIGHBOUR: 'it returns false'. Refute it at one input. -/
def extentPlaysWrong : ChangeSpec := { name := "extentPlays", fn := fun _ => fun
  | [d1, d2] => { results := [.lit (.bool false)], args := [d1, d2] }
  | _ => none }
def ExtentPlaysWrongFalsely : Prop := extentPlaysRow.holds Try.pinned (OpenSpec.ofChange extentPlaysWrong)

/-- 'pannierlaw04.ExtentShared': WHATEVER THE INPUT: true; the input reads as it did. -/
def extentSharedSpec : ChangeSpec := { name := "extentShared", fn := fun _ => fun
  | [d1, d2] => { results := [.lit (.bool true)], args := [d1, d2] }
  | _ => none }
def extentSharedRow : OpenClaim := { program := "ytiamkbmefllljaa", sum := "0372321dd51c0c3fcd51099117394459ec5e79a149fe0cdfeda28850932f9095", func := "pannier/pannierlaw04.ExtentShared", spec := "extentShared", apart := false }
def ExtentSharedSaid : Prop := extentSharedRow.holds Try.pinned (OpenSpec.ofChange extentSharedSpec)

/-- ITS FALSE NEIGHBOUR: 'it returns false'. Refute it at one input. -/
def extentSharedWrong : ChangeSpec := { name := "extentShared", fn := fun _ => fun
  | [d1, d2] => { results := [.lit (.bool false)], args := [d1, d2] }
  | _ => none }
def ExtentSharedWrongFalsely : Prop := extentSharedRow.holds Try.pinned (OpenSpec.ofChange extentSharedWrong)

/- THE SECOND FORM. 'bulk': how many values and letters a reading holds, each counted each time it is reached (what is shared counts as often as it is met; a slice's spare places count too). A statement '..UptoSaid' is the law's where the arguments, and the package variables that the reading takes, are together of bulk at most 1048576: NARROWER than '..Said'. Prove '..Said' where nothing that the law and all that it calls make is longer than what came in: it says more and counts as full. Else prove '..UptoSaid'. A law counts once. -/
mutual
def uptoBulk {H : Type} : DataW H → Nat
  | .lit (.string bytes) => bytes.length + 1
  | .lit _ => 1
  | .nil => 1
  | .ptr d => uptoBulk d + 1
  | .slice elems spare => uptoBulkAll elems + uptoBulkAll spare + 1
  | .agg parts => uptoBulkAll parts + 1
  | .iface _ d => uptoBulk d + 1
  | .map entries => uptoBulkEntries entries + 1
  | .held _ => 1
def uptoBulkAll {H : Type} : List (DataW H) → Nat
  | [] => 0
  | d :: r => uptoBulk d + uptoBulkAll r
def uptoBulkEntries {H : Type} : List (Lit × DataW H) → Nat
  | [] => 0
  | x :: r => uptoBulkEntry x + uptoBulkEntries r
def uptoBulkEntry {H : Type} : Lit × DataW H → Nat
  | (.string bytes, d) => bytes.length + uptoBulk d + 1
  | (_, d) => uptoBulk d + 1
 end
def uptoSmall : (H : Type) → List (DataW H) → Bool := fun _ ds => decide (uptoBulkAll ds ≤ 1048576)
def OpenSpec.upto (s : _root_.Go.ChangeSpec) : _root_.Go.OpenSpec := { _root_.Go.OpenSpec.ofChange s with cond := some uptoSmall }

/-- 'pannierlaw03.BlockFull', WHERE WHAT IT READS IS OF BULK AT MOST 1048576: true; the input reads as it did. -/
def blockFullUptoRow : OpenClaim := { program := "ytiamkbmefllljaa", sum := "0372321dd51c0c3fcd51099117394459ec5e79a149fe0cdfeda28850932f9095", func := "pannier/pannierlaw03.BlockFull", spec := "blockFull", apart := false, narrowed := true }
def BlockFullUptoSaid : Prop := blockFullUptoRow.holds Try.pinned (OpenSpec.upto blockFullSpec)

/-- 'panniertop.WholeStore', WHERE WHAT IT READS IS OF BULK AT MOST 1048576: true; the input reads as it did. -/
def wholeStoreUptoRow : OpenClaim := { program := "ytiamkbmefllljaa", sum := "0372321dd51c0c3fcd51099117394459ec5e79a149fe0cdfeda28850932f9095", func := "pannier/panniertop.WholeStore", spec := "wholeStore", apart := false, narrowed := true }
def WholeStoreUptoSaid : Prop := wholeStoreUptoRow.holds Try.pinned (OpenSpec.upto wholeStoreSpec)

/-- 'pannierlaw03.BlockOwn', WHERE WHAT IT READS IS OF BULK AT MOST 1048576: true; the input reads as it did. -/
def blockOwnUptoRow : OpenClaim := { program := "ytiamkbmefllljaa", sum := "0372321dd51c0c3fcd51099117394459ec5e79a149fe0cdfeda28850932f9095", func := "pannier/pannierlaw03.BlockOwn", spec := "blockOwn", apart := false, narrowed := true }
def BlockOwnUptoSaid : Prop := blockOwnUptoRow.holds Try.pinned (OpenSpec.upto blockOwnSpec)

/-- 'pannierlaw03.BlockParts', WHERE WHAT IT READS IS OF BULK AT MOST 1048576: true; the input reads as it did. -/
def blockPartsUptoRow : OpenClaim := { program := "ytiamkbmefllljaa", sum := "0372321dd51c0c3fcd51099117394459ec5e79a149fe0cdfeda28850932f9095", func := "pannier/pannierlaw03.BlockParts", spec := "blockParts", apart := false, narrowed := true }
def BlockPartsUptoSaid : Prop := blockPartsUptoRow.holds Try.pinned (OpenSpec.upto blockPartsSpec)

/-- 'pannierlaw03.BlockPlays', WHERE WHAT IT READS IS OF BULK AT MOST 1048576: true; the input reads as it did. -/
def blockPlaysUptoRow : OpenClaim := { program := "ytiamkbmefllljaa", sum := "0372321dd51c0c3fcd51099117394459ec5e79a149fe0cdfeda28850932f9095", func := "pannier/pannierlaw03.BlockPlays", spec := "blockPlays", apart := false, narrowed := true }
def BlockPlaysUptoSaid : Prop := blockPlaysUptoRow.holds Try.pinned (OpenSpec.upto blockPlaysSpec)

/-- 'pannierlaw03.BlockHolds', WHERE WHAT IT READS IS OF BULK AT MOST 1048576: true; the input reads as it did. -/
def blockHoldsUptoRow : OpenClaim := { program := "ytiamkbmefllljaa", sum := "0372321dd51c0c3fcd51099117394459ec5e79a149fe0cdfeda28850932f9095", func := "pannier/pannierlaw03.BlockHolds", spec := "blockHolds", apart := false, narrowed := true }
def BlockHoldsUptoSaid : Prop := blockHoldsUptoRow.holds Try.pinned (OpenSpec.upto blockHoldsSpec)

/-- 'pannierlaw03.BlockRange', WHERE WHAT IT READS IS OF BULK AT MOST 1048576: true; the input reads as it did. -/
def blockRangeUptoRow : OpenClaim := { program := "ytiamkbmefllljaa", sum := "0372321dd51c0c3fcd51099117394459ec5e79a149fe0cdfeda28850932f9095", func := "pannier/pannierlaw03.BlockRange", spec := "blockRange", apart := false, narrowed := true }
def BlockRangeUptoSaid : Prop := blockRangeUptoRow.holds Try.pinned (OpenSpec.upto blockRangeSpec)

/-- 'pannierlaw04.ExtentParts', WHERE WHAT IT READS IS OF BULK AT MOST 1048576: true; the input reads as it did. -/
def extentPartsUptoRow : OpenClaim := { program := "ytiamkbmefllljaa", sum := "0372321dd51c0c3fcd51099117394459ec5e79a149fe0cdfeda28850932f9095", func := "pannier/pannierlaw04.ExtentParts", spec := "extentParts", apart := false, narrowed := true }
def ExtentPartsUptoSaid : Prop := extentPartsUptoRow.holds Try.pinned (OpenSpec.upto extentPartsSpec)

/-- 'pannierlaw04.ExtentReads', WHERE WHAT IT READS IS OF BULK AT MOST 1048576: true; the input reads as it did. -/
def extentReadsUptoRow : OpenClaim := { program := "ytiamkbmefllljaa", sum := "0372321dd51c0c3fcd51099117394459ec5e79a149fe0cdfeda28850932f9095", func := "pannier/pannierlaw04.ExtentReads", spec := "extentReads", apart := false, narrowed := true }
def ExtentReadsUptoSaid : Prop := extentReadsUptoRow.holds Try.pinned (OpenSpec.upto extentReadsSpec)

/-- 'pannierlaw04.ExtentPlays', WHERE WHAT IT READS IS OF BULK AT MOST 1048576: true; the input reads as it did. -/
def extentPlaysUptoRow : OpenClaim := { program := "ytiamkbmefllljaa", sum := "0372321dd51c0c3fcd51099117394459ec5e79a149fe0cdfeda28850932f9095", func := "pannier/pannierlaw04.ExtentPlays", spec := "extentPlays", apart := false, narrowed := true }
def ExtentPlaysUptoSaid : Prop := extentPlaysUptoRow.holds Try.pinned (OpenSpec.upto extentPlaysSpec)

/-- 'pannierlaw04.ExtentShared', WHERE WHAT IT READS IS OF BULK AT MOST 1048576: true; the input reads as it did. -/
def extentSharedUptoRow : OpenClaim := { program := "ytiamkbmefllljaa", sum := "0372321dd51c0c3fcd51099117394459ec5e79a149fe0cdfeda28850932f9095", func := "pannier/pannierlaw04.ExtentShared", spec := "extentShared", apart := false, narrowed := true }
def ExtentSharedUptoSaid : Prop := extentSharedUptoRow.holds Try.pinned (OpenSpec.upto extentSharedSpec)

end Rows
end Go.Proofs.Ytiamkbmefllljaa

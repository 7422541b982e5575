/-
  No cell of these rows narrows 'for every input' (looked for: loops, veiled, ifaces, maps, wideKeys, modest, calm, conditions, laid).
  DERIVED. THE GIVEN ROWS OF THIS SEAT. 11 by the template 'for every input the law returns true; each argument reads behind the call as it read before'; 0 by the template 'total and deterministic' (their statements: YtpdelappcgmadaaTotals.lean).
  GIVEN WITH THE SEED: the statements are not yours to turn. If you find one false, say at which input.
  Laid BY PROGRAM, IN A SANDBOX (cutbox-rows.mjs): the forced cells as the released guide's own fill.sh prints them over the translation 3ba2cc9e00e2fa39… (all of the seat's roots in one cut). By AI agents, Wed Nov 11 2026. No macro, syntax, notation, axiom, sorry.
-/
import Derived.Test.YtpdelappcgmadaaChecked
import GoSem.Claim
import GoSem.ClaimJoined
import GoSem.ClaimMapViews
import Derived.JoinedTies
import Derived.KernelRfl
namespace Go.Proofs.Ytpdelappcgmadaa
/- THE CELL 'sum', in the pinned program and in every row, IS THE sha256 OF THE DUMP (.gsa) THAT YtpdelappcgmadaaProg.lean LOADS. Nothing in Lean hashes anything: it is a label: what it is worth is what the hold of that sum in a sandbox is worth. -/
noncomputable def Try.pinned : Pinned := { name := "ytpdelappcgmadaa", sum := "3ba2cc9e00e2fa3920b9dba41e0b7b4aaf831ac8fa35e021d186acade99a24cf", checked := Try.checked }
namespace Rows
def none {H : Type} : Left H := { results := [], args := [] }

/-- 'pannierlaw08.KindTypes': WHATEVER THE INPUT: true; the input reads as it did. -/
def kindTypesSpec : ChangeSpec := { name := "kindTypes", fn := fun _ => fun
  | [d] => { results := [.lit (.bool true)], args := [d] }
  | _ => none }
def kindTypesRow : OpenClaim := { program := "ytpdelappcgmadaa", sum := "3ba2cc9e00e2fa3920b9dba41e0b7b4aaf831ac8fa35e021d186acade99a24cf", func := "pannier/pannierlaw08.KindTypes", spec := "kindTypes", apart := false }
def KindTypesSaid : Prop := kindTypesRow.holds Try.pinned (OpenSpec.ofChange kindTypesSpec)

/-- ITS FALSE NEIGHBOUR: 'it returns false'. Refute it at one input. -/
def kindTypesWrong : ChangeSpec := { name := "kindTypes", fn := fun _ => fun
  | [d] => { results := [.lit (.bool false)], args := [d] }
  | _ => none }
def KindTypesWrongFalsely : Prop := kindTypesRow.holds Try.pinned (OpenSpec.ofChange kindTypesWrong)

/-- 'pannierlaw08.KindBack': WHATEVER THE INPUT: true; the input reads as it did. -/
def kindBackSpec : ChangeSpec := { name := "kindBack", fn := fun _ => fun
  | [d] => { results := [.lit (.bool true)], args := [d] }
  | _ => none }
def kindBackRow : OpenClaim := { program := "ytpdelappcgmadaa", sum := "3ba2cc9e00e2fa3920b9dba41e0b7b4aaf831ac8fa35e021d186acade99a24cf", func := "pannier/pannierlaw08.KindBack", spec := "kindBack", apart := false }
def KindBackSaid : Prop := kindBackRow.holds Try.pinned (OpenSpec.ofChange kindBackSpec)

/-- ITS FALSE NEIGHBOUR: 'it returns false'. Refute it at one input. -/
def kindBackWrong : ChangeSpec := { name := "kindBack", fn := fun _ => fun
  | [d] => { results := [.lit (.bool false)], args := [d] }
  | _ => none }
def KindBackWrongFalsely : Prop := kindBackRow.holds Try.pinned (OpenSpec.ofChange kindBackWrong)

/-- 'pannierlaw08.KindOnce': WHATEVER THE INPUT: true; the input reads as it did. -/
def kindOnceSpec : ChangeSpec := { name := "kindOnce", fn := fun _ => fun
  | [d1, d2] => { results := [.lit (.bool true)], args := [d1, d2] }
  | _ => none }
def kindOnceRow : OpenClaim := { program := "ytpdelappcgmadaa", sum := "3ba2cc9e00e2fa3920b9dba41e0b7b4aaf831ac8fa35e021d186acade99a24cf", func := "pannier/pannierlaw08.KindOnce", spec := "kindOnce", apart := false }
def KindOnceSaid : Prop := kindOnceRow.holds Try.pinned (OpenSpec.ofChange kindOnceSpec)

/-- ITS FALSE NEIGHBOUR: 'it returns false'. Refute it at one input. -/
def kindOnceWrong : ChangeSpec := { name := "kindOnce", fn := fun _ => fun
  | [d1, d2] => { results := [.lit (.bool false)], args := [d1, d2] }
  | _ => none }
def KindOnceWrongFalsely : Prop := kindOnceRow.holds Try.pinned (OpenSpec.ofChange kindOnceWrong)

/-- 'pannierlaw08.KindSame': WHATEVER THE INPUT: true; the input reads as it did. -/
def kindSameSpec : ChangeSpec := { name := "kindSame", fn := fun _ => fun
  | [d1, d2] => { results := [.lit (.bool true)], args := [d1, d2] }
  | _ => none }
def kindSameRow : OpenClaim := { program := "ytpdelappcgmadaa", sum := "3ba2cc9e00e2fa3920b9dba41e0b7b4aaf831ac8fa35e021d186acade99a24cf", func := "pannier/pannierlaw08.KindSame", spec := "kindSame", apart := false }
def KindSameSaid : Prop := kindSameRow.holds Try.pinned (OpenSpec.ofChange kindSameSpec)

/-- ITS FALSE NEIGHBOUR: 'it returns false'. Refute it at one input. -/
def kindSameWrong : ChangeSpec := { name := "kindSame", fn := fun _ => fun
  | [d1, d2] => { results := [.lit (.bool false)], args := [d1, d2] }
  | _ => none }
def KindSameWrongFalsely : Prop := kindSameRow.holds Try.pinned (OpenSpec.ofChange kindSameWrong)

/-- 'pannierlaw08.KindAhead': WHATEVER THE INPUT: true; the input reads as it did. -/
def kindAheadSpec : ChangeSpec := { name := "kindAhead", fn := fun _ => fun
  | [d] => { results := [.lit (.bool true)], args := [d] }
  | _ => none }
def kindAheadRow : OpenClaim := { program := "ytpdelappcgmadaa", sum := "3ba2cc9e00e2fa3920b9dba41e0b7b4aaf831ac8fa35e021d186acade99a24cf", func := "pannier/pannierlaw08.KindAhead", spec := "kindAhead", apart := false }
def KindAheadSaid : Prop := kindAheadRow.holds Try.pinned (OpenSpec.ofChange kindAheadSpec)

/-- ITS FALSE NEIGHBOUR: 'it returns false'. Refute it at one input. -/
def kindAheadWrong : ChangeSpec := { name := "kindAhead", fn := fun _ => fun
  | [d] => { results := [.lit (.bool false)], args := [d] }
  | _ => none }
def KindAheadWrongFalsely : Prop := kindAheadRow.holds Try.pinned (OpenSpec.ofChange kindAheadWrong)

/-- 'pannierlaw15.QuotaPlays': WHATEVER THE INPUT: true; the input reads as it did. -/
def quotaPlaysSpec : ChangeSpec := { name := "quotaPlays", fn := fun _ => fun
  | [d1, d2] => { results := [.lit (.bool true)], args := [d1, d2] }
  | _ => none }
def quotaPlaysRow : OpenClaim := { program := "ytpdelappcgmadaa", sum := "3ba2cc9e00e2fa3920b9dba41e0b7b4aaf831ac8fa35e021d186acade99a24cf", func := "pannier/pannierlaw15.QuotaPlays", spec := "quotaPlays", apart := false }
def QuotaPlaysSaid : Prop := quotaPlaysRow.holds Try.pinned (OpenSpec.ofChange quotaPlaysSpec)

/-- ITS FALSE NEIGHBOUR: 'it returns false'. Refute it at one input. -/
def quotaPlaysWrong : ChangeSpec := { name := "quotaPlays", fn := fun _ => fun
  | [d1, d2] => { results := [.lit (.bool false)], args := [d1, d2] }
  | _ => none }
def QuotaPlaysWrongFalsely : Prop := quotaPlaysRow.holds Try.pinned (OpenSpec.ofChange quotaPlaysWrong)

/-- 'pannierlaw15.QuotaRatios': WHATEVER THE INPUT: true; the input reads as it did. -/
def quotaRatiosSpec : ChangeSpec := { name := "quotaRatios", fn := fun _ => fun
  | [d1, d2, d3] => { results := [.lit (.bool true)], args := [d1, d2, d3] }
  | _ => none }
def quotaRatiosRow : OpenClaim := { program := "ytpdelappcgmadaa", sum := "3ba2cc9e00e2fa3920b9dba41e0b7b4aaf831ac8fa35e021d186acade99a24cf", func := "pannier/pannierlaw15.QuotaRatios", spec := "quotaRatios", apart := false }
def QuotaRatiosSaid : Prop := quotaRatiosRow.holds Try.pinned (OpenSpec.ofChange quotaRatiosSpec)

/-- ITS FALSE NEIGHBOUR: 'it returns false'. Refute it at one input. -/
def quotaRatiosWrong : ChangeSpec := { name := "quotaRatios", fn := fun _ => fun
  | [d1, d2, d3] => { results := [.lit (.bool false)], args := [d1, d2, d3] }
  | _ => none }
def QuotaRatiosWrongFalsely : Prop := quotaRatiosRow.holds Try.pinned (OpenSpec.ofChange quotaRatiosWrong)

/-- 'pannierlaw15.QuotaMore': WHATEVER THE INPUT: true; the input reads as it did. -/
def quotaMoreSpec : ChangeSpec := { name := "quotaMore", fn := fun _ => fun
  | [d1, d2, d3] => { results := [.lit (.bool true)], args := [d1, d2, d3] }
  | _ => none }
def quotaMoreRow : OpenClaim := { program := "ytpdelappcgmadaa", sum := "3ba2cc9e00e2fa3920b9dba41e0b7b4aaf831ac8fa35e021d186acade99a24cf", func := "pannier/pannierlaw15.QuotaMore", spec := "quotaMore", apart := false }
def QuotaMoreSaid : Prop := quotaMoreRow.holds Try.pinned (OpenSpec.ofChange quotaMoreSpec)

/-- ITS FALSE NEIGHBOUR: 'it returns false'. Refute it at one input. -/
def quotaMoreWrong : ChangeSpec := { name := "quotaMore", fn := fun _ => fun
  | [d1, d2, d3] => { results := [.lit (.bool false)], args := [d1, d2, d3] }
  | _ => none }
def QuotaMoreWrongFalsely : Prop := quotaMoreRow.holds Try.pinned (OpenSpec.ofChange quotaMoreWrong)

/-- 'pannierlaw15.QuotaBack': WHATEVER THE INPUT: true; the input reads as it did. -/
def quotaBackSpec : ChangeSpec := { name := "quotaBack", fn := fun _ => fun
  | [d1, d2, d3] => { results := [.lit (.bool true)], args := [d1, d2, d3] }
  | _ => none }
def quotaBackRow : OpenClaim := { program := "ytpdelappcgmadaa", sum := "3ba2cc9e00e2fa3920b9dba41e0b7b4aaf831ac8fa35e021d186acade99a24cf", func := "pannier/pannierlaw15.QuotaBack", spec := "quotaBack", apart := false }
def QuotaBackSaid : Prop := quotaBackRow.holds Try.pinned (OpenSpec.ofChange quotaBackSpec)

/-- ITS FALSE NEIGHBOUR: 'it returns false'. Refute it at one input. -/
def quotaBackWrong : ChangeSpec := { name := "quotaBack", fn := fun _ => fun
  | [d1, d2, d3] => { results := [.lit (.bool false)], args := [d1, d2, d3] }
  | _ => none }
def QuotaBackWrongFalsely : Prop := quotaBackRow.holds Try.pinned (OpenSpec.ofChange quotaBackWrong)

/-- 'pannierlaw15.QuotaFull': WHATEVER THE INPUT: true; the input reads as it did. -/
def quotaFullSpec : ChangeSpec := { name := "quotaFull", fn := fun _ => fun
  | [d1, d2] => { results := [.lit (.bool true)], args := [d1, d2] }
  | _ => none }
def quotaFullRow : OpenClaim := { program := "ytpdelappcgmadaa", sum := "3ba2cc9e00e2fa3920b9dba41e0b7b4aaf831ac8fa35e021d186acade99a24cf", func := "pannier/pannierlaw15.QuotaFull", spec := "quotaFull", apart := false }
def QuotaFullSaid : Prop := quotaFullRow.holds Try.pinned (OpenSpec.ofChange quotaFullSpec)

/-- ITS FALSE NEIGHBOUR: 'it returns false'. Refute it at one input. -/
def quotaFullWrong : ChangeSpec := { name := "quotaFull", fn := fun _ => fun
  | [d1, d2] => { results := [.lit (.bool false)], args := [d1, d2] }
  | _ => none }
def QuotaFullWrongFalsely : Prop := quotaFullRow.holds Try.pinned (OpenSpec.ofChange quotaFullWrong)

/-- 'pannierlaw15.QuotaChecks': WHATEVER THE INPUT: true; the input reads as it did. -/
def quotaChecksSpec : ChangeSpec := { name := "quotaChecks", fn := fun _ => fun
  | [d] => { results := [.lit (.bool true)], args := [d] }
  | _ => none }
def quotaChecksRow : OpenClaim := { program := "ytpdelappcgmadaa", sum := "3ba2cc9e00e2fa3920b9dba41e0b7b4aaf831ac8fa35e021d186acade99a24cf", func := "pannier/pannierlaw15.QuotaChecks", spec := "quotaChecks", apart := false }
def QuotaChecksSaid : Prop := quotaChecksRow.holds Try.pinned (OpenSpec.ofChange quotaChecksSpec)

/-- ITS FALSE NEIGHBOUR: 'it returns false'. Refute it at one input. -/
def quotaChecksWrong : ChangeSpec := { name := "quotaChecks", fn := fun _ => fun
  | [d] => { results := [.lit (.bool false)], args := [d] }
  | _ => none }
def QuotaChecksWrongFalsely : Prop := quotaChecksRow.holds Try.pinned (OpenSpec.ofChange quotaChecksWrong)

/- THE SECOND FORM. 'bulk': how many values and letters a reading holds, each counted each time it is reached (what is shared counts as often as it is met; a slice's spare places count too). A statement '..UptoSaid' is the law's where the arguments, and the package variables that the reading takes, are together of bulk at most 1048576: NARROWER than '..Said'. Prove '..Said' where nothing that the law and all that it calls make is longer than what came in: it says more and counts as full. Else prove '..UptoSaid'. A law counts once. -/
mutual
def uptoBulk {H : Type} : DataW H → Nat
  | .lit (.string bytes) => bytes.length + 1
  | .lit _ => 1
  | .nil => 1
  | .ptr d => uptoBulk d + 1
  | .slice elems spare => uptoBulkAll elems + uptoBulkAll spare + 1
  | .agg parts => uptoBulkAll parts + 1
  | .iface _ d => uptoBulk d + 1
  | .map entries => uptoBulkEntries entries + 1
  | .held _ => 1
def uptoBulkAll {H : Type} : List (DataW H) → Nat
  | [] => 0
  | d :: r => uptoBulk d + uptoBulkAll r
def uptoBulkEntries {H : Type} : List (Lit × DataW H) → Nat
  | [] => 0
  | x :: r => uptoBulkEntry x + uptoBulkEntries r
def uptoBulkEntry {H : Type} : Lit × DataW H → Nat
  | (.string bytes, d) => bytes.length + uptoBulk d + 1
  | (_, d) => uptoBulk d + 1
 end
def uptoSmall : (H : Type) → List (DataW H) → Bool := fun _ ds => decide (uptoBulkAll ds ≤ 1048576)
def OpenSpec.upto (s : _root_.Go.ChangeSpec) : _root_.Go.OpenSpec := { _root_.Go.OpenSpec.ofChange s with cond := some uptoSmall }

/-- 'pannierlaw08.KindTypes', WHERE WHAT IT READS IS OF BULK AT MOST 1048576: true; the input reads as it did. -/
def kindTypesUptoRow : OpenClaim := { program := "ytpdelappcgmadaa", sum := "3ba2cc9e00e2fa3920b9dba41e0b7b4aaf831ac8fa35e021d186acade99a24cf", func := "pannier/pannierlaw08.KindTypes", spec := "kindTypes", apart := false, narrowed := true }
def KindTypesUptoSaid : Prop := kindTypesUptoRow.holds Try.pinned (OpenSpec.upto kindTypesSpec)

/-- 'pannierlaw08.KindBack', WHERE WHAT IT READS IS OF BULK AT MOST 1048576: true; the input reads as it did. -/
def kindBackUptoRow : OpenClaim := { program := "ytpdelappcgmadaa", sum := "3ba2cc9e00e2fa3920b9dba41e0b7b4aaf831ac8fa35e021d186acade99a24cf", func := "pannier/pannierlaw08.KindBack", spec := "kindBack", apart := false, narrowed := true }
def KindBackUptoSaid : Prop := kindBackUptoRow.holds Try.pinned (OpenSpec.upto kindBackSpec)

/-- 'pannierlaw08.KindOnce', WHERE WHAT IT READS IS OF BULK AT MOST 1048576: true; the input reads as it did. -/
def kindOnceUptoRow : OpenClaim := { program := "ytpdelappcgmadaa", sum := "3ba2cc9e00e2fa3920b9dba41e0b7b4aaf831ac8fa35e021d186acade99a24cf", func := "pannier/pannierlaw08.KindOnce", spec := "kindOnce", apart := false, narrowed := true }
def KindOnceUptoSaid : Prop := kindOnceUptoRow.holds Try.pinned (OpenSpec.upto kindOnceSpec)

/-- 'pannierlaw08.KindSame', WHERE WHAT IT READS IS OF BULK AT MOST 1048576: true; the input reads as it did. -/
def kindSameUptoRow : OpenClaim := { program := "ytpdelappcgmadaa", sum := "3ba2cc9e00e2fa3920b9dba41e0b7b4aaf831ac8fa35e021d186acade99a24cf", func := "pannier/pannierlaw08.KindSame", spec := "kindSame", apart := false, narrowed := true }
def KindSameUptoSaid : Prop := kindSameUptoRow.holds Try.pinned (OpenSpec.upto kindSameSpec)

/-- 'pannierlaw08.KindAhead', WHERE WHAT IT READS IS OF BULK AT MOST 1048576: true; the input reads as it did. -/
def kindAheadUptoRow : OpenClaim := { program := "ytpdelappcgmadaa", sum := "3ba2cc9e00e2fa3920b9dba41e0b7b4aaf831ac8fa35e021d186acade99a24cf", func := "pannier/pannierlaw08.KindAhead", spec := "kindAhead", apart := false, narrowed := true }
def KindAheadUptoSaid : Prop := kindAheadUptoRow.holds Try.pinned (OpenSpec.upto kindAheadSpec)

/-- 'pannierlaw15.QuotaPlays', WHERE WHAT IT READS IS OF BULK AT MOST 1048576: true; the input reads as it did. -/
def quotaPlaysUptoRow : OpenClaim := { program := "ytpdelappcgmadaa", sum := "3ba2cc9e00e2fa3920b9dba41e0b7b4aaf831ac8fa35e021d186acade99a24cf", func := "pannier/pannierlaw15.QuotaPlays", spec := "quotaPlays", apart := false, narrowed := true }
def QuotaPlaysUptoSaid : Prop := quotaPlaysUptoRow.holds Try.pinned (OpenSpec.upto quotaPlaysSpec)

/-- 'pannierlaw15.QuotaRatios', WHERE WHAT IT READS IS OF BULK AT MOST 1048576: true; the input reads as it did. -/
def quotaRatiosUptoRow : OpenClaim := { program := "ytpdelappcgmadaa", sum := "3ba2cc9e00e2fa3920b9dba41e0b7b4aaf831ac8fa35e021d186acade99a24cf", func := "pannier/pannierlaw15.QuotaRatios", spec := "quotaRatios", apart := false, narrowed := true }
def QuotaRatiosUptoSaid : Prop := quotaRatiosUptoRow.holds Try.pinned (OpenSpec.upto quotaRatiosSpec)

/-- 'pannierlaw15.QuotaMore', WHERE WHAT IT READS IS OF BULK AT MOST 1048576: true; the input reads as it did. -/
def quotaMoreUptoRow : OpenClaim := { program := "ytpdelappcgmadaa", sum := "3ba2cc9e00e2fa3920b9dba41e0b7b4aaf831ac8fa35e021d186acade99a24cf", func := "pannier/pannierlaw15.QuotaMore", spec := "quotaMore", apart := false, narrowed := true }
def QuotaMoreUptoSaid : Prop := quotaMoreUptoRow.holds Try.pinned (OpenSpec.upto quotaMoreSpec)

/-- 'pannierlaw15.QuotaBack', WHERE WHAT IT READS IS OF BULK AT MOST 1048576: true; the input reads as it did. -/
def quotaBackUptoRow : OpenClaim := { program := "ytpdelappcgmadaa", sum := "3ba2cc9e00e2fa3920b9dba41e0b7b4aaf831ac8fa35e021d186acade99a24cf", func := "pannier/pannierlaw15.QuotaBack", spec := "quotaBack", apart := false, narrowed := true }
def QuotaBackUptoSaid : Prop := quotaBackUptoRow.holds Try.pinned (OpenSpec.upto quotaBackSpec)

/-- 'pannierlaw15.QuotaFull', WHERE WHAT IT READS IS OF BULK AT MOST 1048576: true; the input reads as it did. -/
def quotaFullUptoRow : OpenClaim := { program := "ytpdelappcgmadaa", sum := "3ba2cc9e00e2fa3920b9dba41e0b7b4aaf831ac8fa35e021d186acade99a24cf", func := "pannier/pannierlaw15.QuotaFull", spec := "quotaFull", apart := false, narrowed := true }
def QuotaFullUptoSaid : Prop := quotaFullUptoRow.holds Try.pinned (OpenSpec.upto quotaFullSpec)

/-- 'pannierlaw15.QuotaChecks', WHERE WHAT IT READS IS OF BULK AT MOST 1048576: true; the input reads as it did. -/
def quotaChecksUptoRow : OpenClaim := { program := "ytpdelappcgmadaa", sum := "3ba2cc9e00e2fa3920b9dba41e0b7b4aaf831ac8fa35e021d186acade99a24cf", func := "pannier/pannierlaw15.QuotaChecks", spec := "quotaChecks", apart := false, narrowed := true }
def QuotaChecksUptoSaid : Prop := quotaChecksUptoRow.holds Try.pinned (OpenSpec.upto quotaChecksSpec)

end Rows
end Go.Proofs.Ytpdelappcgmadaa

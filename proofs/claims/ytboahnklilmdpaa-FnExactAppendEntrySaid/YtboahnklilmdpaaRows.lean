/-
  No cell of these rows narrows 'for every input' (looked for: loops, veiled, ifaces, maps, wideKeys, modest, calm, conditions, laid).
  DERIVED. THE GIVEN ROWS OF THIS SEAT. 12 by the template 'for every input the law returns true; each argument reads behind the call as it read before'; 0 by the template 'total and deterministic' (their statements: YtboahnklilmdpaaTotals.lean).
  GIVEN WITH THE SEED: the statements are not yours to turn. If you find one false, say at which input.
  Laid BY PROGRAM, IN A SANDBOX (cutbox-rows.mjs): the forced cells as the released guide's own fill.sh prints them over the translation 1bd21067ab4689c0… (all of the seat's roots in one cut). By AI agents, Wed Nov 11 2026. No macro, syntax, notation, axiom, sorry.
-/
import Derived.Test.YtboahnklilmdpaaChecked
import GoSem.Claim
import GoSem.ClaimJoined
import GoSem.ClaimMapViews
import Derived.JoinedTies
import Derived.KernelRfl
namespace Go.Proofs.Ytboahnklilmdpaa
/- THE CELL 'sum', in the pinned program and in every row, IS THE sha256 OF THE DUMP (.gsa) THAT YtboahnklilmdpaaProg.lean LOADS. Nothing in Lean hashes anything: it is a label: what it is worth is what the hold of that sum in a sandbox is worth. -/
noncomputable def Try.pinned : Pinned := { name := "ytboahnklilmdpaa", sum := "1bd21067ab4689c0bc6d19a0cf1794b765d175b08deff299a87af4294c0a1b76", checked := Try.checked }
namespace Rows
def none {H : Type} : Left H := { results := [], args := [] }

/-- 'laws.FnExactAppendEntry': WHATEVER THE INPUT: true; the input reads as it did. -/
def fnExactAppendEntrySpec : ChangeSpec := { name := "fnExactAppendEntry", fn := fun _ => fun
  | [d1, d2, d3] => { results := [.lit (.bool true)], args := [d1, d2, d3] }
  | _ => none }
def fnExactAppendEntryRow : OpenClaim := { program := "ytboahnklilmdpaa", sum := "1bd21067ab4689c0bc6d19a0cf1794b765d175b08deff299a87af4294c0a1b76", func := "loop.example/g00878/laws.FnExactAppendEntry", spec := "fnExactAppendEntry", unfollowed := true, recurses := true, apart := false }
def FnExactAppendEntrySaid : Prop := fnExactAppendEntryRow.holds Try.pinned (OpenSpec.ofChange fnExactAppendEntrySpec)

/-- ITS FALSE NEIGHBOUR: 'it returns false'. Refute it at one input. -/
def fnExactAppendEntryWrong : ChangeSpec := { name := "fnExactAppendEntry", fn := fun _ => fun
  | [d1, d2, d3] => { results := [.lit (.bool false)], args := [d1, d2, d3] }
  | _ => none }
def FnExactAppendEntryWrongFalsely : Prop := fnExactAppendEntryRow.holds Try.pinned (OpenSpec.ofChange fnExactAppendEntryWrong)

/-- 'laws.FnReencryption': WHATEVER THE INPUT: true; the input reads as it did. -/
def fnReencryptionSpec : ChangeSpec := { name := "fnReencryption", fn := fun _ => fun
  | [d1, d2] => { results := [.lit (.bool true)], args := [d1, d2] }
  | _ => none }
def fnReencryptionRow : OpenClaim := { program := "ytboahnklilmdpaa", sum := "1bd21067ab4689c0bc6d19a0cf1794b765d175b08deff299a87af4294c0a1b76", func := "loop.example/g00878/laws.FnReencryption", spec := "fnReencryption", unfollowed := true, recurses := true, apart := false }
def FnReencryptionSaid : Prop := fnReencryptionRow.holds Try.pinned (OpenSpec.ofChange fnReencryptionSpec)

/-- ITS FALSE NEIGHBOUR: 'it returns false'. Refute it at one input. -/
def fnReencryptionWrong : ChangeSpec := { name := "fnReencryption", fn := fun _ => fun
  | [d1, d2] => { results := [.lit (.bool false)], args := [d1, d2] }
  | _ => none }
def FnReencryptionWrongFalsely : Prop := fnReencryptionRow.holds Try.pinned (OpenSpec.ofChange fnReencryptionWrong)

/-- 'laws.FnHomomorphism': WHATEVER THE INPUT: true; the input reads as it did. -/
def fnHomomorphismSpec : ChangeSpec := { name := "fnHomomorphism", fn := fun _ => fun
  | [d1, d2] => { results := [.lit (.bool true)], args := [d1, d2] }
  | _ => none }
def fnHomomorphismRow : OpenClaim := { program := "ytboahnklilmdpaa", sum := "1bd21067ab4689c0bc6d19a0cf1794b765d175b08deff299a87af4294c0a1b76", func := "loop.example/g00878/laws.FnHomomorphism", spec := "fnHomomorphism", unfollowed := true, recurses := true, apart := false }
def FnHomomorphismSaid : Prop := fnHomomorphismRow.holds Try.pinned (OpenSpec.ofChange fnHomomorphismSpec)

/-- ITS FALSE NEIGHBOUR: 'it returns false'. Refute it at one input. -/
def fnHomomorphismWrong : ChangeSpec := { name := "fnHomomorphism", fn := fun _ => fun
  | [d1, d2] => { results := [.lit (.bool false)], args := [d1, d2] }
  | _ => none }
def FnHomomorphismWrongFalsely : Prop := fnHomomorphismRow.holds Try.pinned (OpenSpec.ofChange fnHomomorphismWrong)

/-- 'laws.FnCommitments': WHATEVER THE INPUT: true; the input reads as it did. -/
def fnCommitmentsSpec : ChangeSpec := { name := "fnCommitments", fn := fun _ => fun
  | [d1, d2] => { results := [.lit (.bool true)], args := [d1, d2] }
  | _ => none }
def fnCommitmentsRow : OpenClaim := { program := "ytboahnklilmdpaa", sum := "1bd21067ab4689c0bc6d19a0cf1794b765d175b08deff299a87af4294c0a1b76", func := "loop.example/g00878/laws.FnCommitments", spec := "fnCommitments", unfollowed := true, recurses := true, apart := false }
def FnCommitmentsSaid : Prop := fnCommitmentsRow.holds Try.pinned (OpenSpec.ofChange fnCommitmentsSpec)

/-- ITS FALSE NEIGHBOUR: 'it returns false'. Refute it at one input. -/
def fnCommitmentsWrong : ChangeSpec := { name := "fnCommitments", fn := fun _ => fun
  | [d1, d2] => { results := [.lit (.bool false)], args := [d1, d2] }
  | _ => none }
def FnCommitmentsWrongFalsely : Prop := fnCommitmentsRow.holds Try.pinned (OpenSpec.ofChange fnCommitmentsWrong)

/-- 'laws.FnRolls': WHATEVER THE INPUT: true; the input reads as it did. -/
def fnRollsSpec : ChangeSpec := { name := "fnRolls", fn := fun _ => fun
  | [d1, d2] => { results := [.lit (.bool true)], args := [d1, d2] }
  | _ => none }
def fnRollsRow : OpenClaim := { program := "ytboahnklilmdpaa", sum := "1bd21067ab4689c0bc6d19a0cf1794b765d175b08deff299a87af4294c0a1b76", func := "loop.example/g00878/laws.FnRolls", spec := "fnRolls", unfollowed := true, recurses := true, apart := false }
def FnRollsSaid : Prop := fnRollsRow.holds Try.pinned (OpenSpec.ofChange fnRollsSpec)

/-- ITS FALSE NEIGHBOUR: 'it returns false'. Refute it at one input. -/
def fnRollsWrong : ChangeSpec := { name := "fnRolls", fn := fun _ => fun
  | [d1, d2] => { results := [.lit (.bool false)], args := [d1, d2] }
  | _ => none }
def FnRollsWrongFalsely : Prop := fnRollsRow.holds Try.pinned (OpenSpec.ofChange fnRollsWrong)

/-- 'laws.FnBallots': WHATEVER THE INPUT: true; the input reads as it did. -/
def fnBallotsSpec : ChangeSpec := { name := "fnBallots", fn := fun _ => fun
  | [d1, d2] => { results := [.lit (.bool true)], args := [d1, d2] }
  | _ => none }
def fnBallotsRow : OpenClaim := { program := "ytboahnklilmdpaa", sum := "1bd21067ab4689c0bc6d19a0cf1794b765d175b08deff299a87af4294c0a1b76", func := "loop.example/g00878/laws.FnBallots", spec := "fnBallots", unfollowed := true, recurses := true, apart := false }
def FnBallotsSaid : Prop := fnBallotsRow.holds Try.pinned (OpenSpec.ofChange fnBallotsSpec)

/-- ITS FALSE NEIGHBOUR: 'it returns false'. Refute it at one input. -/
def fnBallotsWrong : ChangeSpec := { name := "fnBallots", fn := fun _ => fun
  | [d1, d2] => { results := [.lit (.bool false)], args := [d1, d2] }
  | _ => none }
def FnBallotsWrongFalsely : Prop := fnBallotsRow.holds Try.pinned (OpenSpec.ofChange fnBallotsWrong)

/-- 'laws.FnOpenings': WHATEVER THE INPUT: true; the input reads as it did. -/
def fnOpeningsSpec : ChangeSpec := { name := "fnOpenings", fn := fun _ => fun
  | [d1, d2] => { results := [.lit (.bool true)], args := [d1, d2] }
  | _ => none }
def fnOpeningsRow : OpenClaim := { program := "ytboahnklilmdpaa", sum := "1bd21067ab4689c0bc6d19a0cf1794b765d175b08deff299a87af4294c0a1b76", func := "loop.example/g00878/laws.FnOpenings", spec := "fnOpenings", unfollowed := true, recurses := true, apart := false }
def FnOpeningsSaid : Prop := fnOpeningsRow.holds Try.pinned (OpenSpec.ofChange fnOpeningsSpec)

/-- ITS FALSE NEIGHBOUR: 'it returns false'. Refute it at one input. -/
def fnOpeningsWrong : ChangeSpec := { name := "fnOpenings", fn := fun _ => fun
  | [d1, d2] => { results := [.lit (.bool false)], args := [d1, d2] }
  | _ => none }
def FnOpeningsWrongFalsely : Prop := fnOpeningsRow.holds Try.pinned (OpenSpec.ofChange fnOpeningsWrong)

/-- 'laws.FnSums': WHATEVER THE INPUT: true; the input reads as it did. -/
def fnSumsSpec : ChangeSpec := { name := "fnSums", fn := fun _ => fun
  | [d1, d2] => { results := [.lit (.bool true)], args := [d1, d2] }
  | _ => none }
def fnSumsRow : OpenClaim := { program := "ytboahnklilmdpaa", sum := "1bd21067ab4689c0bc6d19a0cf1794b765d175b08deff299a87af4294c0a1b76", func := "loop.example/g00878/laws.FnSums", spec := "fnSums", unfollowed := true, recurses := true, apart := false }
def FnSumsSaid : Prop := fnSumsRow.holds Try.pinned (OpenSpec.ofChange fnSumsSpec)

/-- ITS FALSE NEIGHBOUR: 'it returns false'. Refute it at one input. -/
def fnSumsWrong : ChangeSpec := { name := "fnSums", fn := fun _ => fun
  | [d1, d2] => { results := [.lit (.bool false)], args := [d1, d2] }
  | _ => none }
def FnSumsWrongFalsely : Prop := fnSumsRow.holds Try.pinned (OpenSpec.ofChange fnSumsWrong)

/-- 'laws.FnBits': WHATEVER THE INPUT: true; the input reads as it did. -/
def fnBitsSpec : ChangeSpec := { name := "fnBits", fn := fun _ => fun
  | [d1, d2] => { results := [.lit (.bool true)], args := [d1, d2] }
  | _ => none }
def fnBitsRow : OpenClaim := { program := "ytboahnklilmdpaa", sum := "1bd21067ab4689c0bc6d19a0cf1794b765d175b08deff299a87af4294c0a1b76", func := "loop.example/g00878/laws.FnBits", spec := "fnBits", unfollowed := true, recurses := true, apart := false }
def FnBitsSaid : Prop := fnBitsRow.holds Try.pinned (OpenSpec.ofChange fnBitsSpec)

/-- ITS FALSE NEIGHBOUR: 'it returns false'. Refute it at one input. -/
def fnBitsWrong : ChangeSpec := { name := "fnBits", fn := fun _ => fun
  | [d1, d2] => { results := [.lit (.bool false)], args := [d1, d2] }
  | _ => none }
def FnBitsWrongFalsely : Prop := fnBitsRow.holds Try.pinned (OpenSpec.ofChange fnBitsWrong)

/-- 'laws.FnRanges': WHATEVER THE INPUT: true; the input reads as it did. -/
def fnRangesSpec : ChangeSpec := { name := "fnRanges", fn := fun _ => fun
  | [d1, d2] => { results := [.lit (.bool true)], args := [d1, d2] }
  | _ => none }
def fnRangesRow : OpenClaim := { program := "ytboahnklilmdpaa", sum := "1bd21067ab4689c0bc6d19a0cf1794b765d175b08deff299a87af4294c0a1b76", func := "loop.example/g00878/laws.FnRanges", spec := "fnRanges", unfollowed := true, recurses := true, apart := false }
def FnRangesSaid : Prop := fnRangesRow.holds Try.pinned (OpenSpec.ofChange fnRangesSpec)

/-- ITS FALSE NEIGHBOUR: 'it returns false'. Refute it at one input. -/
def fnRangesWrong : ChangeSpec := { name := "fnRanges", fn := fun _ => fun
  | [d1, d2] => { results := [.lit (.bool false)], args := [d1, d2] }
  | _ => none }
def FnRangesWrongFalsely : Prop := fnRangesRow.holds Try.pinned (OpenSpec.ofChange fnRangesWrong)

/-- 'laws.FnExactSealedOfRecord': WHATEVER THE INPUT: true; the input reads as it did. -/
def fnExactSealedOfRecordSpec : ChangeSpec := { name := "fnExactSealedOfRecord", fn := fun _ => fun
  | [d] => { results := [.lit (.bool true)], args := [d] }
  | _ => none }
def fnExactSealedOfRecordRow : OpenClaim := { program := "ytboahnklilmdpaa", sum := "1bd21067ab4689c0bc6d19a0cf1794b765d175b08deff299a87af4294c0a1b76", func := "loop.example/g00878/laws.FnExactSealedOfRecord", spec := "fnExactSealedOfRecord", unfollowed := true, recurses := true, apart := false }
def FnExactSealedOfRecordSaid : Prop := fnExactSealedOfRecordRow.holds Try.pinned (OpenSpec.ofChange fnExactSealedOfRecordSpec)

/-- ITS FALSE NEIGHBOUR: 'it returns false'. Refute it at one input. -/
def fnExactSealedOfRecordWrong : ChangeSpec := { name := "fnExactSealedOfRecord", fn := fun _ => fun
  | [d] => { results := [.lit (.bool false)], args := [d] }
  | _ => none }
def FnExactSealedOfRecordWrongFalsely : Prop := fnExactSealedOfRecordRow.holds Try.pinned (OpenSpec.ofChange fnExactSealedOfRecordWrong)

/-- 'laws.FnExactStageOfRecord': WHATEVER THE INPUT: true; the input reads as it did. -/
def fnExactStageOfRecordSpec : ChangeSpec := { name := "fnExactStageOfRecord", fn := fun _ => fun
  | [d] => { results := [.lit (.bool true)], args := [d] }
  | _ => none }
def fnExactStageOfRecordRow : OpenClaim := { program := "ytboahnklilmdpaa", sum := "1bd21067ab4689c0bc6d19a0cf1794b765d175b08deff299a87af4294c0a1b76", func := "loop.example/g00878/laws.FnExactStageOfRecord", spec := "fnExactStageOfRecord", unfollowed := true, recurses := true, apart := false }
def FnExactStageOfRecordSaid : Prop := fnExactStageOfRecordRow.holds Try.pinned (OpenSpec.ofChange fnExactStageOfRecordSpec)

/-- ITS FALSE NEIGHBOUR: 'it returns false'. Refute it at one input. -/
def fnExactStageOfRecordWrong : ChangeSpec := { name := "fnExactStageOfRecord", fn := fun _ => fun
  | [d] => { results := [.lit (.bool false)], args := [d] }
  | _ => none }
def FnExactStageOfRecordWrongFalsely : Prop := fnExactStageOfRecordRow.holds Try.pinned (OpenSpec.ofChange fnExactStageOfRecordWrong)

/- THE SECOND FORM. 'bulk': how many values and letters a reading holds, each counted each time it is reached (what is shared counts as often as it is met; a slice's spare places count too). A statement '..UptoSaid' is the law's where the arguments, and the package variables that the reading takes, are together of bulk at most 1048576: NARROWER than '..Said'. Prove '..Said' where nothing that the law and all that it calls make is longer than what came in: it says more and counts as full. Else prove '..UptoSaid'. A law counts once. -/
mutual
def uptoBulk {H : Type} : DataW H → Nat
  | .lit (.string bytes) => bytes.length + 1
  | .lit _ => 1
  | .nil => 1
  | .ptr d => uptoBulk d + 1
  | .slice elems spare => uptoBulkAll elems + uptoBulkAll spare + 1
  | .agg parts => uptoBulkAll parts + 1
  | .iface _ d => uptoBulk d + 1
  | .map entries => uptoBulkEntries entries + 1
  | .held _ => 1
def uptoBulkAll {H : Type} : List (DataW H) → Nat
  | [] => 0
  | d :: r => uptoBulk d + uptoBulkAll r
def uptoBulkEntries {H : Type} : List (Lit × DataW H) → Nat
  | [] => 0
  | x :: r => uptoBulkEntry x + uptoBulkEntries r
def uptoBulkEntry {H : Type} : Lit × DataW H → Nat
  | (.string bytes, d) => bytes.length + uptoBulk d + 1
  | (_, d) => uptoBulk d + 1
 end
def uptoSmall : (H : Type) → List (DataW H) → Bool := fun _ ds => decide (uptoBulkAll ds ≤ 1048576)
def OpenSpec.upto (s : _root_.Go.ChangeSpec) : _root_.Go.OpenSpec := { _root_.Go.OpenSpec.ofChange s with cond := some uptoSmall }

/-- 'laws.FnExactAppendEntry', WHERE WHAT IT READS IS OF BULK AT MOST 1048576: true; the input reads as it did. -/
def fnExactAppendEntryUptoRow : OpenClaim := { program := "ytboahnklilmdpaa", sum := "1bd21067ab4689c0bc6d19a0cf1794b765d175b08deff299a87af4294c0a1b76", func := "loop.example/g00878/laws.FnExactAppendEntry", spec := "fnExactAppendEntry", unfollowed := true, recurses := true, apart := false, narrowed := true }
def FnExactAppendEntryUptoSaid : Prop := fnExactAppendEntryUptoRow.holds Try.pinned (OpenSpec.upto fnExactAppendEntrySpec)

/-- 'laws.FnReencryption', WHERE WHAT IT READS IS OF BULK AT MOST 1048576: true; the input reads as it did. -/
def fnReencryptionUptoRow : OpenClaim := { program := "ytboahnklilmdpaa", sum := "1bd21067ab4689c0bc6d19a0cf1794b765d175b08deff299a87af4294c0a1b76", func := "loop.example/g00878/laws.FnReencryption", spec := "fnReencryption", unfollowed := true, recurses := true, apart := false, narrowed := true }
def FnReencryptionUptoSaid : Prop := fnReencryptionUptoRow.holds Try.pinned (OpenSpec.upto fnReencryptionSpec)

/-- 'laws.FnHomomorphism', WHERE WHAT IT READS IS OF BULK AT MOST 1048576: true; the input reads as it did. -/
def fnHomomorphismUptoRow : OpenClaim := { program := "ytboahnklilmdpaa", sum := "1bd21067ab4689c0bc6d19a0cf1794b765d175b08deff299a87af4294c0a1b76", func := "loop.example/g00878/laws.FnHomomorphism", spec := "fnHomomorphism", unfollowed := true, recurses := true, apart := false, narrowed := true }
def FnHomomorphismUptoSaid : Prop := fnHomomorphismUptoRow.holds Try.pinned (OpenSpec.upto fnHomomorphismSpec)

/-- 'laws.FnCommitments', WHERE WHAT IT READS IS OF BULK AT MOST 1048576: true; the input reads as it did. -/
def fnCommitmentsUptoRow : OpenClaim := { program := "ytboahnklilmdpaa", sum := "1bd21067ab4689c0bc6d19a0cf1794b765d175b08deff299a87af4294c0a1b76", func := "loop.example/g00878/laws.FnCommitments", spec := "fnCommitments", unfollowed := true, recurses := true, apart := false, narrowed := true }
def FnCommitmentsUptoSaid : Prop := fnCommitmentsUptoRow.holds Try.pinned (OpenSpec.upto fnCommitmentsSpec)

/-- 'laws.FnRolls', WHERE WHAT IT READS IS OF BULK AT MOST 1048576: true; the input reads as it did. -/
def fnRollsUptoRow : OpenClaim := { program := "ytboahnklilmdpaa", sum := "1bd21067ab4689c0bc6d19a0cf1794b765d175b08deff299a87af4294c0a1b76", func := "loop.example/g00878/laws.FnRolls", spec := "fnRolls", unfollowed := true, recurses := true, apart := false, narrowed := true }
def FnRollsUptoSaid : Prop := fnRollsUptoRow.holds Try.pinned (OpenSpec.upto fnRollsSpec)

/-- 'laws.FnBallots', WHERE WHAT IT READS IS OF BULK AT MOST 1048576: true; the input reads as it did. -/
def fnBallotsUptoRow : OpenClaim := { program := "ytboahnklilmdpaa", sum := "1bd21067ab4689c0bc6d19a0cf1794b765d175b08deff299a87af4294c0a1b76", func := "loop.example/g00878/laws.FnBallots", spec := "fnBallots", unfollowed := true, recurses := true, apart := false, narrowed := true }
def FnBallotsUptoSaid : Prop := fnBallotsUptoRow.holds Try.pinned (OpenSpec.upto fnBallotsSpec)

/-- 'laws.FnOpenings', WHERE WHAT IT READS IS OF BULK AT MOST 1048576: true; the input reads as it did. -/
def fnOpeningsUptoRow : OpenClaim := { program := "ytboahnklilmdpaa", sum := "1bd21067ab4689c0bc6d19a0cf1794b765d175b08deff299a87af4294c0a1b76", func := "loop.example/g00878/laws.FnOpenings", spec := "fnOpenings", unfollowed := true, recurses := true, apart := false, narrowed := true }
def FnOpeningsUptoSaid : Prop := fnOpeningsUptoRow.holds Try.pinned (OpenSpec.upto fnOpeningsSpec)

/-- 'laws.FnSums', WHERE WHAT IT READS IS OF BULK AT MOST 1048576: true; the input reads as it did. -/
def fnSumsUptoRow : OpenClaim := { program := "ytboahnklilmdpaa", sum := "1bd21067ab4689c0bc6d19a0cf1794b765d175b08deff299a87af4294c0a1b76", func := "loop.example/g00878/laws.FnSums", spec := "fnSums", unfollowed := true, recurses := true, apart := false, narrowed := true }
def FnSumsUptoSaid : Prop := fnSumsUptoRow.holds Try.pinned (OpenSpec.upto fnSumsSpec)

/-- 'laws.FnBits', WHERE WHAT IT READS IS OF BULK AT MOST 1048576: true; the input reads as it did. -/
def fnBitsUptoRow : OpenClaim := { program := "ytboahnklilmdpaa", sum := "1bd21067ab4689c0bc6d19a0cf1794b765d175b08deff299a87af4294c0a1b76", func := "loop.example/g00878/laws.FnBits", spec := "fnBits", unfollowed := true, recurses := true, apart := false, narrowed := true }
def FnBitsUptoSaid : Prop := fnBitsUptoRow.holds Try.pinned (OpenSpec.upto fnBitsSpec)

/-- 'laws.FnRanges', WHERE WHAT IT READS IS OF BULK AT MOST 1048576: true; the input reads as it did. -/
def fnRangesUptoRow : OpenClaim := { program := "ytboahnklilmdpaa", sum := "1bd21067ab4689c0bc6d19a0cf1794b765d175b08deff299a87af4294c0a1b76", func := "loop.example/g00878/laws.FnRanges", spec := "fnRanges", unfollowed := true, recurses := true, apart := false, narrowed := true }
def FnRangesUptoSaid : Prop := fnRangesUptoRow.holds Try.pinned (OpenSpec.upto fnRangesSpec)

/-- 'laws.FnExactSealedOfRecord', WHERE WHAT IT READS IS OF BULK AT MOST 1048576: true; the input reads as it did. -/
def fnExactSealedOfRecordUptoRow : OpenClaim := { program := "ytboahnklilmdpaa", sum := "1bd21067ab4689c0bc6d19a0cf1794b765d175b08deff299a87af4294c0a1b76", func := "loop.example/g00878/laws.FnExactSealedOfRecord", spec := "fnExactSealedOfRecord", unfollowed := true, recurses := true, apart := false, narrowed := true }
def FnExactSealedOfRecordUptoSaid : Prop := fnExactSealedOfRecordUptoRow.holds Try.pinned (OpenSpec.upto fnExactSealedOfRecordSpec)

/-- 'laws.FnExactStageOfRecord', WHERE WHAT IT READS IS OF BULK AT MOST 1048576: true; the input reads as it did. -/
def fnExactStageOfRecordUptoRow : OpenClaim := { program := "ytboahnklilmdpaa", sum := "1bd21067ab4689c0bc6d19a0cf1794b765d175b08deff299a87af4294c0a1b76", func := "loop.example/g00878/laws.FnExactStageOfRecord", spec := "fnExactStageOfRecord", unfollowed := true, recurses := true, apart := false, narrowed := true }
def FnExactStageOfRecordUptoSaid : Prop := fnExactStageOfRecordUptoRow.holds Try.pinned (OpenSpec.upto fnExactStageOfRecordSpec)

end Rows
end Go.Proofs.Ytboahnklilmdpaa

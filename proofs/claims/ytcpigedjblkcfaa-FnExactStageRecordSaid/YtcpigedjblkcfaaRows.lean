/-
  No cell of these rows narrows 'for every input' (looked for: loops, veiled, ifaces, maps, wideKeys, modest, calm, conditions, laid).
  DERIVED. THE GIVEN ROWS OF THIS SEAT. 10 by the template 'for every input the law returns true; each argument reads behind the call as it read before'; 0 by the template 'total and deterministic' (their statements: YtcpigedjblkcfaaTotals.lean).
  GIVEN WITH THE SEED: the statements are not yours to turn. If you find one false, say at which input.
  Laid BY PROGRAM, IN A SANDBOX (cutbox-rows.mjs): the forced cells as the released guide's own fill.sh prints them over the translation fde47443b1c4b457… (all of the seat's roots in one cut). By AI agents, Wed Nov 11 2026. No macro, syntax, notation, axiom, sorry.
-/
import Derived.Test.YtcpigedjblkcfaaChecked
import GoSem.Claim
import GoSem.ClaimJoined
import GoSem.ClaimMapViews
import Derived.JoinedTies
import Derived.KernelRfl
namespace Go.Proofs.Ytcpigedjblkcfaa
/- THE CELL 'sum', in the pinned program and in every row, IS THE sha256 OF THE DUMP (.gsa) THAT YtcpigedjblkcfaaProg.lean LOADS. Nothing in Lean hashes anything: it is a label: what it is worth is what the hold of that sum in a sandbox is worth. -/
noncomputable def Try.pinned : Pinned := { name := "ytcpigedjblkcfaa", sum := "fde47443b1c4b457cb18b4047a663d49869ca4174a98ecc560b7ce806b24fe75", checked := Try.checked }
namespace Rows
def none {H : Type} : Left H := { results := [], args := [] }

/-- 'laws.FnExactAuthorsOf': WHATEVER THE INPUT: true; the input reads as it did. -/
def fnExactAuthorsOfSpec : ChangeSpec := { name := "fnExactAuthorsOf", fn := fun _ => fun
  | [d] => { results := [.lit (.bool true)], args := [d] }
  | _ => none }
def fnExactAuthorsOfRow : OpenClaim := { program := "ytcpigedjblkcfaa", sum := "fde47443b1c4b457cb18b4047a663d49869ca4174a98ecc560b7ce806b24fe75", func := "loop.example/g00878/laws.FnExactAuthorsOf", spec := "fnExactAuthorsOf", unfollowed := true, recurses := true, apart := false }
def FnExactAuthorsOfSaid : Prop := fnExactAuthorsOfRow.holds Try.pinned (OpenSpec.ofChange fnExactAuthorsOfSpec)

/-- ITS FALSE NEIGHBOUR: 'it returns false'. Refute it at one input. -/
def fnExactAuthorsOfWrong : ChangeSpec := { name := "fnExactAuthorsOf", fn := fun _ => fun
  | [d] => { results := [.lit (.bool false)], args := [d] }
  | _ => none }
def FnExactAuthorsOfWrongFalsely : Prop := fnExactAuthorsOfRow.holds Try.pinned (OpenSpec.ofChange fnExactAuthorsOfWrong)

/-- 'laws.FnExactAuthorSecret': WHATEVER THE INPUT: true; the input reads as it did. -/
def fnExactAuthorSecretSpec : ChangeSpec := { name := "fnExactAuthorSecret", fn := fun _ => fun
  | [d1, d2] => { results := [.lit (.bool true)], args := [d1, d2] }
  | _ => none }
def fnExactAuthorSecretRow : OpenClaim := { program := "ytcpigedjblkcfaa", sum := "fde47443b1c4b457cb18b4047a663d49869ca4174a98ecc560b7ce806b24fe75", func := "loop.example/g00878/laws.FnExactAuthorSecret", spec := "fnExactAuthorSecret", unfollowed := true, recurses := true, apart := false }
def FnExactAuthorSecretSaid : Prop := fnExactAuthorSecretRow.holds Try.pinned (OpenSpec.ofChange fnExactAuthorSecretSpec)

/-- ITS FALSE NEIGHBOUR: 'it returns false'. Refute it at one input. -/
def fnExactAuthorSecretWrong : ChangeSpec := { name := "fnExactAuthorSecret", fn := fun _ => fun
  | [d1, d2] => { results := [.lit (.bool false)], args := [d1, d2] }
  | _ => none }
def FnExactAuthorSecretWrongFalsely : Prop := fnExactAuthorSecretRow.holds Try.pinned (OpenSpec.ofChange fnExactAuthorSecretWrong)

/-- 'laws.FnExactCoinsFor': WHATEVER THE INPUT: true; the input reads as it did. -/
def fnExactCoinsForSpec : ChangeSpec := { name := "fnExactCoinsFor", fn := fun _ => fun
  | [d1, d2, d3, d4] => { results := [.lit (.bool true)], args := [d1, d2, d3, d4] }
  | _ => none }
def fnExactCoinsForRow : OpenClaim := { program := "ytcpigedjblkcfaa", sum := "fde47443b1c4b457cb18b4047a663d49869ca4174a98ecc560b7ce806b24fe75", func := "loop.example/g00878/laws.FnExactCoinsFor", spec := "fnExactCoinsFor", unfollowed := true, recurses := true, apart := false }
def FnExactCoinsForSaid : Prop := fnExactCoinsForRow.holds Try.pinned (OpenSpec.ofChange fnExactCoinsForSpec)

/-- ITS FALSE NEIGHBOUR: 'it returns false'. Refute it at one input. -/
def fnExactCoinsForWrong : ChangeSpec := { name := "fnExactCoinsFor", fn := fun _ => fun
  | [d1, d2, d3, d4] => { results := [.lit (.bool false)], args := [d1, d2, d3, d4] }
  | _ => none }
def FnExactCoinsForWrongFalsely : Prop := fnExactCoinsForRow.holds Try.pinned (OpenSpec.ofChange fnExactCoinsForWrong)

/-- 'laws.FnExactTrusteeShare': WHATEVER THE INPUT: true; the input reads as it did. -/
def fnExactTrusteeShareSpec : ChangeSpec := { name := "fnExactTrusteeShare", fn := fun _ => fun
  | [d1, d2] => { results := [.lit (.bool true)], args := [d1, d2] }
  | _ => none }
def fnExactTrusteeShareRow : OpenClaim := { program := "ytcpigedjblkcfaa", sum := "fde47443b1c4b457cb18b4047a663d49869ca4174a98ecc560b7ce806b24fe75", func := "loop.example/g00878/laws.FnExactTrusteeShare", spec := "fnExactTrusteeShare", unfollowed := true, recurses := true, apart := false }
def FnExactTrusteeShareSaid : Prop := fnExactTrusteeShareRow.holds Try.pinned (OpenSpec.ofChange fnExactTrusteeShareSpec)

/-- ITS FALSE NEIGHBOUR: 'it returns false'. Refute it at one input. -/
def fnExactTrusteeShareWrong : ChangeSpec := { name := "fnExactTrusteeShare", fn := fun _ => fun
  | [d1, d2] => { results := [.lit (.bool false)], args := [d1, d2] }
  | _ => none }
def FnExactTrusteeShareWrongFalsely : Prop := fnExactTrusteeShareRow.holds Try.pinned (OpenSpec.ofChange fnExactTrusteeShareWrong)

/-- 'laws.FnExactJointCommits': WHATEVER THE INPUT: true; the input reads as it did. -/
def fnExactJointCommitsSpec : ChangeSpec := { name := "fnExactJointCommits", fn := fun _ => fun
  | [d] => { results := [.lit (.bool true)], args := [d] }
  | _ => none }
def fnExactJointCommitsRow : OpenClaim := { program := "ytcpigedjblkcfaa", sum := "fde47443b1c4b457cb18b4047a663d49869ca4174a98ecc560b7ce806b24fe75", func := "loop.example/g00878/laws.FnExactJointCommits", spec := "fnExactJointCommits", unfollowed := true, recurses := true, apart := false }
def FnExactJointCommitsSaid : Prop := fnExactJointCommitsRow.holds Try.pinned (OpenSpec.ofChange fnExactJointCommitsSpec)

/-- ITS FALSE NEIGHBOUR: 'it returns false'. Refute it at one input. -/
def fnExactJointCommitsWrong : ChangeSpec := { name := "fnExactJointCommits", fn := fun _ => fun
  | [d] => { results := [.lit (.bool false)], args := [d] }
  | _ => none }
def FnExactJointCommitsWrongFalsely : Prop := fnExactJointCommitsRow.holds Try.pinned (OpenSpec.ofChange fnExactJointCommitsWrong)

/-- 'laws.FnExactStageRecord': WHATEVER THE INPUT: true; the input reads as it did. -/
def fnExactStageRecordSpec : ChangeSpec := { name := "fnExactStageRecord", fn := fun _ => fun
  | [d] => { results := [.lit (.bool true)], args := [d] }
  | _ => none }
def fnExactStageRecordRow : OpenClaim := { program := "ytcpigedjblkcfaa", sum := "fde47443b1c4b457cb18b4047a663d49869ca4174a98ecc560b7ce806b24fe75", func := "loop.example/g00878/laws.FnExactStageRecord", spec := "fnExactStageRecord", unfollowed := true, recurses := true, apart := false }
def FnExactStageRecordSaid : Prop := fnExactStageRecordRow.holds Try.pinned (OpenSpec.ofChange fnExactStageRecordSpec)

/-- ITS FALSE NEIGHBOUR: 'it returns false'. Refute it at one input. -/
def fnExactStageRecordWrong : ChangeSpec := { name := "fnExactStageRecord", fn := fun _ => fun
  | [d] => { results := [.lit (.bool false)], args := [d] }
  | _ => none }
def FnExactStageRecordWrongFalsely : Prop := fnExactStageRecordRow.holds Try.pinned (OpenSpec.ofChange fnExactStageRecordWrong)

/-- 'laws.FnExactAppendEntry': WHATEVER THE INPUT: true; the input reads as it did. -/
def fnExactAppendEntrySpec : ChangeSpec := { name := "fnExactAppendEntry", fn := fun _ => fun
  | [d1, d2, d3] => { results := [.lit (.bool true)], args := [d1, d2, d3] }
  | _ => none }
def fnExactAppendEntryRow : OpenClaim := { program := "ytcpigedjblkcfaa", sum := "fde47443b1c4b457cb18b4047a663d49869ca4174a98ecc560b7ce806b24fe75", func := "loop.example/g00878/laws.FnExactAppendEntry", spec := "fnExactAppendEntry", unfollowed := true, recurses := true, apart := false }
def FnExactAppendEntrySaid : Prop := fnExactAppendEntryRow.holds Try.pinned (OpenSpec.ofChange fnExactAppendEntrySpec)

/-- ITS FALSE NEIGHBOUR: 'it returns false'. Refute it at one input. -/
def fnExactAppendEntryWrong : ChangeSpec := { name := "fnExactAppendEntry", fn := fun _ => fun
  | [d1, d2, d3] => { results := [.lit (.bool false)], args := [d1, d2, d3] }
  | _ => none }
def FnExactAppendEntryWrongFalsely : Prop := fnExactAppendEntryRow.holds Try.pinned (OpenSpec.ofChange fnExactAppendEntryWrong)

/-- 'laws.FnPowers': WHATEVER THE INPUT: true; the input reads as it did. -/
def fnPowersSpec : ChangeSpec := { name := "fnPowers", fn := fun _ => fun
  | [d1, d2] => { results := [.lit (.bool true)], args := [d1, d2] }
  | _ => none }
def fnPowersRow : OpenClaim := { program := "ytcpigedjblkcfaa", sum := "fde47443b1c4b457cb18b4047a663d49869ca4174a98ecc560b7ce806b24fe75", func := "loop.example/g00878/laws.FnPowers", spec := "fnPowers", unfollowed := true, recurses := true, apart := false }
def FnPowersSaid : Prop := fnPowersRow.holds Try.pinned (OpenSpec.ofChange fnPowersSpec)

/-- ITS FALSE NEIGHBOUR: 'it returns false'. Refute it at one input. -/
def fnPowersWrong : ChangeSpec := { name := "fnPowers", fn := fun _ => fun
  | [d1, d2] => { results := [.lit (.bool false)], args := [d1, d2] }
  | _ => none }
def FnPowersWrongFalsely : Prop := fnPowersRow.holds Try.pinned (OpenSpec.ofChange fnPowersWrong)

/-- 'laws.FnReencryption': WHATEVER THE INPUT: true; the input reads as it did. -/
def fnReencryptionSpec : ChangeSpec := { name := "fnReencryption", fn := fun _ => fun
  | [d1, d2] => { results := [.lit (.bool true)], args := [d1, d2] }
  | _ => none }
def fnReencryptionRow : OpenClaim := { program := "ytcpigedjblkcfaa", sum := "fde47443b1c4b457cb18b4047a663d49869ca4174a98ecc560b7ce806b24fe75", func := "loop.example/g00878/laws.FnReencryption", spec := "fnReencryption", unfollowed := true, recurses := true, apart := false }
def FnReencryptionSaid : Prop := fnReencryptionRow.holds Try.pinned (OpenSpec.ofChange fnReencryptionSpec)

/-- ITS FALSE NEIGHBOUR: 'it returns false'. Refute it at one input. -/
def fnReencryptionWrong : ChangeSpec := { name := "fnReencryption", fn := fun _ => fun
  | [d1, d2] => { results := [.lit (.bool false)], args := [d1, d2] }
  | _ => none }
def FnReencryptionWrongFalsely : Prop := fnReencryptionRow.holds Try.pinned (OpenSpec.ofChange fnReencryptionWrong)

/-- 'laws.FnHomomorphism': WHATEVER THE INPUT: true; the input reads as it did. -/
def fnHomomorphismSpec : ChangeSpec := { name := "fnHomomorphism", fn := fun _ => fun
  | [d1, d2] => { results := [.lit (.bool true)], args := [d1, d2] }
  | _ => none }
def fnHomomorphismRow : OpenClaim := { program := "ytcpigedjblkcfaa", sum := "fde47443b1c4b457cb18b4047a663d49869ca4174a98ecc560b7ce806b24fe75", func := "loop.example/g00878/laws.FnHomomorphism", spec := "fnHomomorphism", unfollowed := true, recurses := true, apart := false }
def FnHomomorphismSaid : Prop := fnHomomorphismRow.holds Try.pinned (OpenSpec.ofChange fnHomomorphismSpec)

/-- ITS FALSE NEIGHBOUR: 'it returns false'. Refute it at one input. -/
def fnHomomorphismWrong : ChangeSpec := { name := "fnHomomorphism", fn := fun _ => fun
  | [d1, d2] => { results := [.lit (.bool false)], args := [d1, d2] }
  | _ => none }
def FnHomomorphismWrongFalsely : Prop := fnHomomorphismRow.holds Try.pinned (OpenSpec.ofChange fnHomomorphismWrong)

/- THE SECOND FORM. 'bulk': how many values and letters a reading holds, each counted each time it is reached (what is shared counts as often as it is met; a slice's spare places count too). A statement '..UptoSaid' is the law's where the arguments, and the package variables that the reading takes, are together of bulk at most 1048576: NARROWER than '..Said'. Prove '..Said' where nothing that the law and all that it calls make is longer than what came in: it says more and counts as full. Else prove '..UptoSaid'. A law counts once. -/
mutual
def uptoBulk {H : Type} : DataW H → Nat
  | .lit (.string bytes) => bytes.length + 1
  | .lit _ => 1
  | .nil => 1
  | .ptr d => uptoBulk d + 1
  | .slice elems spare => uptoBulkAll elems + uptoBulkAll spare + 1
  | .agg parts => uptoBulkAll parts + 1
  | .iface _ d => uptoBulk d + 1
  | .map entries => uptoBulkEntries entries + 1
  | .held _ => 1
def uptoBulkAll {H : Type} : List (DataW H) → Nat
  | [] => 0
  | d :: r => uptoBulk d + uptoBulkAll r
def uptoBulkEntries {H : Type} : List (Lit × DataW H) → Nat
  | [] => 0
  | x :: r => uptoBulkEntry x + uptoBulkEntries r
def uptoBulkEntry {H : Type} : Lit × DataW H → Nat
  | (.string bytes, d) => bytes.length + uptoBulk d + 1
  | (_, d) => uptoBulk d + 1
 end
def uptoSmall : (H : Type) → List (DataW H) → Bool := fun _ ds => decide (uptoBulkAll ds ≤ 1048576)
def OpenSpec.upto (s : _root_.Go.ChangeSpec) : _root_.Go.OpenSpec := { _root_.Go.OpenSpec.ofChange s with cond := some uptoSmall }

/-- 'laws.FnExactAuthorsOf', WHERE WHAT IT READS IS OF BULK AT MOST 1048576: true; the input reads as it did. -/
def fnExactAuthorsOfUptoRow : OpenClaim := { program := "ytcpigedjblkcfaa", sum := "fde47443b1c4b457cb18b4047a663d49869ca4174a98ecc560b7ce806b24fe75", func := "loop.example/g00878/laws.FnExactAuthorsOf", spec := "fnExactAuthorsOf", unfollowed := true, recurses := true, apart := false, narrowed := true }
def FnExactAuthorsOfUptoSaid : Prop := fnExactAuthorsOfUptoRow.holds Try.pinned (OpenSpec.upto fnExactAuthorsOfSpec)

/-- 'laws.FnExactAuthorSecret', WHERE WHAT IT READS IS OF BULK AT MOST 1048576: true; the input reads as it did. -/
def fnExactAuthorSecretUptoRow : OpenClaim := { program := "ytcpigedjblkcfaa", sum := "fde47443b1c4b457cb18b4047a663d49869ca4174a98ecc560b7ce806b24fe75", func := "loop.example/g00878/laws.FnExactAuthorSecret", spec := "fnExactAuthorSecret", unfollowed := true, recurses := true, apart := false, narrowed := true }
def FnExactAuthorSecretUptoSaid : Prop := fnExactAuthorSecretUptoRow.holds Try.pinned (OpenSpec.upto fnExactAuthorSecretSpec)

/-- 'laws.FnExactCoinsFor', WHERE WHAT IT READS IS OF BULK AT MOST 1048576: true; the input reads as it did. -/
def fnExactCoinsForUptoRow : OpenClaim := { program := "ytcpigedjblkcfaa", sum := "fde47443b1c4b457cb18b4047a663d49869ca4174a98ecc560b7ce806b24fe75", func := "loop.example/g00878/laws.FnExactCoinsFor", spec := "fnExactCoinsFor", unfollowed := true, recurses := true, apart := false, narrowed := true }
def FnExactCoinsForUptoSaid : Prop := fnExactCoinsForUptoRow.holds Try.pinned (OpenSpec.upto fnExactCoinsForSpec)

/-- 'laws.FnExactTrusteeShare', WHERE WHAT IT READS IS OF BULK AT MOST 1048576: true; the input reads as it did. -/
def fnExactTrusteeShareUptoRow : OpenClaim := { program := "ytcpigedjblkcfaa", sum := "fde47443b1c4b457cb18b4047a663d49869ca4174a98ecc560b7ce806b24fe75", func := "loop.example/g00878/laws.FnExactTrusteeShare", spec := "fnExactTrusteeShare", unfollowed := true, recurses := true, apart := false, narrowed := true }
def FnExactTrusteeShareUptoSaid : Prop := fnExactTrusteeShareUptoRow.holds Try.pinned (OpenSpec.upto fnExactTrusteeShareSpec)

/-- 'laws.FnExactJointCommits', WHERE WHAT IT READS IS OF BULK AT MOST 1048576: true; the input reads as it did. -/
def fnExactJointCommitsUptoRow : OpenClaim := { program := "ytcpigedjblkcfaa", sum := "fde47443b1c4b457cb18b4047a663d49869ca4174a98ecc560b7ce806b24fe75", func := "loop.example/g00878/laws.FnExactJointCommits", spec := "fnExactJointCommits", unfollowed := true, recurses := true, apart := false, narrowed := true }
def FnExactJointCommitsUptoSaid : Prop := fnExactJointCommitsUptoRow.holds Try.pinned (OpenSpec.upto fnExactJointCommitsSpec)

/-- 'laws.FnExactStageRecord', WHERE WHAT IT READS IS OF BULK AT MOST 1048576: true; the input reads as it did. -/
def fnExactStageRecordUptoRow : OpenClaim := { program := "ytcpigedjblkcfaa", sum := "fde47443b1c4b457cb18b4047a663d49869ca4174a98ecc560b7ce806b24fe75", func := "loop.example/g00878/laws.FnExactStageRecord", spec := "fnExactStageRecord", unfollowed := true, recurses := true, apart := false, narrowed := true }
def FnExactStageRecordUptoSaid : Prop := fnExactStageRecordUptoRow.holds Try.pinned (OpenSpec.upto fnExactStageRecordSpec)

/-- 'laws.FnExactAppendEntry', WHERE WHAT IT READS IS OF BULK AT MOST 1048576: true; the input reads as it did. -/
def fnExactAppendEntryUptoRow : OpenClaim := { program := "ytcpigedjblkcfaa", sum := "fde47443b1c4b457cb18b4047a663d49869ca4174a98ecc560b7ce806b24fe75", func := "loop.example/g00878/laws.FnExactAppendEntry", spec := "fnExactAppendEntry", unfollowed := true, recurses := true, apart := false, narrowed := true }
def FnExactAppendEntryUptoSaid : Prop := fnExactAppendEntryUptoRow.holds Try.pinned (OpenSpec.upto fnExactAppendEntrySpec)

/-- 'laws.FnPowers', WHERE WHAT IT READS IS OF BULK AT MOST 1048576: true; the input reads as it did. -/
def fnPowersUptoRow : OpenClaim := { program := "ytcpigedjblkcfaa", sum := "fde47443b1c4b457cb18b4047a663d49869ca4174a98ecc560b7ce806b24fe75", func := "loop.example/g00878/laws.FnPowers", spec := "fnPowers", unfollowed := true, recurses := true, apart := false, narrowed := true }
def FnPowersUptoSaid : Prop := fnPowersUptoRow.holds Try.pinned (OpenSpec.upto fnPowersSpec)

/-- 'laws.FnReencryption', WHERE WHAT IT READS IS OF BULK AT MOST 1048576: true; the input reads as it did. -/
def fnReencryptionUptoRow : OpenClaim := { program := "ytcpigedjblkcfaa", sum := "fde47443b1c4b457cb18b4047a663d49869ca4174a98ecc560b7ce806b24fe75", func := "loop.example/g00878/laws.FnReencryption", spec := "fnReencryption", unfollowed := true, recurses := true, apart := false, narrowed := true }
def FnReencryptionUptoSaid : Prop := fnReencryptionUptoRow.holds Try.pinned (OpenSpec.upto fnReencryptionSpec)

/-- 'laws.FnHomomorphism', WHERE WHAT IT READS IS OF BULK AT MOST 1048576: true; the input reads as it did. -/
def fnHomomorphismUptoRow : OpenClaim := { program := "ytcpigedjblkcfaa", sum := "fde47443b1c4b457cb18b4047a663d49869ca4174a98ecc560b7ce806b24fe75", func := "loop.example/g00878/laws.FnHomomorphism", spec := "fnHomomorphism", unfollowed := true, recurses := true, apart := false, narrowed := true }
def FnHomomorphismUptoSaid : Prop := fnHomomorphismUptoRow.holds Try.pinned (OpenSpec.upto fnHomomorphismSpec)

end Rows
end Go.Proofs.Ytcpigedjblkcfaa

/-
  No cell of these rows narrows 'for every input' (looked for: loops, veiled, ifaces, maps, wideKeys, modest, calm, conditions, laid).
  DERIVED. THE GIVEN ROWS OF THIS SEAT. 6 by the template 'for every input the law returns true; each argument reads behind the call as it read before'; 0 by the template 'total and deterministic' (their statements: YtlkhkoemfmjloaaTotals.lean).
  GIVEN WITH THE SEED: the statements are not yours to turn. If you find one false, say at which input.
  Laid BY PROGRAM, IN A SANDBOX (cutbox-rows.mjs): the forced cells as the released guide's own fill.sh prints them over the translation 43e3dbd3154f1ae3… (all of the seat's roots in one cut). By AI agents, Wed Nov 11 2026. No macro, syntax, notation, axiom, sorry.
-/
import Derived.Test.YtlkhkoemfmjloaaChecked
import GoSem.Claim
import GoSem.ClaimJoined
import GoSem.ClaimMapViews
import Derived.JoinedTies
import Derived.KernelRfl
namespace Go.Proofs.Ytlkhkoemfmjloaa
/- THE CELL 'sum', in the pinned program and in every row, IS THE sha256 OF THE DUMP (.gsa) THAT YtlkhkoemfmjloaaProg.lean LOADS. Nothing in Lean hashes anything: it is a label: what it is worth is what the hold of that sum in a sandbox is worth. -/
noncomputable def Try.pinned : Pinned := { name := "ytlkhkoemfmjloaa", sum := "43e3dbd3154f1ae3a8b20a3cc7930091f60b7334f977e27a906a333af0c22053", checked := Try.checked }
namespace Rows
def none {H : Type} : Left H := { results := [], args := [] }

/-- 'laws.FnExactCoinsForSeal': WHATEVER THE INPUT: true; the input reads as it did. -/
def fnExactCoinsForSealSpec : ChangeSpec := { name := "fnExactCoinsForSeal", fn := fun _ => fun
  | [d] => { results := [.lit (.bool true)], args := [d] }
  | _ => none }
def fnExactCoinsForSealRow : OpenClaim := { program := "ytlkhkoemfmjloaa", sum := "43e3dbd3154f1ae3a8b20a3cc7930091f60b7334f977e27a906a333af0c22053", func := "loop.example/g00878/laws.FnExactCoinsForSeal", spec := "fnExactCoinsForSeal", apart := false }
def FnExactCoinsForSealSaid : Prop := fnExactCoinsForSealRow.holds Try.pinned (OpenSpec.ofChange fnExactCoinsForSealSpec)

/-- ITS FALSE NEIGHBOUR: 'it returns false'. Refute it at one input. -/
def fnExactCoinsForSealWrong : ChangeSpec := { name := "fnExactCoinsForSeal", fn := fun _ => fun
  | [d] => { results := [.lit (.bool false)], args := [d] }
  | _ => none }
def FnExactCoinsForSealWrongFalsely : Prop := fnExactCoinsForSealRow.holds Try.pinned (OpenSpec.ofChange fnExactCoinsForSealWrong)

/-- 'laws.FnExactEntryDigest': WHATEVER THE INPUT: true; the input reads as it did. -/
def fnExactEntryDigestSpec : ChangeSpec := { name := "fnExactEntryDigest", fn := fun _ => fun
  | [d1, d2, d3, d4] => { results := [.lit (.bool true)], args := [d1, d2, d3, d4] }
  | _ => none }
def fnExactEntryDigestRow : OpenClaim := { program := "ytlkhkoemfmjloaa", sum := "43e3dbd3154f1ae3a8b20a3cc7930091f60b7334f977e27a906a333af0c22053", func := "loop.example/g00878/laws.FnExactEntryDigest", spec := "fnExactEntryDigest", unfollowed := true, recurses := true, apart := false }
def FnExactEntryDigestSaid : Prop := fnExactEntryDigestRow.holds Try.pinned (OpenSpec.ofChange fnExactEntryDigestSpec)

/-- ITS FALSE NEIGHBOUR: 'it returns false'. Refute it at one input. -/
def fnExactEntryDigestWrong : ChangeSpec := { name := "fnExactEntryDigest", fn := fun _ => fun
  | [d1, d2, d3, d4] => { results := [.lit (.bool false)], args := [d1, d2, d3, d4] }
  | _ => none }
def FnExactEntryDigestWrongFalsely : Prop := fnExactEntryDigestRow.holds Try.pinned (OpenSpec.ofChange fnExactEntryDigestWrong)

/-- 'laws.FnExactJoinRecords': WHATEVER THE INPUT: true; the input reads as it did. -/
def fnExactJoinRecordsSpec : ChangeSpec := { name := "fnExactJoinRecords", fn := fun _ => fun
  | [d] => { results := [.lit (.bool true)], args := [d] }
  | _ => none }
def fnExactJoinRecordsRow : OpenClaim := { program := "ytlkhkoemfmjloaa", sum := "43e3dbd3154f1ae3a8b20a3cc7930091f60b7334f977e27a906a333af0c22053", func := "loop.example/g00878/laws.FnExactJoinRecords", spec := "fnExactJoinRecords", unfollowed := true, recurses := true, apart := false }
def FnExactJoinRecordsSaid : Prop := fnExactJoinRecordsRow.holds Try.pinned (OpenSpec.ofChange fnExactJoinRecordsSpec)

/-- ITS FALSE NEIGHBOUR: 'it returns false'. Refute it at one input. -/
def fnExactJoinRecordsWrong : ChangeSpec := { name := "fnExactJoinRecords", fn := fun _ => fun
  | [d] => { results := [.lit (.bool false)], args := [d] }
  | _ => none }
def FnExactJoinRecordsWrongFalsely : Prop := fnExactJoinRecordsRow.holds Try.pinned (OpenSpec.ofChange fnExactJoinRecordsWrong)

/-- 'laws.FnExactEncodeProof': WHATEVER THE INPUT: true; the input reads as it did. -/
def fnExactEncodeProofSpec : ChangeSpec := { name := "fnExactEncodeProof", fn := fun _ => fun
  | [d] => { results := [.lit (.bool true)], args := [d] }
  | _ => none }
def fnExactEncodeProofRow : OpenClaim := { program := "ytlkhkoemfmjloaa", sum := "43e3dbd3154f1ae3a8b20a3cc7930091f60b7334f977e27a906a333af0c22053", func := "loop.example/g00878/laws.FnExactEncodeProof", spec := "fnExactEncodeProof", unfollowed := true, recurses := true, apart := false }
def FnExactEncodeProofSaid : Prop := fnExactEncodeProofRow.holds Try.pinned (OpenSpec.ofChange fnExactEncodeProofSpec)

/-- ITS FALSE NEIGHBOUR: 'it returns false'. Refute it at one input. -/
def fnExactEncodeProofWrong : ChangeSpec := { name := "fnExactEncodeProof", fn := fun _ => fun
  | [d] => { results := [.lit (.bool false)], args := [d] }
  | _ => none }
def FnExactEncodeProofWrongFalsely : Prop := fnExactEncodeProofRow.holds Try.pinned (OpenSpec.ofChange fnExactEncodeProofWrong)

/-- 'laws.FnExactReachOf': WHATEVER THE INPUT: true; the input reads as it did. -/
def fnExactReachOfSpec : ChangeSpec := { name := "fnExactReachOf", fn := fun _ => fun
  | [d1, d2, d3] => { results := [.lit (.bool true)], args := [d1, d2, d3] }
  | _ => none }
def fnExactReachOfRow : OpenClaim := { program := "ytlkhkoemfmjloaa", sum := "43e3dbd3154f1ae3a8b20a3cc7930091f60b7334f977e27a906a333af0c22053", func := "loop.example/g00878/laws.FnExactReachOf", spec := "fnExactReachOf", unfollowed := true, recurses := true, apart := false }
def FnExactReachOfSaid : Prop := fnExactReachOfRow.holds Try.pinned (OpenSpec.ofChange fnExactReachOfSpec)

/-- ITS FALSE NEIGHBOUR: 'it returns false'. Refute it at one input. -/
def fnExactReachOfWrong : ChangeSpec := { name := "fnExactReachOf", fn := fun _ => fun
  | [d1, d2, d3] => { results := [.lit (.bool false)], args := [d1, d2, d3] }
  | _ => none }
def FnExactReachOfWrongFalsely : Prop := fnExactReachOfRow.holds Try.pinned (OpenSpec.ofChange fnExactReachOfWrong)

/-- 'laws.FnExactSplitRecords': WHATEVER THE INPUT: true; the input reads as it did. -/
def fnExactSplitRecordsSpec : ChangeSpec := { name := "fnExactSplitRecords", fn := fun _ => fun
  | [d] => { results := [.lit (.bool true)], args := [d] }
  | _ => none }
def fnExactSplitRecordsRow : OpenClaim := { program := "ytlkhkoemfmjloaa", sum := "43e3dbd3154f1ae3a8b20a3cc7930091f60b7334f977e27a906a333af0c22053", func := "loop.example/g00878/laws.FnExactSplitRecords", spec := "fnExactSplitRecords", unfollowed := true, recurses := true, apart := false }
def FnExactSplitRecordsSaid : Prop := fnExactSplitRecordsRow.holds Try.pinned (OpenSpec.ofChange fnExactSplitRecordsSpec)

/-- ITS FALSE NEIGHBOUR: 'it returns false'. Refute it at one input. -/
def fnExactSplitRecordsWrong : ChangeSpec := { name := "fnExactSplitRecords", fn := fun _ => fun
  | [d] => { results := [.lit (.bool false)], args := [d] }
  | _ => none }
def FnExactSplitRecordsWrongFalsely : Prop := fnExactSplitRecordsRow.holds Try.pinned (OpenSpec.ofChange fnExactSplitRecordsWrong)

/- THE SECOND FORM. 'bulk': how many values and letters a reading holds, each counted each time it is reached (what is shared counts as often as it is met; a slice's spare places count too). A statement '..UptoSaid' is the law's where the arguments, and the package variables that the reading takes, are together of bulk at most 1048576: NARROWER than '..Said'. Prove '..Said' where nothing that the law and all that it calls make is longer than what came in: it says more and counts as full. Else prove '..UptoSaid'. A law counts once. -/
mutual
def uptoBulk {H : Type} : DataW H → Nat
  | .lit (.string bytes) => bytes.length + 1
  | .lit _ => 1
  | .nil => 1
  | .ptr d => uptoBulk d + 1
  | .slice elems spare => uptoBulkAll elems + uptoBulkAll spare + 1
  | .agg parts => uptoBulkAll parts + 1
  | .iface _ d => uptoBulk d + 1
  | .map entries => uptoBulkEntries entries + 1
  | .held _ => 1
def uptoBulkAll {H : Type} : List (DataW H) → Nat
  | [] => 0
  | d :: r => uptoBulk d + uptoBulkAll r
def uptoBulkEntries {H : Type} : List (Lit × DataW H) → Nat
  | [] => 0
  | x :: r => uptoBulkEntry x + uptoBulkEntries r
def uptoBulkEntry {H : Type} : Lit × DataW H → Nat
  | (.string bytes, d) => bytes.length + uptoBulk d + 1
  | (_, d) => uptoBulk d + 1
 end
def uptoSmall : (H : Type) → List (DataW H) → Bool := fun _ ds => decide (uptoBulkAll ds ≤ 1048576)
def OpenSpec.upto (s : _root_.Go.ChangeSpec) : _root_.Go.OpenSpec := { _root_.Go.OpenSpec.ofChange s with cond := some uptoSmall }

/-- 'laws.FnExactCoinsForSeal', WHERE WHAT IT READS IS OF BULK AT MOST 1048576: true; the input reads as it did. -/
def fnExactCoinsForSealUptoRow : OpenClaim := { program := "ytlkhkoemfmjloaa", sum := "43e3dbd3154f1ae3a8b20a3cc7930091f60b7334f977e27a906a333af0c22053", func := "loop.example/g00878/laws.FnExactCoinsForSeal", spec := "fnExactCoinsForSeal", apart := false, narrowed := true }
def FnExactCoinsForSealUptoSaid : Prop := fnExactCoinsForSealUptoRow.holds Try.pinned (OpenSpec.upto fnExactCoinsForSealSpec)

/-- 'laws.FnExactEntryDigest', WHERE WHAT IT READS IS OF BULK AT MOST 1048576: true; the input reads as it did. -/
def fnExactEntryDigestUptoRow : OpenClaim := { program := "ytlkhkoemfmjloaa", sum := "43e3dbd3154f1ae3a8b20a3cc7930091f60b7334f977e27a906a333af0c22053", func := "loop.example/g00878/laws.FnExactEntryDigest", spec := "fnExactEntryDigest", unfollowed := true, recurses := true, apart := false, narrowed := true }
def FnExactEntryDigestUptoSaid : Prop := fnExactEntryDigestUptoRow.holds Try.pinned (OpenSpec.upto fnExactEntryDigestSpec)

/-- 'laws.FnExactJoinRecords', WHERE WHAT IT READS IS OF BULK AT MOST 1048576: true; the input reads as it did. -/
def fnExactJoinRecordsUptoRow : OpenClaim := { program := "ytlkhkoemfmjloaa", sum := "43e3dbd3154f1ae3a8b20a3cc7930091f60b7334f977e27a906a333af0c22053", func := "loop.example/g00878/laws.FnExactJoinRecords", spec := "fnExactJoinRecords", unfollowed := true, recurses := true, apart := false, narrowed := true }
def FnExactJoinRecordsUptoSaid : Prop := fnExactJoinRecordsUptoRow.holds Try.pinned (OpenSpec.upto fnExactJoinRecordsSpec)

/-- 'laws.FnExactEncodeProof', WHERE WHAT IT READS IS OF BULK AT MOST 1048576: true; the input reads as it did. -/
def fnExactEncodeProofUptoRow : OpenClaim := { program := "ytlkhkoemfmjloaa", sum := "43e3dbd3154f1ae3a8b20a3cc7930091f60b7334f977e27a906a333af0c22053", func := "loop.example/g00878/laws.FnExactEncodeProof", spec := "fnExactEncodeProof", unfollowed := true, recurses := true, apart := false, narrowed := true }
def FnExactEncodeProofUptoSaid : Prop := fnExactEncodeProofUptoRow.holds Try.pinned (OpenSpec.upto fnExactEncodeProofSpec)

/-- 'laws.FnExactReachOf', WHERE WHAT IT READS IS OF BULK AT MOST 1048576: true; the input reads as it did. -/
def fnExactReachOfUptoRow : OpenClaim := { program := "ytlkhkoemfmjloaa", sum := "43e3dbd3154f1ae3a8b20a3cc7930091f60b7334f977e27a906a333af0c22053", func := "loop.example/g00878/laws.FnExactReachOf", spec := "fnExactReachOf", unfollowed := true, recurses := true, apart := false, narrowed := true }
def FnExactReachOfUptoSaid : Prop := fnExactReachOfUptoRow.holds Try.pinned (OpenSpec.upto fnExactReachOfSpec)

/-- 'laws.FnExactSplitRecords', WHERE WHAT IT READS IS OF BULK AT MOST 1048576: true; the input reads as it did. -/
def fnExactSplitRecordsUptoRow : OpenClaim := { program := "ytlkhkoemfmjloaa", sum := "43e3dbd3154f1ae3a8b20a3cc7930091f60b7334f977e27a906a333af0c22053", func := "loop.example/g00878/laws.FnExactSplitRecords", spec := "fnExactSplitRecords", unfollowed := true, recurses := true, apart := false, narrowed := true }
def FnExactSplitRecordsUptoSaid : Prop := fnExactSplitRecordsUptoRow.holds Try.pinned (OpenSpec.upto fnExactSplitRecordsSpec)

end Rows
end Go.Proofs.Ytlkhkoemfmjloaa

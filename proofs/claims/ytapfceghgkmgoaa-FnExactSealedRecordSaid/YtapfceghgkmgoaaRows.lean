/-
  No cell of these rows narrows 'for every input' (looked for: loops, veiled, ifaces, maps, wideKeys, modest, calm, conditions, laid).
  DERIVED. THE GIVEN ROWS OF THIS SEAT. 12 by the template 'for every input the law returns true; each argument reads behind the call as it read before'; 0 by the template 'total and deterministic' (their statements: YtapfceghgkmgoaaTotals.lean).
  GIVEN WITH THE SEED: the statements are not yours to turn. If you find one false, say at which input.
  Laid BY PROGRAM, IN A SANDBOX (cutbox-rows.mjs): the forced cells as the released guide's own fill.sh prints them over the translation 476810ccf421ce20… (all of the seat's roots in one cut). By AI agents, Wed Nov 11 2026. No macro, syntax, notation, axiom, sorry.
-/
import Derived.Test.YtapfceghgkmgoaaChecked
import GoSem.Claim
import GoSem.ClaimJoined
import GoSem.ClaimMapViews
import Derived.JoinedTies
import Derived.KernelRfl
namespace Go.Proofs.Ytapfceghgkmgoaa
/- THE CELL 'sum', in the pinned program and in every row, IS THE sha256 OF THE DUMP (.gsa) THAT YtapfceghgkmgoaaProg.lean LOADS. Nothing in Lean hashes anything: it is a label: what it is worth is what the hold of that sum in a sandbox is worth. -/
noncomputable def Try.pinned : Pinned := { name := "ytapfceghgkmgoaa", sum := "476810ccf421ce200cd551bce80c53e2bb14a910bac523149616bed553a7b608", checked := Try.checked }
namespace Rows
def none {H : Type} : Left H := { results := [], args := [] }

/-- 'laws.FnExactGossipRound': WHATEVER THE INPUT: true; the input reads as it did. -/
def fnExactGossipRoundSpec : ChangeSpec := { name := "fnExactGossipRound", fn := fun _ => fun
  | [d1, d2] => { results := [.lit (.bool true)], args := [d1, d2] }
  | _ => none }
def fnExactGossipRoundRow : OpenClaim := { program := "ytapfceghgkmgoaa", sum := "476810ccf421ce200cd551bce80c53e2bb14a910bac523149616bed553a7b608", func := "loop.example/g00878/laws.FnExactGossipRound", spec := "fnExactGossipRound", unfollowed := true, recurses := true, apart := false }
def FnExactGossipRoundSaid : Prop := fnExactGossipRoundRow.holds Try.pinned (OpenSpec.ofChange fnExactGossipRoundSpec)

/-- ITS FALSE NEIGHBOUR: 'it returns false'. Refute it at one input. -/
def fnExactGossipRoundWrong : ChangeSpec := { name := "fnExactGossipRound", fn := fun _ => fun
  | [d1, d2] => { results := [.lit (.bool false)], args := [d1, d2] }
  | _ => none }
def FnExactGossipRoundWrongFalsely : Prop := fnExactGossipRoundRow.holds Try.pinned (OpenSpec.ofChange fnExactGossipRoundWrong)

/-- 'laws.FnExactSealedDigest': WHATEVER THE INPUT: true; the input reads as it did. -/
def fnExactSealedDigestSpec : ChangeSpec := { name := "fnExactSealedDigest", fn := fun _ => fun
  | [d] => { results := [.lit (.bool true)], args := [d] }
  | _ => none }
def fnExactSealedDigestRow : OpenClaim := { program := "ytapfceghgkmgoaa", sum := "476810ccf421ce200cd551bce80c53e2bb14a910bac523149616bed553a7b608", func := "loop.example/g00878/laws.FnExactSealedDigest", spec := "fnExactSealedDigest", unfollowed := true, recurses := true, apart := false }
def FnExactSealedDigestSaid : Prop := fnExactSealedDigestRow.holds Try.pinned (OpenSpec.ofChange fnExactSealedDigestSpec)

/-- ITS FALSE NEIGHBOUR: 'it returns false'. Refute it at one input. -/
def fnExactSealedDigestWrong : ChangeSpec := { name := "fnExactSealedDigest", fn := fun _ => fun
  | [d] => { results := [.lit (.bool false)], args := [d] }
  | _ => none }
def FnExactSealedDigestWrongFalsely : Prop := fnExactSealedDigestRow.holds Try.pinned (OpenSpec.ofChange fnExactSealedDigestWrong)

/-- 'laws.FnExactSealedRecord': WHATEVER THE INPUT: true; the input reads as it did. -/
def fnExactSealedRecordSpec : ChangeSpec := { name := "fnExactSealedRecord", fn := fun _ => fun
  | [d] => { results := [.lit (.bool true)], args := [d] }
  | _ => none }
def fnExactSealedRecordRow : OpenClaim := { program := "ytapfceghgkmgoaa", sum := "476810ccf421ce200cd551bce80c53e2bb14a910bac523149616bed553a7b608", func := "loop.example/g00878/laws.FnExactSealedRecord", spec := "fnExactSealedRecord", unfollowed := true, recurses := true, apart := false }
def FnExactSealedRecordSaid : Prop := fnExactSealedRecordRow.holds Try.pinned (OpenSpec.ofChange fnExactSealedRecordSpec)

/-- ITS FALSE NEIGHBOUR: 'it returns false'. Refute it at one input. -/
def fnExactSealedRecordWrong : ChangeSpec := { name := "fnExactSealedRecord", fn := fun _ => fun
  | [d] => { results := [.lit (.bool false)], args := [d] }
  | _ => none }
def FnExactSealedRecordWrongFalsely : Prop := fnExactSealedRecordRow.holds Try.pinned (OpenSpec.ofChange fnExactSealedRecordWrong)

/-- 'laws.FnExactSealedOfRecord': WHATEVER THE INPUT: true; the input reads as it did. -/
def fnExactSealedOfRecordSpec : ChangeSpec := { name := "fnExactSealedOfRecord", fn := fun _ => fun
  | [d] => { results := [.lit (.bool true)], args := [d] }
  | _ => none }
def fnExactSealedOfRecordRow : OpenClaim := { program := "ytapfceghgkmgoaa", sum := "476810ccf421ce200cd551bce80c53e2bb14a910bac523149616bed553a7b608", func := "loop.example/g00878/laws.FnExactSealedOfRecord", spec := "fnExactSealedOfRecord", unfollowed := true, recurses := true, apart := false }
def FnExactSealedOfRecordSaid : Prop := fnExactSealedOfRecordRow.holds Try.pinned (OpenSpec.ofChange fnExactSealedOfRecordSpec)

/-- ITS FALSE NEIGHBOUR: 'it returns false'. Refute it at one input. -/
def fnExactSealedOfRecordWrong : ChangeSpec := { name := "fnExactSealedOfRecord", fn := fun _ => fun
  | [d] => { results := [.lit (.bool false)], args := [d] }
  | _ => none }
def FnExactSealedOfRecordWrongFalsely : Prop := fnExactSealedOfRecordRow.holds Try.pinned (OpenSpec.ofChange fnExactSealedOfRecordWrong)

/-- 'laws.FnExactStageOfRecord': WHATEVER THE INPUT: true; the input reads as it did. -/
def fnExactStageOfRecordSpec : ChangeSpec := { name := "fnExactStageOfRecord", fn := fun _ => fun
  | [d] => { results := [.lit (.bool true)], args := [d] }
  | _ => none }
def fnExactStageOfRecordRow : OpenClaim := { program := "ytapfceghgkmgoaa", sum := "476810ccf421ce200cd551bce80c53e2bb14a910bac523149616bed553a7b608", func := "loop.example/g00878/laws.FnExactStageOfRecord", spec := "fnExactStageOfRecord", unfollowed := true, recurses := true, apart := false }
def FnExactStageOfRecordSaid : Prop := fnExactStageOfRecordRow.holds Try.pinned (OpenSpec.ofChange fnExactStageOfRecordSpec)

/-- ITS FALSE NEIGHBOUR: 'it returns false'. Refute it at one input. -/
def fnExactStageOfRecordWrong : ChangeSpec := { name := "fnExactStageOfRecord", fn := fun _ => fun
  | [d] => { results := [.lit (.bool false)], args := [d] }
  | _ => none }
def FnExactStageOfRecordWrongFalsely : Prop := fnExactStageOfRecordRow.holds Try.pinned (OpenSpec.ofChange fnExactStageOfRecordWrong)

/-- 'laws.FnExactStageRecord': WHATEVER THE INPUT: true; the input reads as it did. -/
def fnExactStageRecordSpec : ChangeSpec := { name := "fnExactStageRecord", fn := fun _ => fun
  | [d] => { results := [.lit (.bool true)], args := [d] }
  | _ => none }
def fnExactStageRecordRow : OpenClaim := { program := "ytapfceghgkmgoaa", sum := "476810ccf421ce200cd551bce80c53e2bb14a910bac523149616bed553a7b608", func := "loop.example/g00878/laws.FnExactStageRecord", spec := "fnExactStageRecord", unfollowed := true, recurses := true, apart := false }
def FnExactStageRecordSaid : Prop := fnExactStageRecordRow.holds Try.pinned (OpenSpec.ofChange fnExactStageRecordSpec)

/-- ITS FALSE NEIGHBOUR: 'it returns false'. Refute it at one input. -/
def fnExactStageRecordWrong : ChangeSpec := { name := "fnExactStageRecord", fn := fun _ => fun
  | [d] => { results := [.lit (.bool false)], args := [d] }
  | _ => none }
def FnExactStageRecordWrongFalsely : Prop := fnExactStageRecordRow.holds Try.pinned (OpenSpec.ofChange fnExactStageRecordWrong)

/-- 'laws.FnExactSignHead': WHATEVER THE INPUT: true; the input reads as it did. -/
def fnExactSignHeadSpec : ChangeSpec := { name := "fnExactSignHead", fn := fun _ => fun
  | [d1, d2, d3, d4, d5, d6] => { results := [.lit (.bool true)], args := [d1, d2, d3, d4, d5, d6] }
  | _ => none }
def fnExactSignHeadRow : OpenClaim := { program := "ytapfceghgkmgoaa", sum := "476810ccf421ce200cd551bce80c53e2bb14a910bac523149616bed553a7b608", func := "loop.example/g00878/laws.FnExactSignHead", spec := "fnExactSignHead", unfollowed := true, recurses := true, apart := false }
def FnExactSignHeadSaid : Prop := fnExactSignHeadRow.holds Try.pinned (OpenSpec.ofChange fnExactSignHeadSpec)

/-- ITS FALSE NEIGHBOUR: 'it returns false'. Refute it at one input. -/
def fnExactSignHeadWrong : ChangeSpec := { name := "fnExactSignHead", fn := fun _ => fun
  | [d1, d2, d3, d4, d5, d6] => { results := [.lit (.bool false)], args := [d1, d2, d3, d4, d5, d6] }
  | _ => none }
def FnExactSignHeadWrongFalsely : Prop := fnExactSignHeadRow.holds Try.pinned (OpenSpec.ofChange fnExactSignHeadWrong)

/-- 'laws.FnExactSignEntry': WHATEVER THE INPUT: true; the input reads as it did. -/
def fnExactSignEntrySpec : ChangeSpec := { name := "fnExactSignEntry", fn := fun _ => fun
  | [d1, d2, d3, d4, d5, d6, d7] => { results := [.lit (.bool true)], args := [d1, d2, d3, d4, d5, d6, d7] }
  | _ => none }
def fnExactSignEntryRow : OpenClaim := { program := "ytapfceghgkmgoaa", sum := "476810ccf421ce200cd551bce80c53e2bb14a910bac523149616bed553a7b608", func := "loop.example/g00878/laws.FnExactSignEntry", spec := "fnExactSignEntry", unfollowed := true, recurses := true, apart := false }
def FnExactSignEntrySaid : Prop := fnExactSignEntryRow.holds Try.pinned (OpenSpec.ofChange fnExactSignEntrySpec)

/-- ITS FALSE NEIGHBOUR: 'it returns false'. Refute it at one input. -/
def fnExactSignEntryWrong : ChangeSpec := { name := "fnExactSignEntry", fn := fun _ => fun
  | [d1, d2, d3, d4, d5, d6, d7] => { results := [.lit (.bool false)], args := [d1, d2, d3, d4, d5, d6, d7] }
  | _ => none }
def FnExactSignEntryWrongFalsely : Prop := fnExactSignEntryRow.holds Try.pinned (OpenSpec.ofChange fnExactSignEntryWrong)

/-- 'laws.FnExactIsForkEvidence': WHATEVER THE INPUT: true; the input reads as it did. -/
def fnExactIsForkEvidenceSpec : ChangeSpec := { name := "fnExactIsForkEvidence", fn := fun _ => fun
  | [d1, d2, d3] => { results := [.lit (.bool true)], args := [d1, d2, d3] }
  | _ => none }
def fnExactIsForkEvidenceRow : OpenClaim := { program := "ytapfceghgkmgoaa", sum := "476810ccf421ce200cd551bce80c53e2bb14a910bac523149616bed553a7b608", func := "loop.example/g00878/laws.FnExactIsForkEvidence", spec := "fnExactIsForkEvidence", unfollowed := true, recurses := true, apart := false }
def FnExactIsForkEvidenceSaid : Prop := fnExactIsForkEvidenceRow.holds Try.pinned (OpenSpec.ofChange fnExactIsForkEvidenceSpec)

/-- ITS FALSE NEIGHBOUR: 'it returns false'. Refute it at one input. -/
def fnExactIsForkEvidenceWrong : ChangeSpec := { name := "fnExactIsForkEvidence", fn := fun _ => fun
  | [d1, d2, d3] => { results := [.lit (.bool false)], args := [d1, d2, d3] }
  | _ => none }
def FnExactIsForkEvidenceWrongFalsely : Prop := fnExactIsForkEvidenceRow.holds Try.pinned (OpenSpec.ofChange fnExactIsForkEvidenceWrong)

/-- 'laws.FnExactIsValidBoard': WHATEVER THE INPUT: true; the input reads as it did. -/
def fnExactIsValidBoardSpec : ChangeSpec := { name := "fnExactIsValidBoard", fn := fun _ => fun
  | [d1, d2] => { results := [.lit (.bool true)], args := [d1, d2] }
  | _ => none }
def fnExactIsValidBoardRow : OpenClaim := { program := "ytapfceghgkmgoaa", sum := "476810ccf421ce200cd551bce80c53e2bb14a910bac523149616bed553a7b608", func := "loop.example/g00878/laws.FnExactIsValidBoard", spec := "fnExactIsValidBoard", unfollowed := true, recurses := true, apart := false }
def FnExactIsValidBoardSaid : Prop := fnExactIsValidBoardRow.holds Try.pinned (OpenSpec.ofChange fnExactIsValidBoardSpec)

/-- ITS FALSE NEIGHBOUR: 'it returns false'. Refute it at one input. -/
def fnExactIsValidBoardWrong : ChangeSpec := { name := "fnExactIsValidBoard", fn := fun _ => fun
  | [d1, d2] => { results := [.lit (.bool false)], args := [d1, d2] }
  | _ => none }
def FnExactIsValidBoardWrongFalsely : Prop := fnExactIsValidBoardRow.holds Try.pinned (OpenSpec.ofChange fnExactIsValidBoardWrong)

/-- 'laws.FnExactCompareReplicas': WHATEVER THE INPUT: true; the input reads as it did. -/
def fnExactCompareReplicasSpec : ChangeSpec := { name := "fnExactCompareReplicas", fn := fun _ => fun
  | [d1, d2, d3] => { results := [.lit (.bool true)], args := [d1, d2, d3] }
  | _ => none }
def fnExactCompareReplicasRow : OpenClaim := { program := "ytapfceghgkmgoaa", sum := "476810ccf421ce200cd551bce80c53e2bb14a910bac523149616bed553a7b608", func := "loop.example/g00878/laws.FnExactCompareReplicas", spec := "fnExactCompareReplicas", unfollowed := true, recurses := true, apart := false }
def FnExactCompareReplicasSaid : Prop := fnExactCompareReplicasRow.holds Try.pinned (OpenSpec.ofChange fnExactCompareReplicasSpec)

/-- ITS FALSE NEIGHBOUR: 'it returns false'. Refute it at one input. -/
def fnExactCompareReplicasWrong : ChangeSpec := { name := "fnExactCompareReplicas", fn := fun _ => fun
  | [d1, d2, d3] => { results := [.lit (.bool false)], args := [d1, d2, d3] }
  | _ => none }
def FnExactCompareReplicasWrongFalsely : Prop := fnExactCompareReplicasRow.holds Try.pinned (OpenSpec.ofChange fnExactCompareReplicasWrong)

/-- 'laws.FnExactAppendEntry': WHATEVER THE INPUT: true; the input reads as it did. -/
def fnExactAppendEntrySpec : ChangeSpec := { name := "fnExactAppendEntry", fn := fun _ => fun
  | [d1, d2, d3] => { results := [.lit (.bool true)], args := [d1, d2, d3] }
  | _ => none }
def fnExactAppendEntryRow : OpenClaim := { program := "ytapfceghgkmgoaa", sum := "476810ccf421ce200cd551bce80c53e2bb14a910bac523149616bed553a7b608", func := "loop.example/g00878/laws.FnExactAppendEntry", spec := "fnExactAppendEntry", unfollowed := true, recurses := true, apart := false }
def FnExactAppendEntrySaid : Prop := fnExactAppendEntryRow.holds Try.pinned (OpenSpec.ofChange fnExactAppendEntrySpec)

/-- ITS FALSE NEIGHBOUR: 'it returns false'. Refute it at one input. -/
def fnExactAppendEntryWrong : ChangeSpec := { name := "fnExactAppendEntry", fn := fun _ => fun
  | [d1, d2, d3] => { results := [.lit (.bool false)], args := [d1, d2, d3] }
  | _ => none }
def FnExactAppendEntryWrongFalsely : Prop := fnExactAppendEntryRow.holds Try.pinned (OpenSpec.ofChange fnExactAppendEntryWrong)

/- THE SECOND FORM. 'bulk': how many values and letters a reading holds, each counted each time it is reached (what is shared counts as often as it is met; a slice's spare places count too). A statement '..UptoSaid' is the law's where the arguments, and the package variables that the reading takes, are together of bulk at most 1048576: NARROWER than '..Said'. Prove '..Said' where nothing that the law and all that it calls make is longer than what came in: it says more and counts as full. Else prove '..UptoSaid'. A law counts once. -/
mutual
def uptoBulk {H : Type} : DataW H → Nat
  | .lit (.string bytes) => bytes.length + 1
  | .lit _ => 1
  | .nil => 1
  | .ptr d => uptoBulk d + 1
  | .slice elems spare => uptoBulkAll elems + uptoBulkAll spare + 1
  | .agg parts => uptoBulkAll parts + 1
  | .iface _ d => uptoBulk d + 1
  | .map entries => uptoBulkEntries entries + 1
  | .held _ => 1
def uptoBulkAll {H : Type} : List (DataW H) → Nat
  | [] => 0
  | d :: r => uptoBulk d + uptoBulkAll r
def uptoBulkEntries {H : Type} : List (Lit × DataW H) → Nat
  | [] => 0
  | x :: r => uptoBulkEntry x + uptoBulkEntries r
def uptoBulkEntry {H : Type} : Lit × DataW H → Nat
  | (.string bytes, d) => bytes.length + uptoBulk d + 1
  | (_, d) => uptoBulk d + 1
 end
def uptoSmall : (H : Type) → List (DataW H) → Bool := fun _ ds => decide (uptoBulkAll ds ≤ 1048576)
def OpenSpec.upto (s : _root_.Go.ChangeSpec) : _root_.Go.OpenSpec := { _root_.Go.OpenSpec.ofChange s with cond := some uptoSmall }

/-- 'laws.FnExactGossipRound', WHERE WHAT IT READS IS OF BULK AT MOST 1048576: true; the input reads as it did. -/
def fnExactGossipRoundUptoRow : OpenClaim := { program := "ytapfceghgkmgoaa", sum := "476810ccf421ce200cd551bce80c53e2bb14a910bac523149616bed553a7b608", func := "loop.example/g00878/laws.FnExactGossipRound", spec := "fnExactGossipRound", unfollowed := true, recurses := true, apart := false, narrowed := true }
def FnExactGossipRoundUptoSaid : Prop := fnExactGossipRoundUptoRow.holds Try.pinned (OpenSpec.upto fnExactGossipRoundSpec)

/-- 'laws.FnExactSealedDigest', WHERE WHAT IT READS IS OF BULK AT MOST 1048576: true; the input reads as it did. -/
def fnExactSealedDigestUptoRow : OpenClaim := { program := "ytapfceghgkmgoaa", sum := "476810ccf421ce200cd551bce80c53e2bb14a910bac523149616bed553a7b608", func := "loop.example/g00878/laws.FnExactSealedDigest", spec := "fnExactSealedDigest", unfollowed := true, recurses := true, apart := false, narrowed := true }
def FnExactSealedDigestUptoSaid : Prop := fnExactSealedDigestUptoRow.holds Try.pinned (OpenSpec.upto fnExactSealedDigestSpec)

/-- 'laws.FnExactSealedRecord', WHERE WHAT IT READS IS OF BULK AT MOST 1048576: true; the input reads as it did. -/
def fnExactSealedRecordUptoRow : OpenClaim := { program := "ytapfceghgkmgoaa", sum := "476810ccf421ce200cd551bce80c53e2bb14a910bac523149616bed553a7b608", func := "loop.example/g00878/laws.FnExactSealedRecord", spec := "fnExactSealedRecord", unfollowed := true, recurses := true, apart := false, narrowed := true }
def FnExactSealedRecordUptoSaid : Prop := fnExactSealedRecordUptoRow.holds Try.pinned (OpenSpec.upto fnExactSealedRecordSpec)

/-- 'laws.FnExactSealedOfRecord', WHERE WHAT IT READS IS OF BULK AT MOST 1048576: true; the input reads as it did. -/
def fnExactSealedOfRecordUptoRow : OpenClaim := { program := "ytapfceghgkmgoaa", sum := "476810ccf421ce200cd551bce80c53e2bb14a910bac523149616bed553a7b608", func := "loop.example/g00878/laws.FnExactSealedOfRecord", spec := "fnExactSealedOfRecord", unfollowed := true, recurses := true, apart := false, narrowed := true }
def FnExactSealedOfRecordUptoSaid : Prop := fnExactSealedOfRecordUptoRow.holds Try.pinned (OpenSpec.upto fnExactSealedOfRecordSpec)

/-- 'laws.FnExactStageOfRecord', WHERE WHAT IT READS IS OF BULK AT MOST 1048576: true; the input reads as it did. -/
def fnExactStageOfRecordUptoRow : OpenClaim := { program := "ytapfceghgkmgoaa", sum := "476810ccf421ce200cd551bce80c53e2bb14a910bac523149616bed553a7b608", func := "loop.example/g00878/laws.FnExactStageOfRecord", spec := "fnExactStageOfRecord", unfollowed := true, recurses := true, apart := false, narrowed := true }
def FnExactStageOfRecordUptoSaid : Prop := fnExactStageOfRecordUptoRow.holds Try.pinned (OpenSpec.upto fnExactStageOfRecordSpec)

/-- 'laws.FnExactStageRecord', WHERE WHAT IT READS IS OF BULK AT MOST 1048576: true; the input reads as it did. -/
def fnExactStageRecordUptoRow : OpenClaim := { program := "ytapfceghgkmgoaa", sum := "476810ccf421ce200cd551bce80c53e2bb14a910bac523149616bed553a7b608", func := "loop.example/g00878/laws.FnExactStageRecord", spec := "fnExactStageRecord", unfollowed := true, recurses := true, apart := false, narrowed := true }
def FnExactStageRecordUptoSaid : Prop := fnExactStageRecordUptoRow.holds Try.pinned (OpenSpec.upto fnExactStageRecordSpec)

/-- 'laws.FnExactSignHead', WHERE WHAT IT READS IS OF BULK AT MOST 1048576: true; the input reads as it did. -/
def fnExactSignHeadUptoRow : OpenClaim := { program := "ytapfceghgkmgoaa", sum := "476810ccf421ce200cd551bce80c53e2bb14a910bac523149616bed553a7b608", func := "loop.example/g00878/laws.FnExactSignHead", spec := "fnExactSignHead", unfollowed := true, recurses := true, apart := false, narrowed := true }
def FnExactSignHeadUptoSaid : Prop := fnExactSignHeadUptoRow.holds Try.pinned (OpenSpec.upto fnExactSignHeadSpec)

/-- 'laws.FnExactSignEntry', WHERE WHAT IT READS IS OF BULK AT MOST 1048576: true; the input reads as it did. -/
def fnExactSignEntryUptoRow : OpenClaim := { program := "ytapfceghgkmgoaa", sum := "476810ccf421ce200cd551bce80c53e2bb14a910bac523149616bed553a7b608", func := "loop.example/g00878/laws.FnExactSignEntry", spec := "fnExactSignEntry", unfollowed := true, recurses := true, apart := false, narrowed := true }
def FnExactSignEntryUptoSaid : Prop := fnExactSignEntryUptoRow.holds Try.pinned (OpenSpec.upto fnExactSignEntrySpec)

/-- 'laws.FnExactIsForkEvidence', WHERE WHAT IT READS IS OF BULK AT MOST 1048576: true; the input reads as it did. -/
def fnExactIsForkEvidenceUptoRow : OpenClaim := { program := "ytapfceghgkmgoaa", sum := "476810ccf421ce200cd551bce80c53e2bb14a910bac523149616bed553a7b608", func := "loop.example/g00878/laws.FnExactIsForkEvidence", spec := "fnExactIsForkEvidence", unfollowed := true, recurses := true, apart := false, narrowed := true }
def FnExactIsForkEvidenceUptoSaid : Prop := fnExactIsForkEvidenceUptoRow.holds Try.pinned (OpenSpec.upto fnExactIsForkEvidenceSpec)

/-- 'laws.FnExactIsValidBoard', WHERE WHAT IT READS IS OF BULK AT MOST 1048576: true; the input reads as it did. -/
def fnExactIsValidBoardUptoRow : OpenClaim := { program := "ytapfceghgkmgoaa", sum := "476810ccf421ce200cd551bce80c53e2bb14a910bac523149616bed553a7b608", func := "loop.example/g00878/laws.FnExactIsValidBoard", spec := "fnExactIsValidBoard", unfollowed := true, recurses := true, apart := false, narrowed := true }
def FnExactIsValidBoardUptoSaid : Prop := fnExactIsValidBoardUptoRow.holds Try.pinned (OpenSpec.upto fnExactIsValidBoardSpec)

/-- 'laws.FnExactCompareReplicas', WHERE WHAT IT READS IS OF BULK AT MOST 1048576: true; the input reads as it did. -/
def fnExactCompareReplicasUptoRow : OpenClaim := { program := "ytapfceghgkmgoaa", sum := "476810ccf421ce200cd551bce80c53e2bb14a910bac523149616bed553a7b608", func := "loop.example/g00878/laws.FnExactCompareReplicas", spec := "fnExactCompareReplicas", unfollowed := true, recurses := true, apart := false, narrowed := true }
def FnExactCompareReplicasUptoSaid : Prop := fnExactCompareReplicasUptoRow.holds Try.pinned (OpenSpec.upto fnExactCompareReplicasSpec)

/-- 'laws.FnExactAppendEntry', WHERE WHAT IT READS IS OF BULK AT MOST 1048576: true; the input reads as it did. -/
def fnExactAppendEntryUptoRow : OpenClaim := { program := "ytapfceghgkmgoaa", sum := "476810ccf421ce200cd551bce80c53e2bb14a910bac523149616bed553a7b608", func := "loop.example/g00878/laws.FnExactAppendEntry", spec := "fnExactAppendEntry", unfollowed := true, recurses := true, apart := false, narrowed := true }
def FnExactAppendEntryUptoSaid : Prop := fnExactAppendEntryUptoRow.holds Try.pinned (OpenSpec.upto fnExactAppendEntrySpec)

end Rows
end Go.Proofs.Ytapfceghgkmgoaa

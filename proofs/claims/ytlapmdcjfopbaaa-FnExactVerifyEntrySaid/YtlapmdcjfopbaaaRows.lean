/-
  No cell of these rows narrows 'for every input' (looked for: loops, veiled, ifaces, maps, wideKeys, modest, calm, conditions, laid).
  DERIVED. THE GIVEN ROWS OF THIS SEAT. 12 by the template 'for every input the law returns true; each argument reads behind the call as it read before'; 0 by the template 'total and deterministic' (their statements: YtlapmdcjfopbaaaTotals.lean).
  GIVEN WITH THE SEED: the statements are not yours to turn. If you find one false, say at which input.
  Laid BY PROGRAM, IN A SANDBOX (cutbox-rows.mjs): the forced cells as the released guide's own fill.sh prints them over the translation 00f01b5612df3cc9… (all of the seat's roots in one cut). By AI agents, Wed Nov 11 2026. No macro, syntax, notation, axiom, sorry.
-/
import Derived.Test.YtlapmdcjfopbaaaChecked
import GoSem.Claim
import GoSem.ClaimJoined
import GoSem.ClaimMapViews
import Derived.JoinedTies
import Derived.KernelRfl
namespace Go.Proofs.Ytlapmdcjfopbaaa
/- THE CELL 'sum', in the pinned program and in every row, IS THE sha256 OF THE DUMP (.gsa) THAT YtlapmdcjfopbaaaProg.lean LOADS. Nothing in Lean hashes anything: it is a label: what it is worth is what the hold of that sum in a sandbox is worth. -/
noncomputable def Try.pinned : Pinned := { name := "ytlapmdcjfopbaaa", sum := "00f01b5612df3cc9f779f9c76e275cfea171c8d7df269b812e41190837617218", checked := Try.checked }
namespace Rows
def none {H : Type} : Left H := { results := [], args := [] }

/-- 'laws.FnExactGossipRound': WHATEVER THE INPUT: true; the input reads as it did. -/
def fnExactGossipRoundSpec : ChangeSpec := { name := "fnExactGossipRound", fn := fun _ => fun
  | [d1, d2] => { results := [.lit (.bool true)], args := [d1, d2] }
  | _ => none }
def fnExactGossipRoundRow : OpenClaim := { program := "ytlapmdcjfopbaaa", sum := "00f01b5612df3cc9f779f9c76e275cfea171c8d7df269b812e41190837617218", func := "loop.example/g00878/laws.FnExactGossipRound", spec := "fnExactGossipRound", unfollowed := true, recurses := true, apart := false }
def FnExactGossipRoundSaid : Prop := fnExactGossipRoundRow.holds Try.pinned (OpenSpec.ofChange fnExactGossipRoundSpec)

/-- ITS FALSE NEIGHBOUR: 'it returns false'. Refute it at one input. -/
def fnExactGossipRoundWrong : ChangeSpec := { name := "fnExactGossipRound", fn := fun _ => fun
  | [d1, d2] => { results := [.lit (.bool false)], args := [d1, d2] }
  | _ => none }
def FnExactGossipRoundWrongFalsely : Prop := fnExactGossipRoundRow.holds Try.pinned (OpenSpec.ofChange fnExactGossipRoundWrong)

/-- 'laws.FnExactSealedDigest': WHATEVER THE INPUT: true; the input reads as it did. -/
def fnExactSealedDigestSpec : ChangeSpec := { name := "fnExactSealedDigest", fn := fun _ => fun
  | [d] => { results := [.lit (.bool true)], args := [d] }
  | _ => none }
def fnExactSealedDigestRow : OpenClaim := { program := "ytlapmdcjfopbaaa", sum := "00f01b5612df3cc9f779f9c76e275cfea171c8d7df269b812e41190837617218", func := "loop.example/g00878/laws.FnExactSealedDigest", spec := "fnExactSealedDigest", unfollowed := true, recurses := true, apart := false }
def FnExactSealedDigestSaid : Prop := fnExactSealedDigestRow.holds Try.pinned (OpenSpec.ofChange fnExactSealedDigestSpec)

/-- ITS FALSE NEIGHBOUR: 'it returns false'. Refute it at one input. -/
def fnExactSealedDigestWrong : ChangeSpec := { name := "fnExactSealedDigest", fn := fun _ => fun
  | [d] => { results := [.lit (.bool false)], args := [d] }
  | _ => none }
def FnExactSealedDigestWrongFalsely : Prop := fnExactSealedDigestRow.holds Try.pinned (OpenSpec.ofChange fnExactSealedDigestWrong)

/-- 'laws.FnExactSealedRecord': WHATEVER THE INPUT: true; the input reads as it did. -/
def fnExactSealedRecordSpec : ChangeSpec := { name := "fnExactSealedRecord", fn := fun _ => fun
  | [d] => { results := [.lit (.bool true)], args := [d] }
  | _ => none }
def fnExactSealedRecordRow : OpenClaim := { program := "ytlapmdcjfopbaaa", sum := "00f01b5612df3cc9f779f9c76e275cfea171c8d7df269b812e41190837617218", func := "loop.example/g00878/laws.FnExactSealedRecord", spec := "fnExactSealedRecord", unfollowed := true, recurses := true, apart := false }
def FnExactSealedRecordSaid : Prop := fnExactSealedRecordRow.holds Try.pinned (OpenSpec.ofChange fnExactSealedRecordSpec)

/-- ITS FALSE NEIGHBOUR: 'it returns false'. Refute it at one input. -/
def fnExactSealedRecordWrong : ChangeSpec := { name := "fnExactSealedRecord", fn := fun _ => fun
  | [d] => { results := [.lit (.bool false)], args := [d] }
  | _ => none }
def FnExactSealedRecordWrongFalsely : Prop := fnExactSealedRecordRow.holds Try.pinned (OpenSpec.ofChange fnExactSealedRecordWrong)

/-- 'laws.FnExactSealedOfRecord': WHATEVER THE INPUT: true; the input reads as it did. -/
def fnExactSealedOfRecordSpec : ChangeSpec := { name := "fnExactSealedOfRecord", fn := fun _ => fun
  | [d] => { results := [.lit (.bool true)], args := [d] }
  | _ => none }
def fnExactSealedOfRecordRow : OpenClaim := { program := "ytlapmdcjfopbaaa", sum := "00f01b5612df3cc9f779f9c76e275cfea171c8d7df269b812e41190837617218", func := "loop.example/g00878/laws.FnExactSealedOfRecord", spec := "fnExactSealedOfRecord", unfollowed := true, recurses := true, apart := false }
def FnExactSealedOfRecordSaid : Prop := fnExactSealedOfRecordRow.holds Try.pinned (OpenSpec.ofChange fnExactSealedOfRecordSpec)

/-- ITS FALSE NEIGHBOUR: 'it returns false'. Refute it at one input. -/
def fnExactSealedOfRecordWrong : ChangeSpec := { name := "fnExactSealedOfRecord", fn := fun _ => fun
  | [d] => { results := [.lit (.bool false)], args := [d] }
  | _ => none }
def FnExactSealedOfRecordWrongFalsely : Prop := fnExactSealedOfRecordRow.holds Try.pinned (OpenSpec.ofChange fnExactSealedOfRecordWrong)

/-- 'laws.FnExactStageOfRecord': WHATEVER THE INPUT: true; the input reads as it did. -/
def fnExactStageOfRecordSpec : ChangeSpec := { name := "fnExactStageOfRecord", fn := fun _ => fun
  | [d] => { results := [.lit (.bool true)], args := [d] }
  | _ => none }
def fnExactStageOfRecordRow : OpenClaim := { program := "ytlapmdcjfopbaaa", sum := "00f01b5612df3cc9f779f9c76e275cfea171c8d7df269b812e41190837617218", func := "loop.example/g00878/laws.FnExactStageOfRecord", spec := "fnExactStageOfRecord", unfollowed := true, recurses := true, apart := false }
def FnExactStageOfRecordSaid : Prop := fnExactStageOfRecordRow.holds Try.pinned (OpenSpec.ofChange fnExactStageOfRecordSpec)

/-- ITS FALSE NEIGHBOUR: 'it returns false'. Refute it at one input. -/
def fnExactStageOfRecordWrong : ChangeSpec := { name := "fnExactStageOfRecord", fn := fun _ => fun
  | [d] => { results := [.lit (.bool false)], args := [d] }
  | _ => none }
def FnExactStageOfRecordWrongFalsely : Prop := fnExactStageOfRecordRow.holds Try.pinned (OpenSpec.ofChange fnExactStageOfRecordWrong)

/-- 'laws.FnExactStageRecord': WHATEVER THE INPUT: true; the input reads as it did. -/
def fnExactStageRecordSpec : ChangeSpec := { name := "fnExactStageRecord", fn := fun _ => fun
  | [d] => { results := [.lit (.bool true)], args := [d] }
  | _ => none }
def fnExactStageRecordRow : OpenClaim := { program := "ytlapmdcjfopbaaa", sum := "00f01b5612df3cc9f779f9c76e275cfea171c8d7df269b812e41190837617218", func := "loop.example/g00878/laws.FnExactStageRecord", spec := "fnExactStageRecord", unfollowed := true, recurses := true, apart := false }
def FnExactStageRecordSaid : Prop := fnExactStageRecordRow.holds Try.pinned (OpenSpec.ofChange fnExactStageRecordSpec)

/-- ITS FALSE NEIGHBOUR: 'it returns false'. Refute it at one input. -/
def fnExactStageRecordWrong : ChangeSpec := { name := "fnExactStageRecord", fn := fun _ => fun
  | [d] => { results := [.lit (.bool false)], args := [d] }
  | _ => none }
def FnExactStageRecordWrongFalsely : Prop := fnExactStageRecordRow.holds Try.pinned (OpenSpec.ofChange fnExactStageRecordWrong)

/-- 'laws.FnInclusion': WHATEVER THE INPUT: true; the input reads as it did. -/
def fnInclusionSpec : ChangeSpec := { name := "fnInclusion", fn := fun _ => fun
  | [d1, d2] => { results := [.lit (.bool true)], args := [d1, d2] }
  | _ => none }
def fnInclusionRow : OpenClaim := { program := "ytlapmdcjfopbaaa", sum := "00f01b5612df3cc9f779f9c76e275cfea171c8d7df269b812e41190837617218", func := "loop.example/g00878/laws.FnInclusion", spec := "fnInclusion", unfollowed := true, recurses := true, apart := false }
def FnInclusionSaid : Prop := fnInclusionRow.holds Try.pinned (OpenSpec.ofChange fnInclusionSpec)

/-- ITS FALSE NEIGHBOUR: 'it returns false'. Refute it at one input. -/
def fnInclusionWrong : ChangeSpec := { name := "fnInclusion", fn := fun _ => fun
  | [d1, d2] => { results := [.lit (.bool false)], args := [d1, d2] }
  | _ => none }
def FnInclusionWrongFalsely : Prop := fnInclusionRow.holds Try.pinned (OpenSpec.ofChange fnInclusionWrong)

/-- 'laws.FnConsistency': WHATEVER THE INPUT: true; the input reads as it did. -/
def fnConsistencySpec : ChangeSpec := { name := "fnConsistency", fn := fun _ => fun
  | [d1, d2] => { results := [.lit (.bool true)], args := [d1, d2] }
  | _ => none }
def fnConsistencyRow : OpenClaim := { program := "ytlapmdcjfopbaaa", sum := "00f01b5612df3cc9f779f9c76e275cfea171c8d7df269b812e41190837617218", func := "loop.example/g00878/laws.FnConsistency", spec := "fnConsistency", unfollowed := true, recurses := true, apart := false }
def FnConsistencySaid : Prop := fnConsistencyRow.holds Try.pinned (OpenSpec.ofChange fnConsistencySpec)

/-- ITS FALSE NEIGHBOUR: 'it returns false'. Refute it at one input. -/
def fnConsistencyWrong : ChangeSpec := { name := "fnConsistency", fn := fun _ => fun
  | [d1, d2] => { results := [.lit (.bool false)], args := [d1, d2] }
  | _ => none }
def FnConsistencyWrongFalsely : Prop := fnConsistencyRow.holds Try.pinned (OpenSpec.ofChange fnConsistencyWrong)

/-- 'laws.FnFrontier': WHATEVER THE INPUT: true; the input reads as it did. -/
def fnFrontierSpec : ChangeSpec := { name := "fnFrontier", fn := fun _ => fun
  | [d1, d2] => { results := [.lit (.bool true)], args := [d1, d2] }
  | _ => none }
def fnFrontierRow : OpenClaim := { program := "ytlapmdcjfopbaaa", sum := "00f01b5612df3cc9f779f9c76e275cfea171c8d7df269b812e41190837617218", func := "loop.example/g00878/laws.FnFrontier", spec := "fnFrontier", unfollowed := true, recurses := true, apart := false }
def FnFrontierSaid : Prop := fnFrontierRow.holds Try.pinned (OpenSpec.ofChange fnFrontierSpec)

/-- ITS FALSE NEIGHBOUR: 'it returns false'. Refute it at one input. -/
def fnFrontierWrong : ChangeSpec := { name := "fnFrontier", fn := fun _ => fun
  | [d1, d2] => { results := [.lit (.bool false)], args := [d1, d2] }
  | _ => none }
def FnFrontierWrongFalsely : Prop := fnFrontierRow.holds Try.pinned (OpenSpec.ofChange fnFrontierWrong)

/-- 'laws.FnExactVerifyHead': WHATEVER THE INPUT: true; the input reads as it did. -/
def fnExactVerifyHeadSpec : ChangeSpec := { name := "fnExactVerifyHead", fn := fun _ => fun
  | [d1, d2, d3] => { results := [.lit (.bool true)], args := [d1, d2, d3] }
  | _ => none }
def fnExactVerifyHeadRow : OpenClaim := { program := "ytlapmdcjfopbaaa", sum := "00f01b5612df3cc9f779f9c76e275cfea171c8d7df269b812e41190837617218", func := "loop.example/g00878/laws.FnExactVerifyHead", spec := "fnExactVerifyHead", unfollowed := true, recurses := true, apart := false }
def FnExactVerifyHeadSaid : Prop := fnExactVerifyHeadRow.holds Try.pinned (OpenSpec.ofChange fnExactVerifyHeadSpec)

/-- ITS FALSE NEIGHBOUR: 'it returns false'. Refute it at one input. -/
def fnExactVerifyHeadWrong : ChangeSpec := { name := "fnExactVerifyHead", fn := fun _ => fun
  | [d1, d2, d3] => { results := [.lit (.bool false)], args := [d1, d2, d3] }
  | _ => none }
def FnExactVerifyHeadWrongFalsely : Prop := fnExactVerifyHeadRow.holds Try.pinned (OpenSpec.ofChange fnExactVerifyHeadWrong)

/-- 'laws.FnExactSignHead': WHATEVER THE INPUT: true; the input reads as it did. -/
def fnExactSignHeadSpec : ChangeSpec := { name := "fnExactSignHead", fn := fun _ => fun
  | [d1, d2, d3, d4, d5, d6] => { results := [.lit (.bool true)], args := [d1, d2, d3, d4, d5, d6] }
  | _ => none }
def fnExactSignHeadRow : OpenClaim := { program := "ytlapmdcjfopbaaa", sum := "00f01b5612df3cc9f779f9c76e275cfea171c8d7df269b812e41190837617218", func := "loop.example/g00878/laws.FnExactSignHead", spec := "fnExactSignHead", unfollowed := true, recurses := true, apart := false }
def FnExactSignHeadSaid : Prop := fnExactSignHeadRow.holds Try.pinned (OpenSpec.ofChange fnExactSignHeadSpec)

/-- ITS FALSE NEIGHBOUR: 'it returns false'. Refute it at one input. -/
def fnExactSignHeadWrong : ChangeSpec := { name := "fnExactSignHead", fn := fun _ => fun
  | [d1, d2, d3, d4, d5, d6] => { results := [.lit (.bool false)], args := [d1, d2, d3, d4, d5, d6] }
  | _ => none }
def FnExactSignHeadWrongFalsely : Prop := fnExactSignHeadRow.holds Try.pinned (OpenSpec.ofChange fnExactSignHeadWrong)

/-- 'laws.FnExactVerifyEntry': WHATEVER THE INPUT: true; the input reads as it did. -/
def fnExactVerifyEntrySpec : ChangeSpec := { name := "fnExactVerifyEntry", fn := fun _ => fun
  | [d1, d2, d3, d4] => { results := [.lit (.bool true)], args := [d1, d2, d3, d4] }
  | _ => none }
def fnExactVerifyEntryRow : OpenClaim := { program := "ytlapmdcjfopbaaa", sum := "00f01b5612df3cc9f779f9c76e275cfea171c8d7df269b812e41190837617218", func := "loop.example/g00878/laws.FnExactVerifyEntry", spec := "fnExactVerifyEntry", unfollowed := true, recurses := true, apart := false }
def FnExactVerifyEntrySaid : Prop := fnExactVerifyEntryRow.holds Try.pinned (OpenSpec.ofChange fnExactVerifyEntrySpec)

/-- ITS FALSE NEIGHBOUR: 'it returns false'. Refute it at one input. -/
def fnExactVerifyEntryWrong : ChangeSpec := { name := "fnExactVerifyEntry", fn := fun _ => fun
  | [d1, d2, d3, d4] => { results := [.lit (.bool false)], args := [d1, d2, d3, d4] }
  | _ => none }
def FnExactVerifyEntryWrongFalsely : Prop := fnExactVerifyEntryRow.holds Try.pinned (OpenSpec.ofChange fnExactVerifyEntryWrong)

/- THE SECOND FORM. 'bulk': how many values and letters a reading holds, each counted each time it is reached (what is shared counts as often as it is met; a slice's spare places count too). A statement '..UptoSaid' is the law's where the arguments, and the package variables that the reading takes, are together of bulk at most 1048576: NARROWER than '..Said'. Prove '..Said' where nothing that the law and all that it calls make is longer than what came in: it says more and counts as full. Else prove '..UptoSaid'. A law counts once. -/
mutual
def uptoBulk {H : Type} : DataW H → Nat
  | .lit (.string bytes) => bytes.length + 1
  | .lit _ => 1
  | .nil => 1
  | .ptr d => uptoBulk d + 1
  | .slice elems spare => uptoBulkAll elems + uptoBulkAll spare + 1
  | .agg parts => uptoBulkAll parts + 1
  | .iface _ d => uptoBulk d + 1
  | .map entries => uptoBulkEntries entries + 1
  | .held _ => 1
def uptoBulkAll {H : Type} : List (DataW H) → Nat
  | [] => 0
  | d :: r => uptoBulk d + uptoBulkAll r
def uptoBulkEntries {H : Type} : List (Lit × DataW H) → Nat
  | [] => 0
  | x :: r => uptoBulkEntry x + uptoBulkEntries r
def uptoBulkEntry {H : Type} : Lit × DataW H → Nat
  | (.string bytes, d) => bytes.length + uptoBulk d + 1
  | (_, d) => uptoBulk d + 1
 end
def uptoSmall : (H : Type) → List (DataW H) → Bool := fun _ ds => decide (uptoBulkAll ds ≤ 1048576)
def OpenSpec.upto (s : _root_.Go.ChangeSpec) : _root_.Go.OpenSpec := { _root_.Go.OpenSpec.ofChange s with cond := some uptoSmall }

/-- 'laws.FnExactGossipRound', WHERE WHAT IT READS IS OF BULK AT MOST 1048576: true; the input reads as it did. -/
def fnExactGossipRoundUptoRow : OpenClaim := { program := "ytlapmdcjfopbaaa", sum := "00f01b5612df3cc9f779f9c76e275cfea171c8d7df269b812e41190837617218", func := "loop.example/g00878/laws.FnExactGossipRound", spec := "fnExactGossipRound", unfollowed := true, recurses := true, apart := false, narrowed := true }
def FnExactGossipRoundUptoSaid : Prop := fnExactGossipRoundUptoRow.holds Try.pinned (OpenSpec.upto fnExactGossipRoundSpec)

/-- 'laws.FnExactSealedDigest', WHERE WHAT IT READS IS OF BULK AT MOST 1048576: true; the input reads as it did. -/
def fnExactSealedDigestUptoRow : OpenClaim := { program := "ytlapmdcjfopbaaa", sum := "00f01b5612df3cc9f779f9c76e275cfea171c8d7df269b812e41190837617218", func := "loop.example/g00878/laws.FnExactSealedDigest", spec := "fnExactSealedDigest", unfollowed := true, recurses := true, apart := false, narrowed := true }
def FnExactSealedDigestUptoSaid : Prop := fnExactSealedDigestUptoRow.holds Try.pinned (OpenSpec.upto fnExactSealedDigestSpec)

/-- 'laws.FnExactSealedRecord', WHERE WHAT IT READS IS OF BULK AT MOST 1048576: true; the input reads as it did. -/
def fnExactSealedRecordUptoRow : OpenClaim := { program := "ytlapmdcjfopbaaa", sum := "00f01b5612df3cc9f779f9c76e275cfea171c8d7df269b812e41190837617218", func := "loop.example/g00878/laws.FnExactSealedRecord", spec := "fnExactSealedRecord", unfollowed := true, recurses := true, apart := false, narrowed := true }
def FnExactSealedRecordUptoSaid : Prop := fnExactSealedRecordUptoRow.holds Try.pinned (OpenSpec.upto fnExactSealedRecordSpec)

/-- 'laws.FnExactSealedOfRecord', WHERE WHAT IT READS IS OF BULK AT MOST 1048576: true; the input reads as it did. -/
def fnExactSealedOfRecordUptoRow : OpenClaim := { program := "ytlapmdcjfopbaaa", sum := "00f01b5612df3cc9f779f9c76e275cfea171c8d7df269b812e41190837617218", func := "loop.example/g00878/laws.FnExactSealedOfRecord", spec := "fnExactSealedOfRecord", unfollowed := true, recurses := true, apart := false, narrowed := true }
def FnExactSealedOfRecordUptoSaid : Prop := fnExactSealedOfRecordUptoRow.holds Try.pinned (OpenSpec.upto fnExactSealedOfRecordSpec)

/-- 'laws.FnExactStageOfRecord', WHERE WHAT IT READS IS OF BULK AT MOST 1048576: true; the input reads as it did. -/
def fnExactStageOfRecordUptoRow : OpenClaim := { program := "ytlapmdcjfopbaaa", sum := "00f01b5612df3cc9f779f9c76e275cfea171c8d7df269b812e41190837617218", func := "loop.example/g00878/laws.FnExactStageOfRecord", spec := "fnExactStageOfRecord", unfollowed := true, recurses := true, apart := false, narrowed := true }
def FnExactStageOfRecordUptoSaid : Prop := fnExactStageOfRecordUptoRow.holds Try.pinned (OpenSpec.upto fnExactStageOfRecordSpec)

/-- 'laws.FnExactStageRecord', WHERE WHAT IT READS IS OF BULK AT MOST 1048576: true; the input reads as it did. -/
def fnExactStageRecordUptoRow : OpenClaim := { program := "ytlapmdcjfopbaaa", sum := "00f01b5612df3cc9f779f9c76e275cfea171c8d7df269b812e41190837617218", func := "loop.example/g00878/laws.FnExactStageRecord", spec := "fnExactStageRecord", unfollowed := true, recurses := true, apart := false, narrowed := true }
def FnExactStageRecordUptoSaid : Prop := fnExactStageRecordUptoRow.holds Try.pinned (OpenSpec.upto fnExactStageRecordSpec)

/-- 'laws.FnInclusion', WHERE WHAT IT READS IS OF BULK AT MOST 1048576: true; the input reads as it did. -/
def fnInclusionUptoRow : OpenClaim := { program := "ytlapmdcjfopbaaa", sum := "00f01b5612df3cc9f779f9c76e275cfea171c8d7df269b812e41190837617218", func := "loop.example/g00878/laws.FnInclusion", spec := "fnInclusion", unfollowed := true, recurses := true, apart := false, narrowed := true }
def FnInclusionUptoSaid : Prop := fnInclusionUptoRow.holds Try.pinned (OpenSpec.upto fnInclusionSpec)

/-- 'laws.FnConsistency', WHERE WHAT IT READS IS OF BULK AT MOST 1048576: true; the input reads as it did. -/
def fnConsistencyUptoRow : OpenClaim := { program := "ytlapmdcjfopbaaa", sum := "00f01b5612df3cc9f779f9c76e275cfea171c8d7df269b812e41190837617218", func := "loop.example/g00878/laws.FnConsistency", spec := "fnConsistency", unfollowed := true, recurses := true, apart := false, narrowed := true }
def FnConsistencyUptoSaid : Prop := fnConsistencyUptoRow.holds Try.pinned (OpenSpec.upto fnConsistencySpec)

/-- 'laws.FnFrontier', WHERE WHAT IT READS IS OF BULK AT MOST 1048576: true; the input reads as it did. -/
def fnFrontierUptoRow : OpenClaim := { program := "ytlapmdcjfopbaaa", sum := "00f01b5612df3cc9f779f9c76e275cfea171c8d7df269b812e41190837617218", func := "loop.example/g00878/laws.FnFrontier", spec := "fnFrontier", unfollowed := true, recurses := true, apart := false, narrowed := true }
def FnFrontierUptoSaid : Prop := fnFrontierUptoRow.holds Try.pinned (OpenSpec.upto fnFrontierSpec)

/-- 'laws.FnExactVerifyHead', WHERE WHAT IT READS IS OF BULK AT MOST 1048576: true; the input reads as it did. -/
def fnExactVerifyHeadUptoRow : OpenClaim := { program := "ytlapmdcjfopbaaa", sum := "00f01b5612df3cc9f779f9c76e275cfea171c8d7df269b812e41190837617218", func := "loop.example/g00878/laws.FnExactVerifyHead", spec := "fnExactVerifyHead", unfollowed := true, recurses := true, apart := false, narrowed := true }
def FnExactVerifyHeadUptoSaid : Prop := fnExactVerifyHeadUptoRow.holds Try.pinned (OpenSpec.upto fnExactVerifyHeadSpec)

/-- 'laws.FnExactSignHead', WHERE WHAT IT READS IS OF BULK AT MOST 1048576: true; the input reads as it did. -/
def fnExactSignHeadUptoRow : OpenClaim := { program := "ytlapmdcjfopbaaa", sum := "00f01b5612df3cc9f779f9c76e275cfea171c8d7df269b812e41190837617218", func := "loop.example/g00878/laws.FnExactSignHead", spec := "fnExactSignHead", unfollowed := true, recurses := true, apart := false, narrowed := true }
def FnExactSignHeadUptoSaid : Prop := fnExactSignHeadUptoRow.holds Try.pinned (OpenSpec.upto fnExactSignHeadSpec)

/-- 'laws.FnExactVerifyEntry', WHERE WHAT IT READS IS OF BULK AT MOST 1048576: true; the input reads as it did. -/
def fnExactVerifyEntryUptoRow : OpenClaim := { program := "ytlapmdcjfopbaaa", sum := "00f01b5612df3cc9f779f9c76e275cfea171c8d7df269b812e41190837617218", func := "loop.example/g00878/laws.FnExactVerifyEntry", spec := "fnExactVerifyEntry", unfollowed := true, recurses := true, apart := false, narrowed := true }
def FnExactVerifyEntryUptoSaid : Prop := fnExactVerifyEntryUptoRow.holds Try.pinned (OpenSpec.upto fnExactVerifyEntrySpec)

end Rows
end Go.Proofs.Ytlapmdcjfopbaaa

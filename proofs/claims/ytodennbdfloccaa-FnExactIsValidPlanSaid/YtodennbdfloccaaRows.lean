/-
  No cell of these rows narrows 'for every input' (looked for: loops, veiled, ifaces, maps, wideKeys, modest, calm, conditions, laid).
  DERIVED. THE GIVEN ROWS OF THIS SEAT. 8 by the template 'for every input the law returns true; each argument reads behind the call as it read before'; 0 by the template 'total and deterministic' (their statements: YtodennbdfloccaaTotals.lean).
  GIVEN WITH THE SEED: the statements are not yours to turn. If you find one false, say at which input.
  Laid BY PROGRAM, IN A SANDBOX (cutbox-rows.mjs): the forced cells as the released guide's own fill.sh prints them over the translation 2f89f9e4aa337abc… (all of the seat's roots in one cut). By AI agents, Wed Nov 11 2026. No macro, syntax, notation, axiom, sorry.
-/
import Derived.Test.YtodennbdfloccaaChecked
import GoSem.Claim
import GoSem.ClaimJoined
import GoSem.ClaimMapViews
import Derived.JoinedTies
import Derived.KernelRfl
namespace Go.Proofs.Ytodennbdfloccaa
/- THE CELL 'sum', in the pinned program and in every row, IS THE sha256 OF THE DUMP (.gsa) THAT YtodennbdfloccaaProg.lean LOADS. Nothing in Lean hashes anything: it is a label: what it is worth is what the hold of that sum in a sandbox is worth. -/
noncomputable def Try.pinned : Pinned := { name := "ytodennbdfloccaa", sum := "2f89f9e4aa337abc493b21855dffa5fde625c8ca45c51499a161b4a16d108b83", checked := Try.checked }
namespace Rows
def none {H : Type} : Left H := { results := [], args := [] }

/-- 'laws.FnExactBoardLeaves': WHATEVER THE INPUT: true; the input reads as it did. -/
def fnExactBoardLeavesSpec : ChangeSpec := { name := "fnExactBoardLeaves", fn := fun _ => fun
  | [d1, d2] => { results := [.lit (.bool true)], args := [d1, d2] }
  | _ => none }
def fnExactBoardLeavesRow : OpenClaim := { program := "ytodennbdfloccaa", sum := "2f89f9e4aa337abc493b21855dffa5fde625c8ca45c51499a161b4a16d108b83", func := "loop.example/g00878/laws.FnExactBoardLeaves", spec := "fnExactBoardLeaves", unfollowed := true, recurses := true, apart := false }
def FnExactBoardLeavesSaid : Prop := fnExactBoardLeavesRow.holds Try.pinned (OpenSpec.ofChange fnExactBoardLeavesSpec)

/-- ITS FALSE NEIGHBOUR: 'it returns false'. Refute it at one input. -/
def fnExactBoardLeavesWrong : ChangeSpec := { name := "fnExactBoardLeaves", fn := fun _ => fun
  | [d1, d2] => { results := [.lit (.bool false)], args := [d1, d2] }
  | _ => none }
def FnExactBoardLeavesWrongFalsely : Prop := fnExactBoardLeavesRow.holds Try.pinned (OpenSpec.ofChange fnExactBoardLeavesWrong)

/-- 'laws.FnExactIsValidPlan': WHATEVER THE INPUT: true; the input reads as it did. -/
def fnExactIsValidPlanSpec : ChangeSpec := { name := "fnExactIsValidPlan", fn := fun _ => fun
  | [d] => { results := [.lit (.bool true)], args := [d] }
  | _ => none }
def fnExactIsValidPlanRow : OpenClaim := { program := "ytodennbdfloccaa", sum := "2f89f9e4aa337abc493b21855dffa5fde625c8ca45c51499a161b4a16d108b83", func := "loop.example/g00878/laws.FnExactIsValidPlan", spec := "fnExactIsValidPlan", unfollowed := true, recurses := true, apart := false }
def FnExactIsValidPlanSaid : Prop := fnExactIsValidPlanRow.holds Try.pinned (OpenSpec.ofChange fnExactIsValidPlanSpec)

/-- ITS FALSE NEIGHBOUR: 'it returns false'. Refute it at one input. -/
def fnExactIsValidPlanWrong : ChangeSpec := { name := "fnExactIsValidPlan", fn := fun _ => fun
  | [d] => { results := [.lit (.bool false)], args := [d] }
  | _ => none }
def FnExactIsValidPlanWrongFalsely : Prop := fnExactIsValidPlanRow.holds Try.pinned (OpenSpec.ofChange fnExactIsValidPlanWrong)

/-- 'laws.FnExactAuthorsOf': WHATEVER THE INPUT: true; the input reads as it did. -/
def fnExactAuthorsOfSpec : ChangeSpec := { name := "fnExactAuthorsOf", fn := fun _ => fun
  | [d] => { results := [.lit (.bool true)], args := [d] }
  | _ => none }
def fnExactAuthorsOfRow : OpenClaim := { program := "ytodennbdfloccaa", sum := "2f89f9e4aa337abc493b21855dffa5fde625c8ca45c51499a161b4a16d108b83", func := "loop.example/g00878/laws.FnExactAuthorsOf", spec := "fnExactAuthorsOf", unfollowed := true, recurses := true, apart := false }
def FnExactAuthorsOfSaid : Prop := fnExactAuthorsOfRow.holds Try.pinned (OpenSpec.ofChange fnExactAuthorsOfSpec)

/-- ITS FALSE NEIGHBOUR: 'it returns false'. Refute it at one input. -/
def fnExactAuthorsOfWrong : ChangeSpec := { name := "fnExactAuthorsOf", fn := fun _ => fun
  | [d] => { results := [.lit (.bool false)], args := [d] }
  | _ => none }
def FnExactAuthorsOfWrongFalsely : Prop := fnExactAuthorsOfRow.holds Try.pinned (OpenSpec.ofChange fnExactAuthorsOfWrong)

/-- 'laws.FnExactAuthorSecret': WHATEVER THE INPUT: true; the input reads as it did. -/
def fnExactAuthorSecretSpec : ChangeSpec := { name := "fnExactAuthorSecret", fn := fun _ => fun
  | [d1, d2] => { results := [.lit (.bool true)], args := [d1, d2] }
  | _ => none }
def fnExactAuthorSecretRow : OpenClaim := { program := "ytodennbdfloccaa", sum := "2f89f9e4aa337abc493b21855dffa5fde625c8ca45c51499a161b4a16d108b83", func := "loop.example/g00878/laws.FnExactAuthorSecret", spec := "fnExactAuthorSecret", unfollowed := true, recurses := true, apart := false }
def FnExactAuthorSecretSaid : Prop := fnExactAuthorSecretRow.holds Try.pinned (OpenSpec.ofChange fnExactAuthorSecretSpec)

/-- ITS FALSE NEIGHBOUR: 'it returns false'. Refute it at one input. -/
def fnExactAuthorSecretWrong : ChangeSpec := { name := "fnExactAuthorSecret", fn := fun _ => fun
  | [d1, d2] => { results := [.lit (.bool false)], args := [d1, d2] }
  | _ => none }
def FnExactAuthorSecretWrongFalsely : Prop := fnExactAuthorSecretRow.holds Try.pinned (OpenSpec.ofChange fnExactAuthorSecretWrong)

/-- 'laws.FnExactCoinsFor': WHATEVER THE INPUT: true; the input reads as it did. -/
def fnExactCoinsForSpec : ChangeSpec := { name := "fnExactCoinsFor", fn := fun _ => fun
  | [d1, d2, d3, d4] => { results := [.lit (.bool true)], args := [d1, d2, d3, d4] }
  | _ => none }
def fnExactCoinsForRow : OpenClaim := { program := "ytodennbdfloccaa", sum := "2f89f9e4aa337abc493b21855dffa5fde625c8ca45c51499a161b4a16d108b83", func := "loop.example/g00878/laws.FnExactCoinsFor", spec := "fnExactCoinsFor", unfollowed := true, recurses := true, apart := false }
def FnExactCoinsForSaid : Prop := fnExactCoinsForRow.holds Try.pinned (OpenSpec.ofChange fnExactCoinsForSpec)

/-- ITS FALSE NEIGHBOUR: 'it returns false'. Refute it at one input. -/
def fnExactCoinsForWrong : ChangeSpec := { name := "fnExactCoinsFor", fn := fun _ => fun
  | [d1, d2, d3, d4] => { results := [.lit (.bool false)], args := [d1, d2, d3, d4] }
  | _ => none }
def FnExactCoinsForWrongFalsely : Prop := fnExactCoinsForRow.holds Try.pinned (OpenSpec.ofChange fnExactCoinsForWrong)

/-- 'laws.FnExactTrusteeShare': WHATEVER THE INPUT: true; the input reads as it did. -/
def fnExactTrusteeShareSpec : ChangeSpec := { name := "fnExactTrusteeShare", fn := fun _ => fun
  | [d1, d2] => { results := [.lit (.bool true)], args := [d1, d2] }
  | _ => none }
def fnExactTrusteeShareRow : OpenClaim := { program := "ytodennbdfloccaa", sum := "2f89f9e4aa337abc493b21855dffa5fde625c8ca45c51499a161b4a16d108b83", func := "loop.example/g00878/laws.FnExactTrusteeShare", spec := "fnExactTrusteeShare", unfollowed := true, recurses := true, apart := false }
def FnExactTrusteeShareSaid : Prop := fnExactTrusteeShareRow.holds Try.pinned (OpenSpec.ofChange fnExactTrusteeShareSpec)

/-- ITS FALSE NEIGHBOUR: 'it returns false'. Refute it at one input. -/
def fnExactTrusteeShareWrong : ChangeSpec := { name := "fnExactTrusteeShare", fn := fun _ => fun
  | [d1, d2] => { results := [.lit (.bool false)], args := [d1, d2] }
  | _ => none }
def FnExactTrusteeShareWrongFalsely : Prop := fnExactTrusteeShareRow.holds Try.pinned (OpenSpec.ofChange fnExactTrusteeShareWrong)

/-- 'laws.FnExactJointCommits': WHATEVER THE INPUT: true; the input reads as it did. -/
def fnExactJointCommitsSpec : ChangeSpec := { name := "fnExactJointCommits", fn := fun _ => fun
  | [d] => { results := [.lit (.bool true)], args := [d] }
  | _ => none }
def fnExactJointCommitsRow : OpenClaim := { program := "ytodennbdfloccaa", sum := "2f89f9e4aa337abc493b21855dffa5fde625c8ca45c51499a161b4a16d108b83", func := "loop.example/g00878/laws.FnExactJointCommits", spec := "fnExactJointCommits", unfollowed := true, recurses := true, apart := false }
def FnExactJointCommitsSaid : Prop := fnExactJointCommitsRow.holds Try.pinned (OpenSpec.ofChange fnExactJointCommitsSpec)

/-- ITS FALSE NEIGHBOUR: 'it returns false'. Refute it at one input. -/
def fnExactJointCommitsWrong : ChangeSpec := { name := "fnExactJointCommits", fn := fun _ => fun
  | [d] => { results := [.lit (.bool false)], args := [d] }
  | _ => none }
def FnExactJointCommitsWrongFalsely : Prop := fnExactJointCommitsRow.holds Try.pinned (OpenSpec.ofChange fnExactJointCommitsWrong)

/-- 'laws.FnExactGossipRound': WHATEVER THE INPUT: true; the input reads as it did. -/
def fnExactGossipRoundSpec : ChangeSpec := { name := "fnExactGossipRound", fn := fun _ => fun
  | [d1, d2] => { results := [.lit (.bool true)], args := [d1, d2] }
  | _ => none }
def fnExactGossipRoundRow : OpenClaim := { program := "ytodennbdfloccaa", sum := "2f89f9e4aa337abc493b21855dffa5fde625c8ca45c51499a161b4a16d108b83", func := "loop.example/g00878/laws.FnExactGossipRound", spec := "fnExactGossipRound", unfollowed := true, recurses := true, apart := false }
def FnExactGossipRoundSaid : Prop := fnExactGossipRoundRow.holds Try.pinned (OpenSpec.ofChange fnExactGossipRoundSpec)

/-- ITS FALSE NEIGHBOUR: 'it returns false'. Refute it at one input. -/
def fnExactGossipRoundWrong : ChangeSpec := { name := "fnExactGossipRound", fn := fun _ => fun
  | [d1, d2] => { results := [.lit (.bool false)], args := [d1, d2] }
  | _ => none }
def FnExactGossipRoundWrongFalsely : Prop := fnExactGossipRoundRow.holds Try.pinned (OpenSpec.ofChange fnExactGossipRoundWrong)

/- THE SECOND FORM. 'bulk': how many values and letters a reading holds, each counted each time it is reached (what is shared counts as often as it is met; a slice's spare places count too). A statement '..UptoSaid' is the law's where the arguments, and the package variables that the reading takes, are together of bulk at most 1048576: NARROWER than '..Said'. Prove '..Said' where nothing that the law and all that it calls make is longer than what came in: it says more and counts as full. Else prove '..UptoSaid'. A law counts once. -/
mutual
def uptoBulk {H : Type} : DataW H → Nat
  | .lit (.string bytes) => bytes.length + 1
  | .lit _ => 1
  | .nil => 1
  | .ptr d => uptoBulk d + 1
  | .slice elems spare => uptoBulkAll elems + uptoBulkAll spare + 1
  | .agg parts => uptoBulkAll parts + 1
  | .iface _ d => uptoBulk d + 1
  | .map entries => uptoBulkEntries entries + 1
  | .held _ => 1
def uptoBulkAll {H : Type} : List (DataW H) → Nat
  | [] => 0
  | d :: r => uptoBulk d + uptoBulkAll r
def uptoBulkEntries {H : Type} : List (Lit × DataW H) → Nat
  | [] => 0
  | x :: r => uptoBulkEntry x + uptoBulkEntries r
def uptoBulkEntry {H : Type} : Lit × DataW H → Nat
  | (.string bytes, d) => bytes.length + uptoBulk d + 1
  | (_, d) => uptoBulk d + 1
 end
def uptoSmall : (H : Type) → List (DataW H) → Bool := fun _ ds => decide (uptoBulkAll ds ≤ 1048576)
def OpenSpec.upto (s : _root_.Go.ChangeSpec) : _root_.Go.OpenSpec := { _root_.Go.OpenSpec.ofChange s with cond := some uptoSmall }

/-- 'laws.FnExactBoardLeaves', WHERE WHAT IT READS IS OF BULK AT MOST 1048576: true; the input reads as it did. -/
def fnExactBoardLeavesUptoRow : OpenClaim := { program := "ytodennbdfloccaa", sum := "2f89f9e4aa337abc493b21855dffa5fde625c8ca45c51499a161b4a16d108b83", func := "loop.example/g00878/laws.FnExactBoardLeaves", spec := "fnExactBoardLeaves", unfollowed := true, recurses := true, apart := false, narrowed := true }
def FnExactBoardLeavesUptoSaid : Prop := fnExactBoardLeavesUptoRow.holds Try.pinned (OpenSpec.upto fnExactBoardLeavesSpec)

/-- 'laws.FnExactIsValidPlan', WHERE WHAT IT READS IS OF BULK AT MOST 1048576: true; the input reads as it did. -/
def fnExactIsValidPlanUptoRow : OpenClaim := { program := "ytodennbdfloccaa", sum := "2f89f9e4aa337abc493b21855dffa5fde625c8ca45c51499a161b4a16d108b83", func := "loop.example/g00878/laws.FnExactIsValidPlan", spec := "fnExactIsValidPlan", unfollowed := true, recurses := true, apart := false, narrowed := true }
def FnExactIsValidPlanUptoSaid : Prop := fnExactIsValidPlanUptoRow.holds Try.pinned (OpenSpec.upto fnExactIsValidPlanSpec)

/-- 'laws.FnExactAuthorsOf', WHERE WHAT IT READS IS OF BULK AT MOST 1048576: true; the input reads as it did. -/
def fnExactAuthorsOfUptoRow : OpenClaim := { program := "ytodennbdfloccaa", sum := "2f89f9e4aa337abc493b21855dffa5fde625c8ca45c51499a161b4a16d108b83", func := "loop.example/g00878/laws.FnExactAuthorsOf", spec := "fnExactAuthorsOf", unfollowed := true, recurses := true, apart := false, narrowed := true }
def FnExactAuthorsOfUptoSaid : Prop := fnExactAuthorsOfUptoRow.holds Try.pinned (OpenSpec.upto fnExactAuthorsOfSpec)

/-- 'laws.FnExactAuthorSecret', WHERE WHAT IT READS IS OF BULK AT MOST 1048576: true; the input reads as it did. -/
def fnExactAuthorSecretUptoRow : OpenClaim := { program := "ytodennbdfloccaa", sum := "2f89f9e4aa337abc493b21855dffa5fde625c8ca45c51499a161b4a16d108b83", func := "loop.example/g00878/laws.FnExactAuthorSecret", spec := "fnExactAuthorSecret", unfollowed := true, recurses := true, apart := false, narrowed := true }
def FnExactAuthorSecretUptoSaid : Prop := fnExactAuthorSecretUptoRow.holds Try.pinned (OpenSpec.upto fnExactAuthorSecretSpec)

/-- 'laws.FnExactCoinsFor', WHERE WHAT IT READS IS OF BULK AT MOST 1048576: true; the input reads as it did. -/
def fnExactCoinsForUptoRow : OpenClaim := { program := "ytodennbdfloccaa", sum := "2f89f9e4aa337abc493b21855dffa5fde625c8ca45c51499a161b4a16d108b83", func := "loop.example/g00878/laws.FnExactCoinsFor", spec := "fnExactCoinsFor", unfollowed := true, recurses := true, apart := false, narrowed := true }
def FnExactCoinsForUptoSaid : Prop := fnExactCoinsForUptoRow.holds Try.pinned (OpenSpec.upto fnExactCoinsForSpec)

/-- 'laws.FnExactTrusteeShare', WHERE WHAT IT READS IS OF BULK AT MOST 1048576: true; the input reads as it did. -/
def fnExactTrusteeShareUptoRow : OpenClaim := { program := "ytodennbdfloccaa", sum := "2f89f9e4aa337abc493b21855dffa5fde625c8ca45c51499a161b4a16d108b83", func := "loop.example/g00878/laws.FnExactTrusteeShare", spec := "fnExactTrusteeShare", unfollowed := true, recurses := true, apart := false, narrowed := true }
def FnExactTrusteeShareUptoSaid : Prop := fnExactTrusteeShareUptoRow.holds Try.pinned (OpenSpec.upto fnExactTrusteeShareSpec)

/-- 'laws.FnExactJointCommits', WHERE WHAT IT READS IS OF BULK AT MOST 1048576: true; the input reads as it did. -/
def fnExactJointCommitsUptoRow : OpenClaim := { program := "ytodennbdfloccaa", sum := "2f89f9e4aa337abc493b21855dffa5fde625c8ca45c51499a161b4a16d108b83", func := "loop.example/g00878/laws.FnExactJointCommits", spec := "fnExactJointCommits", unfollowed := true, recurses := true, apart := false, narrowed := true }
def FnExactJointCommitsUptoSaid : Prop := fnExactJointCommitsUptoRow.holds Try.pinned (OpenSpec.upto fnExactJointCommitsSpec)

/-- 'laws.FnExactGossipRound', WHERE WHAT IT READS IS OF BULK AT MOST 1048576: true; the input reads as it did. -/
def fnExactGossipRoundUptoRow : OpenClaim := { program := "ytodennbdfloccaa", sum := "2f89f9e4aa337abc493b21855dffa5fde625c8ca45c51499a161b4a16d108b83", func := "loop.example/g00878/laws.FnExactGossipRound", spec := "fnExactGossipRound", unfollowed := true, recurses := true, apart := false, narrowed := true }
def FnExactGossipRoundUptoSaid : Prop := fnExactGossipRoundUptoRow.holds Try.pinned (OpenSpec.upto fnExactGossipRoundSpec)

end Rows
end Go.Proofs.Ytodennbdfloccaa

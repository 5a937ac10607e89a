/-
  No cell of these rows narrows 'for every input' (looked for: loops, veiled, ifaces, maps, wideKeys, modest, calm, conditions, laid).
  DERIVED. THE GIVEN ROWS OF THIS SEAT. 9 by the template 'for every input the law returns true; each argument reads behind the call as it read before'; 0 by the template 'total and deterministic' (their statements: YtocnfoagneaniaaTotals.lean).
  GIVEN WITH THE SEED: the statements are not yours to turn. If you find one false, say at which input.
  Laid BY PROGRAM, IN A SANDBOX (cutbox-rows.mjs): the forced cells as the released guide's own fill.sh prints them over the translation b1cfc039c9917491… (all of the seat's roots in one cut). By AI agents, Wed Nov 11 2026. No macro, syntax, notation, axiom, sorry.
-/
import Derived.Test.YtocnfoagneaniaaChecked
import GoSem.Claim
import GoSem.ClaimJoined
import GoSem.ClaimMapViews
import Derived.JoinedTies
import Derived.KernelRfl
namespace Go.Proofs.Ytocnfoagneaniaa
/- THE CELL 'sum', in the pinned program and in every row, IS THE sha256 OF THE DUMP (.gsa) THAT YtocnfoagneaniaaProg.lean LOADS. Nothing in Lean hashes anything: it is a label: what it is worth is what the hold of that sum in a sandbox is worth. -/
noncomputable def Try.pinned : Pinned := { name := "ytocnfoagneaniaa", sum := "b1cfc039c9917491efde03a26213b280d1fe48a9a83f54219b39057b061a45e4", checked := Try.checked }
namespace Rows
def none {H : Type} : Left H := { results := [], args := [] }

/-- 'laws.FnExactRootOfFrontier': WHATEVER THE INPUT: true; the input reads as it did. -/
def fnExactRootOfFrontierSpec : ChangeSpec := { name := "fnExactRootOfFrontier", fn := fun _ => fun
  | [d] => { results := [.lit (.bool true)], args := [d] }
  | _ => none }
def fnExactRootOfFrontierRow : OpenClaim := { program := "ytocnfoagneaniaa", sum := "b1cfc039c9917491efde03a26213b280d1fe48a9a83f54219b39057b061a45e4", func := "loop.example/g00878/laws.FnExactRootOfFrontier", spec := "fnExactRootOfFrontier", unfollowed := true, recurses := true, apart := false }
def FnExactRootOfFrontierSaid : Prop := fnExactRootOfFrontierRow.holds Try.pinned (OpenSpec.ofChange fnExactRootOfFrontierSpec)

/-- ITS FALSE NEIGHBOUR: 'it returns false'. Refute it at one input. -/
def fnExactRootOfFrontierWrong : ChangeSpec := { name := "fnExactRootOfFrontier", fn := fun _ => fun
  | [d] => { results := [.lit (.bool false)], args := [d] }
  | _ => none }
def FnExactRootOfFrontierWrongFalsely : Prop := fnExactRootOfFrontierRow.holds Try.pinned (OpenSpec.ofChange fnExactRootOfFrontierWrong)

/-- 'laws.FnExactPushLeaf': WHATEVER THE INPUT: true; the input reads as it did. -/
def fnExactPushLeafSpec : ChangeSpec := { name := "fnExactPushLeaf", fn := fun _ => fun
  | [d1, d2, d3] => { results := [.lit (.bool true)], args := [d1, d2, d3] }
  | _ => none }
def fnExactPushLeafRow : OpenClaim := { program := "ytocnfoagneaniaa", sum := "b1cfc039c9917491efde03a26213b280d1fe48a9a83f54219b39057b061a45e4", func := "loop.example/g00878/laws.FnExactPushLeaf", spec := "fnExactPushLeaf", unfollowed := true, recurses := true, apart := false }
def FnExactPushLeafSaid : Prop := fnExactPushLeafRow.holds Try.pinned (OpenSpec.ofChange fnExactPushLeafSpec)

/-- ITS FALSE NEIGHBOUR: 'it returns false'. Refute it at one input. -/
def fnExactPushLeafWrong : ChangeSpec := { name := "fnExactPushLeaf", fn := fun _ => fun
  | [d1, d2, d3] => { results := [.lit (.bool false)], args := [d1, d2, d3] }
  | _ => none }
def FnExactPushLeafWrongFalsely : Prop := fnExactPushLeafRow.holds Try.pinned (OpenSpec.ofChange fnExactPushLeafWrong)

/-- 'laws.FnExactVerifyConsistency': WHATEVER THE INPUT: true; the input reads as it did. -/
def fnExactVerifyConsistencySpec : ChangeSpec := { name := "fnExactVerifyConsistency", fn := fun _ => fun
  | [d1, d2, d3, d4, d5] => { results := [.lit (.bool true)], args := [d1, d2, d3, d4, d5] }
  | _ => none }
def fnExactVerifyConsistencyRow : OpenClaim := { program := "ytocnfoagneaniaa", sum := "b1cfc039c9917491efde03a26213b280d1fe48a9a83f54219b39057b061a45e4", func := "loop.example/g00878/laws.FnExactVerifyConsistency", spec := "fnExactVerifyConsistency", unfollowed := true, recurses := true, apart := false }
def FnExactVerifyConsistencySaid : Prop := fnExactVerifyConsistencyRow.holds Try.pinned (OpenSpec.ofChange fnExactVerifyConsistencySpec)

/-- ITS FALSE NEIGHBOUR: 'it returns false'. Refute it at one input. -/
def fnExactVerifyConsistencyWrong : ChangeSpec := { name := "fnExactVerifyConsistency", fn := fun _ => fun
  | [d1, d2, d3, d4, d5] => { results := [.lit (.bool false)], args := [d1, d2, d3, d4, d5] }
  | _ => none }
def FnExactVerifyConsistencyWrongFalsely : Prop := fnExactVerifyConsistencyRow.holds Try.pinned (OpenSpec.ofChange fnExactVerifyConsistencyWrong)

/-- 'laws.FnExactFrontierOf': WHATEVER THE INPUT: true; the input reads as it did. -/
def fnExactFrontierOfSpec : ChangeSpec := { name := "fnExactFrontierOf", fn := fun _ => fun
  | [d] => { results := [.lit (.bool true)], args := [d] }
  | _ => none }
def fnExactFrontierOfRow : OpenClaim := { program := "ytocnfoagneaniaa", sum := "b1cfc039c9917491efde03a26213b280d1fe48a9a83f54219b39057b061a45e4", func := "loop.example/g00878/laws.FnExactFrontierOf", spec := "fnExactFrontierOf", unfollowed := true, recurses := true, apart := false }
def FnExactFrontierOfSaid : Prop := fnExactFrontierOfRow.holds Try.pinned (OpenSpec.ofChange fnExactFrontierOfSpec)

/-- ITS FALSE NEIGHBOUR: 'it returns false'. Refute it at one input. -/
def fnExactFrontierOfWrong : ChangeSpec := { name := "fnExactFrontierOf", fn := fun _ => fun
  | [d] => { results := [.lit (.bool false)], args := [d] }
  | _ => none }
def FnExactFrontierOfWrongFalsely : Prop := fnExactFrontierOfRow.holds Try.pinned (OpenSpec.ofChange fnExactFrontierOfWrong)

/-- 'laws.FnExactInclusionPath': WHATEVER THE INPUT: true; the input reads as it did. -/
def fnExactInclusionPathSpec : ChangeSpec := { name := "fnExactInclusionPath", fn := fun _ => fun
  | [d1, d2] => { results := [.lit (.bool true)], args := [d1, d2] }
  | _ => none }
def fnExactInclusionPathRow : OpenClaim := { program := "ytocnfoagneaniaa", sum := "b1cfc039c9917491efde03a26213b280d1fe48a9a83f54219b39057b061a45e4", func := "loop.example/g00878/laws.FnExactInclusionPath", spec := "fnExactInclusionPath", unfollowed := true, recurses := true, apart := false }
def FnExactInclusionPathSaid : Prop := fnExactInclusionPathRow.holds Try.pinned (OpenSpec.ofChange fnExactInclusionPathSpec)

/-- ITS FALSE NEIGHBOUR: 'it returns false'. Refute it at one input. -/
def fnExactInclusionPathWrong : ChangeSpec := { name := "fnExactInclusionPath", fn := fun _ => fun
  | [d1, d2] => { results := [.lit (.bool false)], args := [d1, d2] }
  | _ => none }
def FnExactInclusionPathWrongFalsely : Prop := fnExactInclusionPathRow.holds Try.pinned (OpenSpec.ofChange fnExactInclusionPathWrong)

/-- 'laws.FnExactConsistencyPath': WHATEVER THE INPUT: true; the input reads as it did. -/
def fnExactConsistencyPathSpec : ChangeSpec := { name := "fnExactConsistencyPath", fn := fun _ => fun
  | [d1, d2] => { results := [.lit (.bool true)], args := [d1, d2] }
  | _ => none }
def fnExactConsistencyPathRow : OpenClaim := { program := "ytocnfoagneaniaa", sum := "b1cfc039c9917491efde03a26213b280d1fe48a9a83f54219b39057b061a45e4", func := "loop.example/g00878/laws.FnExactConsistencyPath", spec := "fnExactConsistencyPath", unfollowed := true, recurses := true, apart := false }
def FnExactConsistencyPathSaid : Prop := fnExactConsistencyPathRow.holds Try.pinned (OpenSpec.ofChange fnExactConsistencyPathSpec)

/-- ITS FALSE NEIGHBOUR: 'it returns false'. Refute it at one input. -/
def fnExactConsistencyPathWrong : ChangeSpec := { name := "fnExactConsistencyPath", fn := fun _ => fun
  | [d1, d2] => { results := [.lit (.bool false)], args := [d1, d2] }
  | _ => none }
def FnExactConsistencyPathWrongFalsely : Prop := fnExactConsistencyPathRow.holds Try.pinned (OpenSpec.ofChange fnExactConsistencyPathWrong)

/-- 'laws.FnInclusion': WHATEVER THE INPUT: true; the input reads as it did. -/
def fnInclusionSpec : ChangeSpec := { name := "fnInclusion", fn := fun _ => fun
  | [d1, d2] => { results := [.lit (.bool true)], args := [d1, d2] }
  | _ => none }
def fnInclusionRow : OpenClaim := { program := "ytocnfoagneaniaa", sum := "b1cfc039c9917491efde03a26213b280d1fe48a9a83f54219b39057b061a45e4", func := "loop.example/g00878/laws.FnInclusion", spec := "fnInclusion", unfollowed := true, recurses := true, apart := false }
def FnInclusionSaid : Prop := fnInclusionRow.holds Try.pinned (OpenSpec.ofChange fnInclusionSpec)

/-- ITS FALSE NEIGHBOUR: 'it returns false'. Refute it at one input. -/
def fnInclusionWrong : ChangeSpec := { name := "fnInclusion", fn := fun _ => fun
  | [d1, d2] => { results := [.lit (.bool false)], args := [d1, d2] }
  | _ => none }
def FnInclusionWrongFalsely : Prop := fnInclusionRow.holds Try.pinned (OpenSpec.ofChange fnInclusionWrong)

/-- 'laws.FnConsistency': WHATEVER THE INPUT: true; the input reads as it did. -/
def fnConsistencySpec : ChangeSpec := { name := "fnConsistency", fn := fun _ => fun
  | [d1, d2] => { results := [.lit (.bool true)], args := [d1, d2] }
  | _ => none }
def fnConsistencyRow : OpenClaim := { program := "ytocnfoagneaniaa", sum := "b1cfc039c9917491efde03a26213b280d1fe48a9a83f54219b39057b061a45e4", func := "loop.example/g00878/laws.FnConsistency", spec := "fnConsistency", unfollowed := true, recurses := true, apart := false }
def FnConsistencySaid : Prop := fnConsistencyRow.holds Try.pinned (OpenSpec.ofChange fnConsistencySpec)

/-- ITS FALSE NEIGHBOUR: 'it returns false'. Refute it at one input. -/
def fnConsistencyWrong : ChangeSpec := { name := "fnConsistency", fn := fun _ => fun
  | [d1, d2] => { results := [.lit (.bool false)], args := [d1, d2] }
  | _ => none }
def FnConsistencyWrongFalsely : Prop := fnConsistencyRow.holds Try.pinned (OpenSpec.ofChange fnConsistencyWrong)

/-- 'laws.FnFrontier': WHATEVER THE INPUT: true; the input reads as it did. -/
def fnFrontierSpec : ChangeSpec := { name := "fnFrontier", fn := fun _ => fun
  | [d1, d2] => { results := [.lit (.bool true)], args := [d1, d2] }
  | _ => none }
def fnFrontierRow : OpenClaim := { program := "ytocnfoagneaniaa", sum := "b1cfc039c9917491efde03a26213b280d1fe48a9a83f54219b39057b061a45e4", func := "loop.example/g00878/laws.FnFrontier", spec := "fnFrontier", unfollowed := true, recurses := true, apart := false }
def FnFrontierSaid : Prop := fnFrontierRow.holds Try.pinned (OpenSpec.ofChange fnFrontierSpec)

/-- ITS FALSE NEIGHBOUR: 'it returns false'. Refute it at one input. -/
def fnFrontierWrong : ChangeSpec := { name := "fnFrontier", fn := fun _ => fun
  | [d1, d2] => { results := [.lit (.bool false)], args := [d1, d2] }
  | _ => none }
def FnFrontierWrongFalsely : Prop := fnFrontierRow.holds Try.pinned (OpenSpec.ofChange fnFrontierWrong)

/- THE SECOND FORM. 'bulk': how many values and letters a reading holds, each counted each time it is reached (what is shared counts as often as it is met; a slice's spare places count too). A statement '..UptoSaid' is the law's where the arguments, and the package variables that the reading takes, are together of bulk at most 1048576: NARROWER than '..Said'. Prove '..Said' where nothing that the law and all that it calls make is longer than what came in: it says more and counts as full. Else prove '..UptoSaid'. A law counts once. -/
mutual
def uptoBulk {H : Type} : DataW H → Nat
  | .lit (.string bytes) => bytes.length + 1
  | .lit _ => 1
  | .nil => 1
  | .ptr d => uptoBulk d + 1
  | .slice elems spare => uptoBulkAll elems + uptoBulkAll spare + 1
  | .agg parts => uptoBulkAll parts + 1
  | .iface _ d => uptoBulk d + 1
  | .map entries => uptoBulkEntries entries + 1
  | .held _ => 1
def uptoBulkAll {H : Type} : List (DataW H) → Nat
  | [] => 0
  | d :: r => uptoBulk d + uptoBulkAll r
def uptoBulkEntries {H : Type} : List (Lit × DataW H) → Nat
  | [] => 0
  | x :: r => uptoBulkEntry x + uptoBulkEntries r
def uptoBulkEntry {H : Type} : Lit × DataW H → Nat
  | (.string bytes, d) => bytes.length + uptoBulk d + 1
  | (_, d) => uptoBulk d + 1
 end
def uptoSmall : (H : Type) → List (DataW H) → Bool := fun _ ds => decide (uptoBulkAll ds ≤ 1048576)
def OpenSpec.upto (s : _root_.Go.ChangeSpec) : _root_.Go.OpenSpec := { _root_.Go.OpenSpec.ofChange s with cond := some uptoSmall }

/-- 'laws.FnExactRootOfFrontier', WHERE WHAT IT READS IS OF BULK AT MOST 1048576: true; the input reads as it did. -/
def fnExactRootOfFrontierUptoRow : OpenClaim := { program := "ytocnfoagneaniaa", sum := "b1cfc039c9917491efde03a26213b280d1fe48a9a83f54219b39057b061a45e4", func := "loop.example/g00878/laws.FnExactRootOfFrontier", spec := "fnExactRootOfFrontier", unfollowed := true, recurses := true, apart := false, narrowed := true }
def FnExactRootOfFrontierUptoSaid : Prop := fnExactRootOfFrontierUptoRow.holds Try.pinned (OpenSpec.upto fnExactRootOfFrontierSpec)

/-- 'laws.FnExactPushLeaf', WHERE WHAT IT READS IS OF BULK AT MOST 1048576: true; the input reads as it did. -/
def fnExactPushLeafUptoRow : OpenClaim := { program := "ytocnfoagneaniaa", sum := "b1cfc039c9917491efde03a26213b280d1fe48a9a83f54219b39057b061a45e4", func := "loop.example/g00878/laws.FnExactPushLeaf", spec := "fnExactPushLeaf", unfollowed := true, recurses := true, apart := false, narrowed := true }
def FnExactPushLeafUptoSaid : Prop := fnExactPushLeafUptoRow.holds Try.pinned (OpenSpec.upto fnExactPushLeafSpec)

/-- 'laws.FnExactVerifyConsistency', WHERE WHAT IT READS IS OF BULK AT MOST 1048576: true; the input reads as it did. -/
def fnExactVerifyConsistencyUptoRow : OpenClaim := { program := "ytocnfoagneaniaa", sum := "b1cfc039c9917491efde03a26213b280d1fe48a9a83f54219b39057b061a45e4", func := "loop.example/g00878/laws.FnExactVerifyConsistency", spec := "fnExactVerifyConsistency", unfollowed := true, recurses := true, apart := false, narrowed := true }
def FnExactVerifyConsistencyUptoSaid : Prop := fnExactVerifyConsistencyUptoRow.holds Try.pinned (OpenSpec.upto fnExactVerifyConsistencySpec)

/-- 'laws.FnExactFrontierOf', WHERE WHAT IT READS IS OF BULK AT MOST 1048576: true; the input reads as it did. -/
def fnExactFrontierOfUptoRow : OpenClaim := { program := "ytocnfoagneaniaa", sum := "b1cfc039c9917491efde03a26213b280d1fe48a9a83f54219b39057b061a45e4", func := "loop.example/g00878/laws.FnExactFrontierOf", spec := "fnExactFrontierOf", unfollowed := true, recurses := true, apart := false, narrowed := true }
def FnExactFrontierOfUptoSaid : Prop := fnExactFrontierOfUptoRow.holds Try.pinned (OpenSpec.upto fnExactFrontierOfSpec)

/-- 'laws.FnExactInclusionPath', WHERE WHAT IT READS IS OF BULK AT MOST 1048576: true; the input reads as it did. -/
def fnExactInclusionPathUptoRow : OpenClaim := { program := "ytocnfoagneaniaa", sum := "b1cfc039c9917491efde03a26213b280d1fe48a9a83f54219b39057b061a45e4", func := "loop.example/g00878/laws.FnExactInclusionPath", spec := "fnExactInclusionPath", unfollowed := true, recurses := true, apart := false, narrowed := true }
def FnExactInclusionPathUptoSaid : Prop := fnExactInclusionPathUptoRow.holds Try.pinned (OpenSpec.upto fnExactInclusionPathSpec)

/-- 'laws.FnExactConsistencyPath', WHERE WHAT IT READS IS OF BULK AT MOST 1048576: true; the input reads as it did. -/
def fnExactConsistencyPathUptoRow : OpenClaim := { program := "ytocnfoagneaniaa", sum := "b1cfc039c9917491efde03a26213b280d1fe48a9a83f54219b39057b061a45e4", func := "loop.example/g00878/laws.FnExactConsistencyPath", spec := "fnExactConsistencyPath", unfollowed := true, recurses := true, apart := false, narrowed := true }
def FnExactConsistencyPathUptoSaid : Prop := fnExactConsistencyPathUptoRow.holds Try.pinned (OpenSpec.upto fnExactConsistencyPathSpec)

/-- 'laws.FnInclusion', WHERE WHAT IT READS IS OF BULK AT MOST 1048576: true; the input reads as it did. -/
def fnInclusionUptoRow : OpenClaim := { program := "ytocnfoagneaniaa", sum := "b1cfc039c9917491efde03a26213b280d1fe48a9a83f54219b39057b061a45e4", func := "loop.example/g00878/laws.FnInclusion", spec := "fnInclusion", unfollowed := true, recurses := true, apart := false, narrowed := true }
def FnInclusionUptoSaid : Prop := fnInclusionUptoRow.holds Try.pinned (OpenSpec.upto fnInclusionSpec)

/-- 'laws.FnConsistency', WHERE WHAT IT READS IS OF BULK AT MOST 1048576: true; the input reads as it did. -/
def fnConsistencyUptoRow : OpenClaim := { program := "ytocnfoagneaniaa", sum := "b1cfc039c9917491efde03a26213b280d1fe48a9a83f54219b39057b061a45e4", func := "loop.example/g00878/laws.FnConsistency", spec := "fnConsistency", unfollowed := true, recurses := true, apart := false, narrowed := true }
def FnConsistencyUptoSaid : Prop := fnConsistencyUptoRow.holds Try.pinned (OpenSpec.upto fnConsistencySpec)

/-- 'laws.FnFrontier', WHERE WHAT IT READS IS OF BULK AT MOST 1048576: true; the input reads as it did. -/
def fnFrontierUptoRow : OpenClaim := { program := "ytocnfoagneaniaa", sum := "b1cfc039c9917491efde03a26213b280d1fe48a9a83f54219b39057b061a45e4", func := "loop.example/g00878/laws.FnFrontier", spec := "fnFrontier", unfollowed := true, recurses := true, apart := false, narrowed := true }
def FnFrontierUptoSaid : Prop := fnFrontierUptoRow.holds Try.pinned (OpenSpec.upto fnFrontierSpec)

end Rows
end Go.Proofs.Ytocnfoagneaniaa

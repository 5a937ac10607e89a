/-
  No cell of these rows narrows 'for every input' (looked for: loops, veiled, ifaces, maps, wideKeys, modest, calm, conditions, laid).
  DERIVED. THE GIVEN ROWS OF THIS SEAT. 4 by the template 'for every input the law returns true; each argument reads behind the call as it read before'; 0 by the template 'total and deterministic' (their statements: YtacpnphfopmofaaTotals.lean).
  GIVEN WITH THE SEED: the statements are not yours to turn. If you find one false, say at which input.
  Laid BY PROGRAM, IN A SANDBOX (cutbox-rows.mjs): the forced cells as the released guide's own fill.sh prints them over the translation f2ec0ef7880dbee7… (all of the seat's roots in one cut). By AI agents, Wed Nov 11 2026. No macro, syntax, notation, axiom, sorry.
-/
import Derived.Test.YtacpnphfopmofaaChecked
import GoSem.Claim
import GoSem.ClaimJoined
import GoSem.ClaimMapViews
import Derived.JoinedTies
import Derived.KernelRfl
namespace Go.Proofs.Ytacpnphfopmofaa
/- THE CELL 'sum', in the pinned program and in every row, IS THE sha256 OF THE DUMP (.gsa) THAT YtacpnphfopmofaaProg.lean LOADS. Nothing in Lean hashes anything: it is a label: what it is worth is what the hold of that sum in a sandbox is worth. -/
noncomputable def Try.pinned : Pinned := { name := "ytacpnphfopmofaa", sum := "f2ec0ef7880dbee777fa39e6fc13c0d760a5f83413249b0898182ae91773776f", checked := Try.checked }
namespace Rows
def none {H : Type} : Left H := { results := [], args := [] }

/-- 'laws.FnSimulation': WHATEVER THE INPUT: true; the input reads as it did. -/
def fnSimulationSpec : ChangeSpec := { name := "fnSimulation", fn := fun _ => fun
  | [d1, d2] => { results := [.lit (.bool true)], args := [d1, d2] }
  | _ => none }
def fnSimulationRow : OpenClaim := { program := "ytacpnphfopmofaa", sum := "f2ec0ef7880dbee777fa39e6fc13c0d760a5f83413249b0898182ae91773776f", func := "loop.example/g00878/laws.FnSimulation", spec := "fnSimulation", unfollowed := true, recurses := true, apart := false }
def FnSimulationSaid : Prop := fnSimulationRow.holds Try.pinned (OpenSpec.ofChange fnSimulationSpec)

/-- ITS FALSE NEIGHBOUR: 'it returns false'. Refute it at one input. -/
def fnSimulationWrong : ChangeSpec := { name := "fnSimulation", fn := fun _ => fun
  | [d1, d2] => { results := [.lit (.bool false)], args := [d1, d2] }
  | _ => none }
def FnSimulationWrongFalsely : Prop := fnSimulationRow.holds Try.pinned (OpenSpec.ofChange fnSimulationWrong)

/-- 'laws.FnPassing': WHATEVER THE INPUT: true; the input reads as it did. -/
def fnPassingSpec : ChangeSpec := { name := "fnPassing", fn := fun _ => fun
  | [d1, d2] => { results := [.lit (.bool true)], args := [d1, d2] }
  | _ => none }
def fnPassingRow : OpenClaim := { program := "ytacpnphfopmofaa", sum := "f2ec0ef7880dbee777fa39e6fc13c0d760a5f83413249b0898182ae91773776f", func := "loop.example/g00878/laws.FnPassing", spec := "fnPassing", unfollowed := true, recurses := true, apart := false }
def FnPassingSaid : Prop := fnPassingRow.holds Try.pinned (OpenSpec.ofChange fnPassingSpec)

/-- ITS FALSE NEIGHBOUR: 'it returns false'. Refute it at one input. -/
def fnPassingWrong : ChangeSpec := { name := "fnPassing", fn := fun _ => fun
  | [d1, d2] => { results := [.lit (.bool false)], args := [d1, d2] }
  | _ => none }
def FnPassingWrongFalsely : Prop := fnPassingRow.holds Try.pinned (OpenSpec.ofChange fnPassingWrong)

/-- 'laws.FnDealings': WHATEVER THE INPUT: true; the input reads as it did. -/
def fnDealingsSpec : ChangeSpec := { name := "fnDealings", fn := fun _ => fun
  | [d1, d2] => { results := [.lit (.bool true)], args := [d1, d2] }
  | _ => none }
def fnDealingsRow : OpenClaim := { program := "ytacpnphfopmofaa", sum := "f2ec0ef7880dbee777fa39e6fc13c0d760a5f83413249b0898182ae91773776f", func := "loop.example/g00878/laws.FnDealings", spec := "fnDealings", unfollowed := true, recurses := true, apart := false }
def FnDealingsSaid : Prop := fnDealingsRow.holds Try.pinned (OpenSpec.ofChange fnDealingsSpec)

/-- ITS FALSE NEIGHBOUR: 'it returns false'. Refute it at one input. -/
def fnDealingsWrong : ChangeSpec := { name := "fnDealings", fn := fun _ => fun
  | [d1, d2] => { results := [.lit (.bool false)], args := [d1, d2] }
  | _ => none }
def FnDealingsWrongFalsely : Prop := fnDealingsRow.holds Try.pinned (OpenSpec.ofChange fnDealingsWrong)

/-- 'laws.FnKeyGeneration': WHATEVER THE INPUT: true; the input reads as it did. -/
def fnKeyGenerationSpec : ChangeSpec := { name := "fnKeyGeneration", fn := fun _ => fun
  | [d1, d2] => { results := [.lit (.bool true)], args := [d1, d2] }
  | _ => none }
def fnKeyGenerationRow : OpenClaim := { program := "ytacpnphfopmofaa", sum := "f2ec0ef7880dbee777fa39e6fc13c0d760a5f83413249b0898182ae91773776f", func := "loop.example/g00878/laws.FnKeyGeneration", spec := "fnKeyGeneration", unfollowed := true, recurses := true, apart := false }
def FnKeyGenerationSaid : Prop := fnKeyGenerationRow.holds Try.pinned (OpenSpec.ofChange fnKeyGenerationSpec)

/-- ITS FALSE NEIGHBOUR: 'it returns false'. Refute it at one input. -/
def fnKeyGenerationWrong : ChangeSpec := { name := "fnKeyGeneration", fn := fun _ => fun
  | [d1, d2] => { results := [.lit (.bool false)], args := [d1, d2] }
  | _ => none }
def FnKeyGenerationWrongFalsely : Prop := fnKeyGenerationRow.holds Try.pinned (OpenSpec.ofChange fnKeyGenerationWrong)

/- THE SECOND FORM. 'bulk': how many values and letters a reading holds, each counted each time it is reached (what is shared counts as often as it is met; a slice's spare places count too). A statement '..UptoSaid' is the law's where the arguments, and the package variables that the reading takes, are together of bulk at most 1048576: NARROWER than '..Said'. Prove '..Said' where nothing that the law and all that it calls make is longer than what came in: it says more and counts as full. Else prove '..UptoSaid'. A law counts once. -/
mutual
def uptoBulk {H : Type} : DataW H → Nat
  | .lit (.string bytes) => bytes.length + 1
  | .lit _ => 1
  | .nil => 1
  | .ptr d => uptoBulk d + 1
  | .slice elems spare => uptoBulkAll elems + uptoBulkAll spare + 1
  | .agg parts => uptoBulkAll parts + 1
  | .iface _ d => uptoBulk d + 1
  | .map entries => uptoBulkEntries entries + 1
  | .held _ => 1
def uptoBulkAll {H : Type} : List (DataW H) → Nat
  | [] => 0
  | d :: r => uptoBulk d + uptoBulkAll r
def uptoBulkEntries {H : Type} : List (Lit × DataW H) → Nat
  | [] => 0
  | x :: r => uptoBulkEntry x + uptoBulkEntries r
def uptoBulkEntry {H : Type} : Lit × DataW H → Nat
  | (.string bytes, d) => bytes.length + uptoBulk d + 1
  | (_, d) => uptoBulk d + 1
 end
def uptoSmall : (H : Type) → List (DataW H) → Bool := fun _ ds => decide (uptoBulkAll ds ≤ 1048576)
def OpenSpec.upto (s : _root_.Go.ChangeSpec) : _root_.Go.OpenSpec := { _root_.Go.OpenSpec.ofChange s with cond := some uptoSmall }

/-- 'laws.FnSimulation', WHERE WHAT IT READS IS OF BULK AT MOST 1048576: true; the input reads as it did. -/
def fnSimulationUptoRow : OpenClaim := { program := "ytacpnphfopmofaa", sum := "f2ec0ef7880dbee777fa39e6fc13c0d760a5f83413249b0898182ae91773776f", func := "loop.example/g00878/laws.FnSimulation", spec := "fnSimulation", unfollowed := true, recurses := true, apart := false, narrowed := true }
def FnSimulationUptoSaid : Prop := fnSimulationUptoRow.holds Try.pinned (OpenSpec.upto fnSimulationSpec)

/-- 'laws.FnPassing', WHERE WHAT IT READS IS OF BULK AT MOST 1048576: true; the input reads as it did. -/
def fnPassingUptoRow : OpenClaim := { program := "ytacpnphfopmofaa", sum := "f2ec0ef7880dbee777fa39e6fc13c0d760a5f83413249b0898182ae91773776f", func := "loop.example/g00878/laws.FnPassing", spec := "fnPassing", unfollowed := true, recurses := true, apart := false, narrowed := true }
def FnPassingUptoSaid : Prop := fnPassingUptoRow.holds Try.pinned (OpenSpec.upto fnPassingSpec)

/-- 'laws.FnDealings', WHERE WHAT IT READS IS OF BULK AT MOST 1048576: true; the input reads as it did. -/
def fnDealingsUptoRow : OpenClaim := { program := "ytacpnphfopmofaa", sum := "f2ec0ef7880dbee777fa39e6fc13c0d760a5f83413249b0898182ae91773776f", func := "loop.example/g00878/laws.FnDealings", spec := "fnDealings", unfollowed := true, recurses := true, apart := false, narrowed := true }
def FnDealingsUptoSaid : Prop := fnDealingsUptoRow.holds Try.pinned (OpenSpec.upto fnDealingsSpec)

/-- 'laws.FnKeyGeneration', WHERE WHAT IT READS IS OF BULK AT MOST 1048576: true; the input reads as it did. -/
def fnKeyGenerationUptoRow : OpenClaim := { program := "ytacpnphfopmofaa", sum := "f2ec0ef7880dbee777fa39e6fc13c0d760a5f83413249b0898182ae91773776f", func := "loop.example/g00878/laws.FnKeyGeneration", spec := "fnKeyGeneration", unfollowed := true, recurses := true, apart := false, narrowed := true }
def FnKeyGenerationUptoSaid : Prop := fnKeyGenerationUptoRow.holds Try.pinned (OpenSpec.upto fnKeyGenerationSpec)

end Rows
end Go.Proofs.Ytacpnphfopmofaa

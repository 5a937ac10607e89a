/-
  No cell of these rows narrows 'for every input' (looked for: loops, veiled, ifaces, maps, wideKeys, modest, calm, conditions, laid).
  DERIVED. THE GIVEN ROWS OF THIS SEAT. 4 by the template 'for every input the law returns true; each argument reads behind the call as it read before'; 0 by the template 'total and deterministic' (their statements: YtodennbdfloccaaGreatTotals.lean).
  GIVEN WITH THE SEED: the statements are not yours to turn. If you find one false, say at which input.
  Laid BY PROGRAM, IN A SANDBOX (cutbox-rows.mjs): the forced cells as the released guide's own fill.sh prints them over the translation c652b430fcb1a90e… (all of the seat's roots in one cut). By AI agents, Wed Nov 11 2026. No macro, syntax, notation, axiom, sorry.
-/
import Derived.Test.YtodennbdfloccaaGreatChecked
import GoSem.Claim
import GoSem.ClaimJoined
import GoSem.ClaimMapViews
import Derived.JoinedTies
import Derived.KernelRfl
namespace Go.Proofs.YtodennbdfloccaaGreat
/- THE CELL 'sum', in the pinned program and in every row, IS THE sha256 OF THE DUMP (.gsa) THAT YtodennbdfloccaaGreatProg.lean LOADS. Nothing in Lean hashes anything: it is a label: what it is worth is what the hold of that sum in a sandbox is worth. -/
noncomputable def Tryz.pinned : Pinned := { name := "ytodennbdfloccaagreat", sum := "c652b430fcb1a90ee0fdd300f804fb689ec6e79eff5e15fbfdb716de19c6689c", checked := Tryz.checked }
namespace Rows
def none {H : Type} : Left H := { results := [], args := [] }

/-- 'laws.FnExactCheckHead': WHATEVER THE INPUT: true; the input reads as it did. -/
def fnExactCheckHeadSpec : ChangeSpec := { name := "fnExactCheckHead", fn := fun _ => fun
  | [d1, d2, d3] => { results := [.lit (.bool true)], args := [d1, d2, d3] }
  | _ => none }
def fnExactCheckHeadRow : OpenClaim := { program := "ytodennbdfloccaagreat", sum := "c652b430fcb1a90ee0fdd300f804fb689ec6e79eff5e15fbfdb716de19c6689c", func := "loop.example/g00878/laws.FnExactCheckHead", spec := "fnExactCheckHead", unfollowed := true, recurses := true, apart := false }
def FnExactCheckHeadSaid : Prop := fnExactCheckHeadRow.holds Tryz.pinned (OpenSpec.ofChange fnExactCheckHeadSpec)

/-- ITS FALSE NEIGHBOUR: 'it returns false'. Refute it at one input. -/
def fnExactCheckHeadWrong : ChangeSpec := { name := "fnExactCheckHead", fn := fun _ => fun
  | [d1, d2, d3] => { results := [.lit (.bool false)], args := [d1, d2, d3] }
  | _ => none }
def FnExactCheckHeadWrongFalsely : Prop := fnExactCheckHeadRow.holds Tryz.pinned (OpenSpec.ofChange fnExactCheckHeadWrong)

/-- 'laws.FnExactFirstWrongHead': WHATEVER THE INPUT: true; the input reads as it did. -/
def fnExactFirstWrongHeadSpec : ChangeSpec := { name := "fnExactFirstWrongHead", fn := fun _ => fun
  | [d1, d2, d3] => { results := [.lit (.bool true)], args := [d1, d2, d3] }
  | _ => none }
def fnExactFirstWrongHeadRow : OpenClaim := { program := "ytodennbdfloccaagreat", sum := "c652b430fcb1a90ee0fdd300f804fb689ec6e79eff5e15fbfdb716de19c6689c", func := "loop.example/g00878/laws.FnExactFirstWrongHead", spec := "fnExactFirstWrongHead", unfollowed := true, recurses := true, apart := false }
def FnExactFirstWrongHeadSaid : Prop := fnExactFirstWrongHeadRow.holds Tryz.pinned (OpenSpec.ofChange fnExactFirstWrongHeadSpec)

/-- ITS FALSE NEIGHBOUR: 'it returns false'. Refute it at one input. -/
def fnExactFirstWrongHeadWrong : ChangeSpec := { name := "fnExactFirstWrongHead", fn := fun _ => fun
  | [d1, d2, d3] => { results := [.lit (.bool false)], args := [d1, d2, d3] }
  | _ => none }
def FnExactFirstWrongHeadWrongFalsely : Prop := fnExactFirstWrongHeadRow.holds Tryz.pinned (OpenSpec.ofChange fnExactFirstWrongHeadWrong)

/-- 'laws.FnExactFindFork': WHATEVER THE INPUT: true; the input reads as it did. -/
def fnExactFindForkSpec : ChangeSpec := { name := "fnExactFindFork", fn := fun _ => fun
  | [d1, d2, d3] => { results := [.lit (.bool true)], args := [d1, d2, d3] }
  | _ => none }
def fnExactFindForkRow : OpenClaim := { program := "ytodennbdfloccaagreat", sum := "c652b430fcb1a90ee0fdd300f804fb689ec6e79eff5e15fbfdb716de19c6689c", func := "loop.example/g00878/laws.FnExactFindFork", spec := "fnExactFindFork", unfollowed := true, recurses := true, apart := false }
def FnExactFindForkSaid : Prop := fnExactFindForkRow.holds Tryz.pinned (OpenSpec.ofChange fnExactFindForkSpec)

/-- ITS FALSE NEIGHBOUR: 'it returns false'. Refute it at one input. -/
def fnExactFindForkWrong : ChangeSpec := { name := "fnExactFindFork", fn := fun _ => fun
  | [d1, d2, d3] => { results := [.lit (.bool false)], args := [d1, d2, d3] }
  | _ => none }
def FnExactFindForkWrongFalsely : Prop := fnExactFindForkRow.holds Tryz.pinned (OpenSpec.ofChange fnExactFindForkWrong)

/-- 'laws.FnExactRoundsToDetect': WHATEVER THE INPUT: true; the input reads as it did. -/
def fnExactRoundsToDetectSpec : ChangeSpec := { name := "fnExactRoundsToDetect", fn := fun _ => fun
  | [d1, d2, d3, d4, d5] => { results := [.lit (.bool true)], args := [d1, d2, d3, d4, d5] }
  | _ => none }
def fnExactRoundsToDetectRow : OpenClaim := { program := "ytodennbdfloccaagreat", sum := "c652b430fcb1a90ee0fdd300f804fb689ec6e79eff5e15fbfdb716de19c6689c", func := "loop.example/g00878/laws.FnExactRoundsToDetect", spec := "fnExactRoundsToDetect", unfollowed := true, recurses := true, apart := false }
def FnExactRoundsToDetectSaid : Prop := fnExactRoundsToDetectRow.holds Tryz.pinned (OpenSpec.ofChange fnExactRoundsToDetectSpec)

/-- ITS FALSE NEIGHBOUR: 'it returns false'. Refute it at one input. -/
def fnExactRoundsToDetectWrong : ChangeSpec := { name := "fnExactRoundsToDetect", fn := fun _ => fun
  | [d1, d2, d3, d4, d5] => { results := [.lit (.bool false)], args := [d1, d2, d3, d4, d5] }
  | _ => none }
def FnExactRoundsToDetectWrongFalsely : Prop := fnExactRoundsToDetectRow.holds Tryz.pinned (OpenSpec.ofChange fnExactRoundsToDetectWrong)

/- THE SECOND FORM. 'bulk': how many values and letters a reading holds, each counted each time it is reached (what is shared counts as often as it is met; a slice's spare places count too). A statement '..UptoSaid' is the law's where the arguments, and the package variables that the reading takes, are together of bulk at most 1048576: NARROWER than '..Said'. Prove '..Said' where nothing that the law and all that it calls make is longer than what came in: it says more and counts as full. Else prove '..UptoSaid'. A law counts once. -/
mutual
def uptoBulk {H : Type} : DataW H → Nat
  | .lit (.string bytes) => bytes.length + 1
  | .lit _ => 1
  | .nil => 1
  | .ptr d => uptoBulk d + 1
  | .slice elems spare => uptoBulkAll elems + uptoBulkAll spare + 1
  | .agg parts => uptoBulkAll parts + 1
  | .iface _ d => uptoBulk d + 1
  | .map entries => uptoBulkEntries entries + 1
  | .held _ => 1
def uptoBulkAll {H : Type} : List (DataW H) → Nat
  | [] => 0
  | d :: r => uptoBulk d + uptoBulkAll r
def uptoBulkEntries {H : Type} : List (Lit × DataW H) → Nat
  | [] => 0
  | x :: r => uptoBulkEntry x + uptoBulkEntries r
def uptoBulkEntry {H : Type} : Lit × DataW H → Nat
  | (.string bytes, d) => bytes.length + uptoBulk d + 1
  | (_, d) => uptoBulk d + 1
 end
def uptoSmall : (H : Type) → List (DataW H) → Bool := fun _ ds => decide (uptoBulkAll ds ≤ 1048576)
def OpenSpec.upto (s : _root_.Go.ChangeSpec) : _root_.Go.OpenSpec := { _root_.Go.OpenSpec.ofChange s with cond := some uptoSmall }

/-- 'laws.FnExactCheckHead', WHERE WHAT IT READS IS OF BULK AT MOST 1048576: true; the input reads as it did. -/
def fnExactCheckHeadUptoRow : OpenClaim := { program := "ytodennbdfloccaagreat", sum := "c652b430fcb1a90ee0fdd300f804fb689ec6e79eff5e15fbfdb716de19c6689c", func := "loop.example/g00878/laws.FnExactCheckHead", spec := "fnExactCheckHead", unfollowed := true, recurses := true, apart := false, narrowed := true }
def FnExactCheckHeadUptoSaid : Prop := fnExactCheckHeadUptoRow.holds Tryz.pinned (OpenSpec.upto fnExactCheckHeadSpec)

/-- 'laws.FnExactFirstWrongHead', WHERE WHAT IT READS IS OF BULK AT MOST 1048576: true; the input reads as it did. -/
def fnExactFirstWrongHeadUptoRow : OpenClaim := { program := "ytodennbdfloccaagreat", sum := "c652b430fcb1a90ee0fdd300f804fb689ec6e79eff5e15fbfdb716de19c6689c", func := "loop.example/g00878/laws.FnExactFirstWrongHead", spec := "fnExactFirstWrongHead", unfollowed := true, recurses := true, apart := false, narrowed := true }
def FnExactFirstWrongHeadUptoSaid : Prop := fnExactFirstWrongHeadUptoRow.holds Tryz.pinned (OpenSpec.upto fnExactFirstWrongHeadSpec)

/-- 'laws.FnExactFindFork', WHERE WHAT IT READS IS OF BULK AT MOST 1048576: true; the input reads as it did. -/
def fnExactFindForkUptoRow : OpenClaim := { program := "ytodennbdfloccaagreat", sum := "c652b430fcb1a90ee0fdd300f804fb689ec6e79eff5e15fbfdb716de19c6689c", func := "loop.example/g00878/laws.FnExactFindFork", spec := "fnExactFindFork", unfollowed := true, recurses := true, apart := false, narrowed := true }
def FnExactFindForkUptoSaid : Prop := fnExactFindForkUptoRow.holds Tryz.pinned (OpenSpec.upto fnExactFindForkSpec)

/-- 'laws.FnExactRoundsToDetect', WHERE WHAT IT READS IS OF BULK AT MOST 1048576: true; the input reads as it did. -/
def fnExactRoundsToDetectUptoRow : OpenClaim := { program := "ytodennbdfloccaagreat", sum := "c652b430fcb1a90ee0fdd300f804fb689ec6e79eff5e15fbfdb716de19c6689c", func := "loop.example/g00878/laws.FnExactRoundsToDetect", spec := "fnExactRoundsToDetect", unfollowed := true, recurses := true, apart := false, narrowed := true }
def FnExactRoundsToDetectUptoSaid : Prop := fnExactRoundsToDetectUptoRow.holds Tryz.pinned (OpenSpec.upto fnExactRoundsToDetectSpec)

end Rows
end Go.Proofs.YtodennbdfloccaaGreat

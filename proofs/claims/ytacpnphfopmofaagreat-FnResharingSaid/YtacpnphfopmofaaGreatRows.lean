/-
  No cell of these rows narrows 'for every input' (looked for: loops, veiled, ifaces, maps, wideKeys, modest, calm, conditions, laid).
  DERIVED. THE GIVEN ROWS OF THIS SEAT. 2 by the template 'for every input the law returns true; each argument reads behind the call as it read before'; 0 by the template 'total and deterministic' (their statements: YtacpnphfopmofaaGreatTotals.lean).
  GIVEN WITH THE SEED: the statements are not yours to turn. If you find one false, say at which input.
  Laid BY PROGRAM, IN A SANDBOX (cutbox-rows.mjs): the forced cells as the released guide's own fill.sh prints them over the translation 227d19d81603f06d… (all of the seat's roots in one cut). By AI agents, Wed Nov 11 2026. No macro, syntax, notation, axiom, sorry.
-/
import Derived.Test.YtacpnphfopmofaaGreatChecked
import GoSem.Claim
import GoSem.ClaimJoined
import GoSem.ClaimMapViews
import Derived.JoinedTies
import Derived.KernelRfl
namespace Go.Proofs.YtacpnphfopmofaaGreat
/- THE CELL 'sum', in the pinned program and in every row, IS THE sha256 OF THE DUMP (.gsa) THAT YtacpnphfopmofaaGreatProg.lean LOADS. Nothing in Lean hashes anything: it is a label: what it is worth is what the hold of that sum in a sandbox is worth. -/
noncomputable def Tryz.pinned : Pinned := { name := "ytacpnphfopmofaagreat", sum := "227d19d81603f06d00cec8cf25b1ad514ea5c460bdd7291089712f579935fd97", checked := Tryz.checked }
namespace Rows
def none {H : Type} : Left H := { results := [], args := [] }

/-- 'laws.FnRefreshing': WHATEVER THE INPUT: true; the input reads as it did. -/
def fnRefreshingSpec : ChangeSpec := { name := "fnRefreshing", fn := fun _ => fun
  | [d1, d2] => { results := [.lit (.bool true)], args := [d1, d2] }
  | _ => none }
def fnRefreshingRow : OpenClaim := { program := "ytacpnphfopmofaagreat", sum := "227d19d81603f06d00cec8cf25b1ad514ea5c460bdd7291089712f579935fd97", func := "loop.example/g00878/laws.FnRefreshing", spec := "fnRefreshing", unfollowed := true, recurses := true, apart := false }
def FnRefreshingSaid : Prop := fnRefreshingRow.holds Tryz.pinned (OpenSpec.ofChange fnRefreshingSpec)

/-- ITS FALSE NEIGHBOUR: 'it returns false'. Refute it at one input. -/
def fnRefreshingWrong : ChangeSpec := { name := "fnRefreshing", fn := fun _ => fun
  | [d1, d2] => { results := [.lit (.bool false)], args := [d1, d2] }
  | _ => none }
def FnRefreshingWrongFalsely : Prop := fnRefreshingRow.holds Tryz.pinned (OpenSpec.ofChange fnRefreshingWrong)

/-- 'laws.FnResharing': WHATEVER THE INPUT: true; the input reads as it did. -/
def fnResharingSpec : ChangeSpec := { name := "fnResharing", fn := fun _ => fun
  | [d1, d2] => { results := [.lit (.bool true)], args := [d1, d2] }
  | _ => none }
def fnResharingRow : OpenClaim := { program := "ytacpnphfopmofaagreat", sum := "227d19d81603f06d00cec8cf25b1ad514ea5c460bdd7291089712f579935fd97", func := "loop.example/g00878/laws.FnResharing", spec := "fnResharing", unfollowed := true, recurses := true, apart := false }
def FnResharingSaid : Prop := fnResharingRow.holds Tryz.pinned (OpenSpec.ofChange fnResharingSpec)

/-- ITS FALSE NEIGHBOUR: 'it returns false'. Refute it at one input. -/
def fnResharingWrong : ChangeSpec := { name := "fnResharing", fn := fun _ => fun
  | [d1, d2] => { results := [.lit (.bool false)], args := [d1, d2] }
  | _ => none }
def FnResharingWrongFalsely : Prop := fnResharingRow.holds Tryz.pinned (OpenSpec.ofChange fnResharingWrong)

/- THE SECOND FORM. 'bulk': how many values and letters a reading holds, each counted each time it is reached (what is shared counts as often as it is met; a slice's spare places count too). A statement '..UptoSaid' is the law's where the arguments, and the package variables that the reading takes, are together of bulk at most 1048576: NARROWER than '..Said'. Prove '..Said' where nothing that the law and all that it calls make is longer than what came in: it says more and counts as full. Else prove '..UptoSaid'. A law counts once. -/
mutual
def uptoBulk {H : Type} : DataW H → Nat
  | .lit (.string bytes) => bytes.length + 1
  | .lit _ => 1
  | .nil => 1
  | .ptr d => uptoBulk d + 1
  | .slice elems spare => uptoBulkAll elems + uptoBulkAll spare + 1
  | .agg parts => uptoBulkAll parts + 1
  | .iface _ d => uptoBulk d + 1
  | .map entries => uptoBulkEntries entries + 1
  | .held _ => 1
def uptoBulkAll {H : Type} : List (DataW H) → Nat
  | [] => 0
  | d :: r => uptoBulk d + uptoBulkAll r
def uptoBulkEntries {H : Type} : List (Lit × DataW H) → Nat
  | [] => 0
  | x :: r => uptoBulkEntry x + uptoBulkEntries r
def uptoBulkEntry {H : Type} : Lit × DataW H → Nat
  | (.string bytes, d) => bytes.length + uptoBulk d + 1
  | (_, d) => uptoBulk d + 1
 end
def uptoSmall : (H : Type) → List (DataW H) → Bool := fun _ ds => decide (uptoBulkAll ds ≤ 1048576)
def OpenSpec.upto (s : _root_.Go.ChangeSpec) : _root_.Go.OpenSpec := { _root_.Go.OpenSpec.ofChange s with cond := some uptoSmall }

/-- 'laws.FnRefreshing', WHERE WHAT IT READS IS OF BULK AT MOST 1048576: true; the input reads as it did. -/
def fnRefreshingUptoRow : OpenClaim := { program := "ytacpnphfopmofaagreat", sum := "227d19d81603f06d00cec8cf25b1ad514ea5c460bdd7291089712f579935fd97", func := "loop.example/g00878/laws.FnRefreshing", spec := "fnRefreshing", unfollowed := true, recurses := true, apart := false, narrowed := true }
def FnRefreshingUptoSaid : Prop := fnRefreshingUptoRow.holds Tryz.pinned (OpenSpec.upto fnRefreshingSpec)

/-- 'laws.FnResharing', WHERE WHAT IT READS IS OF BULK AT MOST 1048576: true; the input reads as it did. -/
def fnResharingUptoRow : OpenClaim := { program := "ytacpnphfopmofaagreat", sum := "227d19d81603f06d00cec8cf25b1ad514ea5c460bdd7291089712f579935fd97", func := "loop.example/g00878/laws.FnResharing", spec := "fnResharing", unfollowed := true, recurses := true, apart := false, narrowed := true }
def FnResharingUptoSaid : Prop := fnResharingUptoRow.holds Tryz.pinned (OpenSpec.upto fnResharingSpec)

end Rows
end Go.Proofs.YtacpnphfopmofaaGreat

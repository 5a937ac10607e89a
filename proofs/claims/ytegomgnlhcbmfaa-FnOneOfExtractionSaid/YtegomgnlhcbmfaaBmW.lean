/- Bundle of walks and laws: MerkleP, Merkle, Merkle2, Merkle3, Merkle4, Sets, ReachP, Reach, Reach2, Entry. -/
import Derived.Test.YtegomgnlhcbmfaaBaW
import Derived.Lib.BitFns
import Derived.Test.YtegomgnlhcbmfaaChecked
import Derived.Lib.Strings
import Derived.Lib.Slices
import Derived.Lib.Small
import Derived.Lib.Walk
import Derived.Deep.QuietTactic
import Derived.BigQuiet
/- Merkle trees as functions on lists: plain Lean. -/



namespace Go.Proofs.Ytegomgnlhcbmfaa
open Go.RowKit

/-- the number of binary digits 1 -/
def onesF : Nat → Nat → Nat
  | 0, _ => 0
  | f + 1, n => n % 2 + onesF f (n / 2)
def ones (n : Nat) : Nat := onesF 7 n
end Go.Proofs.Ytegomgnlhcbmfaa
/- Walks: Merkle trees. -/


namespace Go.Proofs.Ytegomgnlhcbmfaa
open Go.RowKit
set_option linter.unusedSimpArgs false
set_option linter.unusedVariables false

end Go.Proofs.Ytegomgnlhcbmfaa
/- Walks: paths of Merkle trees (printed by gen_merkle2.py). -/

namespace Go.Proofs.Ytegomgnlhcbmfaa
open Go.RowKit
set_option linter.unusedSimpArgs false
set_option linter.unusedVariables false

/-- append as a step of a region that draws its order -/
theorem step_append_ints {ops : Array Oper} {o : Oper} {a : Act} {w : World} {K : Act → World → Prop} {Q : Exit → Act → World → Prop} {E : Prop} (hg : o.guard = none) (s x : Operand)
    (ho : o.op = .call { callee := .builtin .append, args := #[s, x], argTypes := #[43, 43] })
    (B : Nat) (v y : Value) (l m : List Int) (hs : a.eval s = v) (hown : OwnI w B v l) (hx : a.eval x = y) (hy : Ints w y m) (hlen : l.length + m.length ≤ 1000000000000) (hB : B ≤ w.heap.size)
    (hK : ∀ v' w', OwnI w' B v' (l ++ m) → Below B w w' → K (a.put o.dst v') w') : if Region.wanted o (yielded ops a.tmps) = true then Oper.wp Try.prog o a w K Q else E := by
  rw [if_pos (by simp [Region.wanted, hg])]
  obtain ⟨v', w', hr, h1, h2⟩ := run_append_ints (t := 43) rfl hown hy hlen hB o.type
  unfold Oper.wp execOp
  simp only [ho, resolve, invoke, builtin, Sem.run_bind, Sem.run_pure, Result.andThen_ok, List.map_toArray, List.map_cons, List.map_nil, hs, hx, hr]
  exact hK v' w' h1 (hown.grown h2 hB)
end Go.Proofs.Ytegomgnlhcbmfaa
/- Walks: InclusionPath and ConsistencyPath (printed by gen_merkle3.py). -/

namespace Go.Proofs.Ytegomgnlhcbmfaa
open Go.RowKit
set_option linter.unusedSimpArgs false
set_option linter.unusedVariables false

end Go.Proofs.Ytegomgnlhcbmfaa
/- Walks: VerifyConsistency (printed by gen_merkle4.py). -/

namespace Go.Proofs.Ytegomgnlhcbmfaa
open Go.RowKit
set_option linter.unusedSimpArgs false
set_option linter.unusedVariables false

end Go.Proofs.Ytegomgnlhcbmfaa
/- Walks: sorted lists as sets (spec.l1Has, spec.l1Put). -/

namespace Go.Proofs.Ytegomgnlhcbmfaa
open Go.RowKit
set_option linter.unusedSimpArgs false
set_option linter.unusedVariables false

end Go.Proofs.Ytegomgnlhcbmfaa
/- The plain law of ReachOf: a set as a sorted list, and as marks. -/

namespace Go.Proofs.Ytegomgnlhcbmfaa
set_option linter.unusedSimpArgs false
set_option linter.unusedVariables false

end Go.Proofs.Ytegomgnlhcbmfaa
/- Walks: ReachOf. -/




namespace Go.Proofs.Ytegomgnlhcbmfaa
open Go.RowKit
set_option linter.unusedSimpArgs false
set_option linter.unusedVariables false

/-- a function value that decides p on lists, in every world that has grown from w -/
structure DecidesR (w : World) (g : FuncId) (caps : Array Value) (p : List Int → Bool) : Prop where
  enters : ∀ args wr, (callFunc g args).run Try.prog wr = .ok (.enter g args) wr
  runs : ∀ v l wr, Ints wr v l → Below w.heap.size w wr → Calls Try.prog g (#[v] ++ caps) wr fun e w' => e = .returned (.bool (p l)) ∧ Below wr.heap.size wr w'
theorem DecidesR.below {w w' : World} {g : FuncId} {caps : Array Value} {p : List Int → Bool} (h : DecidesR w g caps p) (hb : Below w.heap.size w w') : DecidesR w' g caps p :=
  ⟨h.enters, fun v l wr hx hr => h.runs v l wr hx (hb.trans (hr.mono hb.size))⟩
end Go.Proofs.Ytegomgnlhcbmfaa
/- Walks: pairs of readers (impl.arePairs). -/

namespace Go.Proofs.Ytegomgnlhcbmfaa
open Go.RowKit
set_option linter.unusedSimpArgs false
set_option linter.unusedVariables false

end Go.Proofs.Ytegomgnlhcbmfaa
/- Entries of a board: the digest of an entry. -/

namespace Go.Proofs.Ytegomgnlhcbmfaa
open Go.RowKit
set_option linter.unusedSimpArgs false
set_option linter.unusedVariables false

theorem Ints.lit3 {B : Nat} (w : World) (hB : B ≤ w.heap.size) {g : Nat} (hg : g = w.heap.size) {x y z : Int} (h : I64 x) (h2 : I64 y) (h3 : I64 z) : OwnI (w.alloc (.cells #[.int .i64 x, .int .i64 y, .int .i64 z] 3)) B (.slice (some ⟨g, 0, none⟩) 3 3) [x, y, z] := by
  subst hg; exact OwnI.lit w hB (AllI64.cons h (AllI64.cons h2 (AllI64.one h3))) rfl (by simp [maxLen]) 3 rfl
end Go.Proofs.Ytegomgnlhcbmfaa

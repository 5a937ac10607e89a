/- Walks: StageRecord, the reference's. -/
import Derived.Test.YtbcaknmpbkapnaaStg2
namespace Go.Proofs.Ytbcaknmpbkapnaa
open Go.RowKit
set_option linter.unusedSimpArgs false
set_option linter.unusedVariables false

theorem cxA (q1 q2 q3 q4 : Bool) (h : q1 = true → q3 = false) : (q1 = true ∧ q2 = true ∧ q3 = false) ∨ (q1 = true ∧ q2 = false ∧ q3 = false) ∨ (q1 = false ∧ q3 = false) ∨ (q1 = false ∧ q3 = true ∧ q4 = false) ∨ (q1 = false ∧ q3 = true ∧ q4 = true) := by
  cases q1 <;> cases q2 <;> cases q3 <;> cases q4 <;> simp_all
end Go.Proofs.Ytbcaknmpbkapnaa

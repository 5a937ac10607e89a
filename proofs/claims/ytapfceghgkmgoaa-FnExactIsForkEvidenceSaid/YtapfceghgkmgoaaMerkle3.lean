/- Walks: InclusionPath and ConsistencyPath (printed by gen_merkle3.py). -/
import Derived.Test.YtapfceghgkmgoaaMerkle2
namespace Go.Proofs.Ytapfceghgkmgoaa
open Go.RowKit
set_option linter.unusedSimpArgs false
set_option linter.unusedVariables false

/-- leaves -/
def goodL (l : List Int) : Bool := decide (l.length ≤ 64) && l.all digestB
theorem goodL_yes {l : List Int} (h : goodL l = true) : l.length ≤ 64 ∧ l.all digestB = true := by
  unfold goodL at h; rw [Bool.and_eq_true, decide_eq_true_iff] at h; exact h
def incB (l : List Int) (i : Int) : Bool := goodL l && decide (0 ≤ i ∧ i ≤ (l.length : Int) - 1)
def incL (l : List Int) (i : Int) : List Int := if incB l i = true then pathN 65 l i.toNat else []
theorem incL_length (l : List Int) (i : Int) : (incL l i).length ≤ 65 := by
  unfold incL; split
  · exact pathN_length
  · simp
def conB (l : List Int) (m : Int) : Bool := goodL l && decide (1 ≤ m ∧ m ≤ (l.length : Int))
def conL (l : List Int) (m : Int) : List Int := if conB l m = true then consN 65 m.toNat l true else []
theorem conL_length (l : List Int) (m : Int) : (conL l m).length ≤ 65 := by
  unfold conL; split
  · exact consN_length
  · simp
end Go.Proofs.Ytapfceghgkmgoaa

/- Walks: HashLabelled of the reference. -/
import Derived.Test.YtbcaknmpbkapnaaBa
namespace Go.Proofs.Ytbcaknmpbkapnaa
open Go.RowKit
set_option linter.unusedSimpArgs false
set_option linter.unusedVariables false

def l3B (s : ByteArray) (l : List Int) (m : Nat) : Bool := decide (s.size ≤ 40) && (l.all digestB && decide (1 + s.size + l.length + m ≤ 400))
theorem l3B_labelled (s : ByteArray) (l : List Int) : l3B s l 0 = labelledB s l := by
  unfold l3B labelledB hashable
  rw [List.all_append, List.length_append, lab_length]
  by_cases h : s.size ≤ 40
  · rw [lab_all _ (by omega), decide_eq_true h, Bool.true_and, Bool.true_and]
    cases l.all digestB with
    | false => simp
    | true =>
      rw [Bool.true_and, Bool.and_true, Bool.eq_iff_iff]
      simp only [Bool.and_eq_true, decide_eq_true_iff]
      omega
  · rw [decide_eq_false h, Bool.false_and, decide_eq_false (fun hh => h hh.1), Bool.false_and]
end Go.Proofs.Ytbcaknmpbkapnaa

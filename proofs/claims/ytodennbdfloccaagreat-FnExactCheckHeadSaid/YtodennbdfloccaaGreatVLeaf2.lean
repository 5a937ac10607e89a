/- Walks: BoardLeaves. -/
import Derived.Test.YtodennbdfloccaaGreatVLeaf
namespace Go.Proofs.YtodennbdfloccaaGreat
open Go.RowKit
set_option linter.unusedSimpArgs false
set_option linter.unusedVariables false

noncomputable def blL (gr : GroupD) (d : BoardD) : List Int := if vbR gr d = true then leavesL d.entries else []
theorem blL_yes {gr : GroupD} {d : BoardD} (h : vbR gr d = true) : blL gr d = leavesL d.entries := by unfold blL; rw [if_pos h]
theorem blL_no {gr : GroupD} {d : BoardD} (h : vbR gr d = false) : blL gr d = [] := by unfold blL; rw [if_neg (by rw [h]; simp)]
theorem vbR_leaves {gr : GroupD} {d : BoardD} (h : vbR gr d = true) : (∀ i (hi : i < d.entries.length), LeafOk i (d.entries[i]'hi)) ∧ d.entries.length ≤ 64 :=
  ⟨fun i hi => board_leaf (vbR_ok h).1 (vbR_ok h).2 hi, (boardB_parts (vbR_ok h).2).2.1⟩
theorem blL_length (gr : GroupD) (d : BoardD) : (blL gr d).length ≤ 64 := by
  cases h : vbR gr d with
  | true => rw [blL_yes h, leavesL_length]; exact (vbR_leaves h).2
  | false => rw [blL_no h]; simp
end Go.Proofs.YtodennbdfloccaaGreat

/- Walks: stages as records, the reference's. -/
import Derived.Test.YtbcaknmpbkapnaaStg1
import Derived.Test.YtbcaknmpbkapnaaFrL
import Derived.Test.YtbcaknmpbkapnaaSea2
namespace Go.Proofs.Ytbcaknmpbkapnaa
open Go.RowKit
set_option linter.unusedSimpArgs false
set_option linter.unusedVariables false

def stgTail (d : StageD) : List (List Int) := if d.argument = 1 then [d.matrix.columns, d.matrix.chain, epL d.matrix.pi] else [d.poly.places, d.poly.powers, d.poly.chain, epL d.poly.pi]
def stgParts (d : StageD) : List (List Int) := [[d.argument], cipL d.out] ++ stgTail d
def stgE (d : StageD) : Bool := ((d.argument == 1) && noPoly d.poly) || ((d.argument == 2) && noMat d.matrix)
def stgB (d : StageD) : Bool := stgE d && recB (joinL (stgParts d))
def stgR (d : StageD) : List Int := if stgB d = true then joinL (stgParts d) else []
theorem stgR_no {d : StageD} (h : stgB d = false) : stgR d = [] := by unfold stgR; rw [h, if_neg (by simp)]
theorem stgR_yes {d : StageD} (h : stgB d = true) : stgR d = joinL (stgParts d) := by unfold stgR; rw [if_pos h]
theorem stgR_length (d : StageD) : (stgR d).length ≤ 400 := by
  unfold stgR; split
  · rename_i h
    unfold stgB at h
    rw [Bool.and_eq_true] at h
    exact recB_len h.2
  · simp
theorem szT_parts {d : StageD} (h : (szStage d : Int) ≤ 1048576) : d.out.length ≤ 1048576 ∧ (szMatrixProof d.matrix : Int) ≤ 1048576 ∧ (szPolyProof d.poly : Int) ≤ 1048576 := by
  unfold szStage szCipherS at h; omega
theorem szT_total {d : StageD} (h : (szStage d : Int) ≤ 1048576) : ((stgParts d).length : Int) + total (stgParts d) ≤ 1000000000 := by
  obtain ⟨h1, h2, h3⟩ := szT_parts h
  unfold szMatrixProof at h2
  unfold szPolyProof at h3
  unfold stgParts stgTail total
  split
  · simp [cipL_length, epL_length]; omega
  · simp [cipL_length, epL_length]; omega
theorem info_intsB : (Try.prog.info? 22).map (fun i => (i.zero, i.size, i.bytes)) = some (some (.slice none 0 0), 1, 24) := by kernel_rfl
theorem info_ints1 : ∃ i, Try.prog.info? 22 = some i ∧ i.zero = some (.slice none 0 0) ∧ i.size = 1 ∧ i.bytes ≤ 1000 := by
  obtain ⟨i, hi, hz, hsz, hby⟩ := info_parts info_intsB
  exact ⟨i, hi, hz, hsz, by omega⟩
theorem one_intsT (w : World) {x : Int} (h : I64 x) : InI (w.alloc (.cells #[.int .i64 x] 3)) w.heap.size (w.heap.size + 1) (.slice (some ⟨w.heap.size, 0, none⟩) 1 1) [x] := by
  have := InI.of_own (OwnI.lit1 (B := w.heap.size) w (Nat.le_refl _) h)
  simpa using this
end Go.Proofs.Ytbcaknmpbkapnaa

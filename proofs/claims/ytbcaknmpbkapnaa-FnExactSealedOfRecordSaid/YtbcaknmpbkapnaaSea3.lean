/- Walks: sealed ballots as records, the reference's. -/
import Derived.Test.YtbcaknmpbkapnaaSea2
namespace Go.Proofs.Ytbcaknmpbkapnaa
open Go.RowKit
set_option linter.unusedSimpArgs false
set_option linter.unusedVariables false

theorem szS_parts {d : SealedD} (h : (szSealed d : Int) ≤ 1048576) : d.ciphers.length ≤ 1048576 ∧ d.proofs.length ≤ 1048576 ∧ (d.proofs.map szProof).sum ≤ 1048576 ∧ szProof d.sum ≤ 1048576 := by
  unfold szSealed szCipherS szProofS at h
  omega
theorem one_ints (w : World) {x : Int} (h : I64 x) : InI (w.alloc (.cells #[.int .i64 x] 3)) w.heap.size (w.heap.size + 1) (.slice (some ⟨w.heap.size, 0, none⟩) 1 1) [x] := by
  have := InI.of_own (OwnI.lit1 (B := w.heap.size) w (Nat.le_refl _) h)
  simpa using this
end Go.Proofs.Ytbcaknmpbkapnaa

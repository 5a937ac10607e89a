/- Derived elements: walks of DeriveElement, DeriveElements of the reference. -/
import Derived.Test.YtboahnklilmdpaaDer2
import Derived.Test.YtboahnklilmdpaaCtG
namespace Go.Proofs.Ytboahnklilmdpaa
open Go.RowKit
set_option linter.unusedSimpArgs false
set_option linter.unusedVariables false

/-- each of the first n elements can be derived -/
def hsB (gr : GroupD) (s : ByteArray) (n : Nat) : Bool := (List.range n).all fun k => decide (0 < hD gr s k)
theorem hsB_succ (gr : GroupD) (s : ByteArray) (n : Nat) : hsB gr s (n + 1) = (hsB gr s n && decide (0 < hD gr s n)) := by simp [hsB, List.range_succ]
theorem hsB_no {gr : GroupD} {s : ByteArray} {k n : Nat} (h : hsB gr s k = false) (hk : k ≤ n) : hsB gr s n = false := by
  obtain ⟨m, rfl⟩ : ∃ m, n = k + m := ⟨n - k, by omega⟩
  clear hk
  induction m with
  | zero => exact h
  | succ m ih => rw [← Nat.add_assoc, hsB_succ, ih]; rfl
/-- the bases can be derived -/
def basB (gr : GroupD) (a b : ByteArray) (n : Nat) : Bool := decide (0 < hD gr a 0) && hsB gr b n
end Go.Proofs.Ytboahnklilmdpaa

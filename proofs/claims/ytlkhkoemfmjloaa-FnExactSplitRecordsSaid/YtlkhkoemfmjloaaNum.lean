/- Walks of the small functions on numbers. -/
import Derived.Test.YtlkhkoemfmjloaaBase
namespace Go.Proofs.Ytlkhkoemfmjloaa
open Go.RowKit
set_option linter.unusedSimpArgs false
set_option linter.unusedVariables false

theorem impl_within (n lo hi : Int) (w : World) :
    Calls Try.prog 43 #[.int .i64 n, .int .i64 lo, .int .i64 hi] w fun e w' => e = .returned (.bool (decide (lo ≤ n ∧ n ≤ hi))) ∧ w = w' := by
  go_enter Try.func43, Try.ntmps43
  by_cases h1 : lo ≤ n <;> by_cases h2 : n ≤ hi <;>
  (go_wp2; go_ret; exact ⟨by simp [h1, h2], rfl⟩)
theorem spec_l1In (n lo hi : Int) (w : World) :
    Calls Try.prog 40 #[.int .i64 n, .int .i64 lo, .int .i64 hi] w fun e w' => e = .returned (.bool (decide (lo ≤ n ∧ n ≤ hi))) ∧ w = w' := by
  go_enter Try.func40, Try.ntmps40
  by_cases h1 : lo ≤ n <;> by_cases h2 : n ≤ hi <;>
  (go_wp2; go_ret; exact ⟨by simp [h1, h2], rfl⟩)
end Go.Proofs.Ytlkhkoemfmjloaa

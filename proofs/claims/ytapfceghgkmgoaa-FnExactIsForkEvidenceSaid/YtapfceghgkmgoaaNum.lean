/- Walks of the small functions on numbers. -/
import Derived.Test.YtapfceghgkmgoaaBase
namespace Go.Proofs.Ytapfceghgkmgoaa
open Go.RowKit
set_option linter.unusedSimpArgs false
set_option linter.unusedVariables false

theorem impl_within (n lo hi : Int) (w : World) :
    Calls Try.prog 196 #[.int .i64 n, .int .i64 lo, .int .i64 hi] w fun e w' => e = .returned (.bool (decide (lo ≤ n ∧ n ≤ hi))) ∧ w = w' := by
  go_enter Try.func196, Try.ntmps196
  by_cases h1 : lo ≤ n <;> by_cases h2 : n ≤ hi <;>
  (go_wp2; go_ret; exact ⟨by simp [h1, h2], rfl⟩)
theorem spec_l1In (n lo hi : Int) (w : World) :
    Calls Try.prog 101 #[.int .i64 n, .int .i64 lo, .int .i64 hi] w fun e w' => e = .returned (.bool (decide (lo ≤ n ∧ n ≤ hi))) ∧ w = w' := by
  go_enter Try.func101, Try.ntmps101
  by_cases h1 : lo ≤ n <;> by_cases h2 : n ≤ hi <;>
  (go_wp2; go_ret; exact ⟨by simp [h1, h2], rfl⟩)
end Go.Proofs.Ytapfceghgkmgoaa

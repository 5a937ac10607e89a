/- Walks: laws.toGroup. -/
import Derived.Test.YtcpigedjblkcfaaBg
namespace Go.Proofs.Ytcpigedjblkcfaa
open Go.RowKit
set_option linter.unusedSimpArgs false
set_option linter.unusedVariables false

set_option maxHeartbeats 1000000 in
theorem laws_toGroup (gr : GroupD) (w : World) :
    Calls Try.prog 36 #[.agg #[.int .i64 gr.p, .int .i64 gr.q, .int .i64 gr.g]] w fun e w' => e = .returned (.agg #[.int .i64 gr.p, .int .i64 gr.q, .int .i64 gr.g]) ∧ Below w.heap.size w w' := by
  obtain ⟨p, q, g⟩ := gr
  go_enter Try.func36, Try.ntmps36
  go_wp2_with fail
  refine bodyPost_ret (v := .agg #[.int .i64 p, .int .i64 q, .int .i64 g]) (by simp [results, Try.results36, go_sem]) rfl ⟨rfl, by (repeat (first | exact Below.refl _ _ | assumption | refine Below.drew ?_ | refine Below.alloc ?_ (by first | (simp; done) | (simp; omega)) _ | refine Below.setCell ?_ (by first | (simp; done) | (simp; omega)) _))⟩
end Go.Proofs.Ytcpigedjblkcfaa

/- Arguments of type laws.Group. -/
import Derived.Test.YtapfceghgkmgoaaLaw
import Derived.Test.YtapfceghgkmgoaaGrp2
namespace Go.Proofs.Ytapfceghgkmgoaa
open Go.ChangeShapes Go.WideShapes Go.ChangeAt Go.RowKit
set_option linter.unusedVariables false

section
variable {H : Type} {enc : TypeId × Value → H} {w : World} {base : Nat} {spare : Nat → Bool} {held : Bool}
open Go.Joins Go.Deep
set_option maxRecDepth 100000 in
theorem group_of_arg {r : Reach} {b0 : Nat} {v : Value} {d : DataW H} {p : List MemPlace} (hv : Value.okWide Try.prog w r b0 83 v) (h : DataW.Trod enc Try.prog w base spare held 83 v d p) : ∃ gr : GroupD, v = .agg #[.int .i64 gr.p, .int .i64 gr.q, .int .i64 gr.g] := by
  obtain ⟨c0, c1, c2, y0, y1, y2, m, rfl, _, _, hy0, hy1, hy2⟩ := open_agg3 Try.underlying83 (by kernel_rfl) (by kernel_rfl) hv h
  obtain ⟨x0, rfl, _⟩ := int_cell Try.underlying3 hy0
  obtain ⟨x1, rfl, _⟩ := int_cell Try.underlying3 hy1
  obtain ⟨x2, rfl, _⟩ := int_cell Try.underlying3 hy2
  exact ⟨⟨x0, x1, x2⟩, rfl⟩
end
end Go.Proofs.Ytapfceghgkmgoaa

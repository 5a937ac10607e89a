/- Arguments of type string. -/
import Derived.Test.YtcpigedjblkcfaaBl
namespace Go.Proofs.Ytcpigedjblkcfaa
open Go.ChangeShapes Go.WideShapes Go.ChangeAt Go.RowKit
set_option linter.unusedVariables false

section
variable {H : Type} {enc : TypeId × Value → H} {w : World} {base : Nat} {spare : Nat → Bool} {held : Bool}
set_option maxRecDepth 100000 in
theorem string_of_arg {r : Reach} {b0 : Nat} {v : Value} {d : DataW H} {p : List MemPlace} (hv : Value.okWide Try.prog w r b0 9 v) (h : DataW.Trod enc Try.prog w base spare held 9 v d p) : ∃ x : ByteArray, v = .string x := okWide_string Try.underlying9 hv
end
end Go.Proofs.Ytcpigedjblkcfaa

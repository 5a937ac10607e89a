/- Arguments that are proofs. -/
import Derived.Test.YtlkhkoemfmjloaaLawRows
import Derived.Test.YtlkhkoemfmjloaaProofK
namespace Go.Proofs.Ytlkhkoemfmjloaa
open Go.ChangeShapes Go.WideShapes Go.ChangeAt Go.RowKit
set_option linter.unusedVariables false

section
variable {H : Type} {enc : TypeId × Value → H} {w : World} {base : Nat} {spare : Nat → Bool} {held : Bool}
open Go.Joins Go.Deep
theorem proof_of_arg {r : Reach} {b0 : Nat} {v : Value} {d : DataW H} {p : List MemPlace} (hv : Value.okWide Try.prog w r b0 43 v) (h : DataW.Trod enc Try.prog w base spare held 43 v d p) : ∃ x, RdP w v x := by
  obtain ⟨v0, v1, v2, y0, y1, y2, n, rfl, _, _, h0, h1, h2⟩ := open_agg3 Try.underlying43 (by kernel_rfl) (by kernel_rfl) hv h
  obtain ⟨l0, k0⟩ := ints_of_trod h0
  obtain ⟨l1, k1⟩ := ints_of_trod h1
  obtain ⟨l2, k2⟩ := ints_of_trod h2
  exact ⟨⟨l0, l1, l2⟩, _, _, _, rfl, k0, k1, k2⟩
end
end Go.Proofs.Ytlkhkoemfmjloaa

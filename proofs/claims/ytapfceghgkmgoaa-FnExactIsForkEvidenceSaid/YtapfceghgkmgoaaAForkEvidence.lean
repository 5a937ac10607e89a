/- Arguments of type laws.ForkEvidence (printed by genarg.py). -/
import Derived.Test.YtapfceghgkmgoaaArgR
import Derived.Test.YtapfceghgkmgoaaKForkEvidence
import Derived.Test.YtapfceghgkmgoaaAHead
namespace Go.Proofs.Ytapfceghgkmgoaa
open Go.ChangeShapes Go.WideShapes Go.ChangeAt Go.RowKit
set_option linter.unusedVariables false
set_option linter.unusedSimpArgs false

section
variable {H : Type} {enc : TypeId × Value → H} {w : World} {base : Nat} {spare : Nat → Bool} {held : Bool}
open Go.Joins Go.Deep
theorem cells_ForkEvidence : Try.prog.cellsOf 103 = 12 := by kernel_rfl
theorem cells_ForkEvidence_0 : Try.prog.cellsOf 101 = 6 := by kernel_rfl
set_option maxRecDepth 100000 in
theorem opens_ForkEvidence {n : Nat} {cs : List Value} {y : DataW H × List MemPlace} (h : DataW.trod enc Try.prog w base spare held n 103 cs = some y) : ∃ d, rForkEvidence.rd w cs d := by
  obtain ⟨xs, m, _, _, hl, hlen, hg⟩ := DataW.trod_struct Try.underlying103 h
  rw [cells_ForkEvidence] at hl
  match cs, hl, xs, hlen with
  | [c0, c1, c2, c3, c4, c5, c6, c7, c8, c9, c10, c11], _, [y0, y1], _ =>
    have g0 : DataW.trod enc Try.prog w base spare held m 101 [c0, c1, c2, c3, c4, c5] = some y0 := by
      have q := hg 0 _ rfl
      simpa [cells_ForkEvidence_0] using q
    obtain ⟨x0, b0⟩ := opens_Head g0
    have g1 : DataW.trod enc Try.prog w base spare held m 101 [c6, c7, c8, c9, c10, c11] = some y1 := by
      have q := hg 1 _ rfl
      simpa [cells_ForkEvidence_0] using q
    obtain ⟨x1, b1⟩ := opens_Head g1
    exact ⟨⟨x0, x1⟩, ⟨_, _, rfl, b0, b1⟩⟩
set_option maxRecDepth 100000 in
theorem arg_ForkEvidence {r : Reach} {b0 : Nat} {v : Value} {d : DataW H} {p : List MemPlace} (hv : Value.okWide Try.prog w r b0 103 v) (h : DataW.Trod enc Try.prog w base spare held 103 v d p) : ∃ d, (kS rForkEvidence).rd w v d := by
  obtain ⟨cs, rfl, hsz⟩ := okWide_struct Try.underlying103 hv
  obtain ⟨fuel, hf⟩ := h
  obtain ⟨d', hd⟩ := opens_ForkEvidence (by simpa [Value.cells] using hf)
  exact ⟨d', cs.toList, by simp, hd⟩
end
end Go.Proofs.Ytapfceghgkmgoaa

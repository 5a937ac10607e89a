/- Arguments of type laws.PolyProof (printed by genarg.py). -/
import Derived.Test.YtcpigedjblkcfaaBl
import Derived.Test.YtcpigedjblkcfaaKPolyProof
namespace Go.Proofs.Ytcpigedjblkcfaa
open Go.ChangeShapes Go.WideShapes Go.ChangeAt Go.RowKit
set_option linter.unusedVariables false
set_option linter.unusedSimpArgs false

section
variable {H : Type} {enc : TypeId × Value → H} {w : World} {base : Nat} {spare : Nat → Bool} {held : Bool}
open Go.Joins Go.Deep
theorem cells_PolyProof : Try.prog.cellsOf 51 = 6 := by kernel_rfl
theorem cells_PolyProof_0 : Try.prog.cellsOf 38 = 1 := by kernel_rfl
theorem cells_PolyProof_1 : Try.prog.cellsOf 47 = 3 := by kernel_rfl
set_option maxRecDepth 100000 in
theorem opens_PolyProof {n : Nat} {cs : List Value} {y : DataW H × List MemPlace} (h : DataW.trod enc Try.prog w base spare held n 51 cs = some y) : ∃ d, rPolyProof.rd w cs d := by
  obtain ⟨xs, m, _, _, hl, hlen, hg⟩ := DataW.trod_struct Try.underlying51 h
  rw [cells_PolyProof] at hl
  match cs, hl, xs, hlen with
  | [c0, c1, c2, c3, c4, c5], _, [y0, y1, y2, y3], _ =>
    have g0 : DataW.trod enc Try.prog w base spare held m 38 [c0] = some y0 := by
      have q := hg 0 _ rfl
      simpa [cells_PolyProof_0, cells_PolyProof_1] using q
    obtain ⟨x0, b0⟩ := ints_of_trod g0
    have g1 : DataW.trod enc Try.prog w base spare held m 38 [c1] = some y1 := by
      have q := hg 1 _ rfl
      simpa [cells_PolyProof_0, cells_PolyProof_1] using q
    obtain ⟨x1, b1⟩ := ints_of_trod g1
    have g2 : DataW.trod enc Try.prog w base spare held m 38 [c2] = some y2 := by
      have q := hg 2 _ rfl
      simpa [cells_PolyProof_0, cells_PolyProof_1] using q
    obtain ⟨x2, b2⟩ := ints_of_trod g2
    have g3 : DataW.trod enc Try.prog w base spare held m 47 [c3, c4, c5] = some y3 := by
      have q := hg 3 _ rfl
      simpa [cells_PolyProof_0, cells_PolyProof_1] using q
    obtain ⟨x3, b3⟩ := opens_Proof g3
    exact ⟨⟨x0, x1, x2, x3⟩, ⟨_, _, rfl, b0, ⟨_, _, rfl, b1, ⟨_, _, rfl, b2, b3⟩⟩⟩⟩
set_option maxRecDepth 100000 in
theorem arg_PolyProof {r : Reach} {b0 : Nat} {v : Value} {d : DataW H} {p : List MemPlace} (hv : Value.okWide Try.prog w r b0 51 v) (h : DataW.Trod enc Try.prog w base spare held 51 v d p) : ∃ d, (kS rPolyProof).rd w v d := by
  obtain ⟨cs, rfl, hsz⟩ := okWide_struct Try.underlying51 hv
  obtain ⟨fuel, hf⟩ := h
  obtain ⟨d', hd⟩ := opens_PolyProof (by simpa [Value.cells] using hf)
  exact ⟨d', cs.toList, by simp, hd⟩
end
end Go.Proofs.Ytcpigedjblkcfaa

/- Arguments of type laws.Stage (printed by genarg.py). -/
import Derived.Test.YtcpigedjblkcfaaBl
import Derived.Test.YtcpigedjblkcfaaKStage
import Derived.Test.YtcpigedjblkcfaaACipher
import Derived.Test.YtcpigedjblkcfaaAMatrixProof
import Derived.Test.YtcpigedjblkcfaaAPolyProof
namespace Go.Proofs.Ytcpigedjblkcfaa
open Go.ChangeShapes Go.WideShapes Go.ChangeAt Go.RowKit
set_option linter.unusedVariables false
set_option linter.unusedSimpArgs false

section
variable {H : Type} {enc : TypeId × Value → H} {w : World} {base : Nat} {spare : Nat → Bool} {held : Bool}
open Go.Joins Go.Deep
theorem cells_Stage : Try.prog.cellsOf 53 = 13 := by kernel_rfl
theorem cells_Stage_0 : Try.prog.cellsOf 3 = 1 := by kernel_rfl
theorem cells_Stage_1 : Try.prog.cellsOf 45 = 1 := by kernel_rfl
theorem cells_Stage_2 : Try.prog.cellsOf 49 = 5 := by kernel_rfl
theorem cells_Stage_3 : Try.prog.cellsOf 51 = 6 := by kernel_rfl
set_option maxRecDepth 100000 in
theorem opens_Stage {n : Nat} {cs : List Value} {y : DataW H × List MemPlace} (h : DataW.trod enc Try.prog w base spare held n 53 cs = some y) : ∃ d, rStage.rd w cs d := by
  obtain ⟨xs, m, _, _, hl, hlen, hg⟩ := DataW.trod_struct Try.underlying53 h
  rw [cells_Stage] at hl
  match cs, hl, xs, hlen with
  | [c0, c1, c2, c3, c4, c5, c6, c7, c8, c9, c10, c11, c12], _, [y0, y1, y2, y3], _ =>
    have g0 : DataW.trod enc Try.prog w base spare held m 3 [c0] = some y0 := by
      have q := hg 0 _ rfl
      simpa [cells_Stage_0, cells_Stage_1, cells_Stage_2, cells_Stage_3] using q
    obtain ⟨x0, rfl, b0⟩ := int_cell Try.underlying3 g0
    have g1 : DataW.trod enc Try.prog w base spare held m 45 [c1] = some y1 := by
      have q := hg 1 _ rfl
      simpa [cells_Stage_0, cells_Stage_1, cells_Stage_2, cells_Stage_3] using q
    obtain ⟨x1, b1⟩ := opens_CipherS g1
    have g2 : DataW.trod enc Try.prog w base spare held m 49 [c2, c3, c4, c5, c6] = some y2 := by
      have q := hg 2 _ rfl
      simpa [cells_Stage_0, cells_Stage_1, cells_Stage_2, cells_Stage_3] using q
    obtain ⟨x2, b2⟩ := opens_MatrixProof g2
    have g3 : DataW.trod enc Try.prog w base spare held m 51 [c7, c8, c9, c10, c11, c12] = some y3 := by
      have q := hg 3 _ rfl
      simpa [cells_Stage_0, cells_Stage_1, cells_Stage_2, cells_Stage_3] using q
    obtain ⟨x3, b3⟩ := opens_PolyProof g3
    exact ⟨⟨x0, x1, x2, x3⟩, ⟨_, rfl, wf_bd b0, ⟨_, _, rfl, b1, ⟨_, _, rfl, b2, b3⟩⟩⟩⟩
set_option maxRecDepth 100000 in
theorem arg_Stage {r : Reach} {b0 : Nat} {v : Value} {d : DataW H} {p : List MemPlace} (hv : Value.okWide Try.prog w r b0 53 v) (h : DataW.Trod enc Try.prog w base spare held 53 v d p) : ∃ d, (kS rStage).rd w v d := by
  obtain ⟨cs, rfl, hsz⟩ := okWide_struct Try.underlying53 hv
  obtain ⟨fuel, hf⟩ := h
  obtain ⟨d', hd⟩ := opens_Stage (by simpa [Value.cells] using hf)
  exact ⟨d', cs.toList, by simp, hd⟩
end
end Go.Proofs.Ytcpigedjblkcfaa

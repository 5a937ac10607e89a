/- Arguments of type laws.Board (printed by genarg.py). -/
import Derived.Test.YtodennbdfloccaaGreatBl
import Derived.Test.YtodennbdfloccaaGreatKBoard
namespace Go.Proofs.YtodennbdfloccaaGreat
open Go.ChangeShapes Go.WideShapes Go.ChangeAt Go.RowKit
set_option linter.unusedVariables false
set_option linter.unusedSimpArgs false

section
variable {H : Type} {enc : TypeId × Value → H} {w : World} {base : Nat} {spare : Nat → Bool} {held : Bool}
open Go.Joins Go.Deep
theorem cells_Board : Tryz.prog.cellsOf 27 = 2 := by kernel_rfl
theorem cells_Board_0 : Tryz.prog.cellsOf 24 = 1 := by kernel_rfl
theorem cells_Board_1 : Tryz.prog.cellsOf 25 = 1 := by kernel_rfl
set_option maxRecDepth 100000 in
theorem opens_Board {n : Nat} {cs : List Value} {y : DataW H × List MemPlace} (h : DataW.trod enc Tryz.prog w base spare held n 27 cs = some y) : ∃ d, rBoard.rd w cs d := by
  obtain ⟨xs, m, _, _, hl, hlen, hg⟩ := DataW.trod_struct Tryz.underlying27 h
  rw [cells_Board] at hl
  match cs, hl, xs, hlen with
  | [c0, c1], _, [y0, y1], _ =>
    have g0 : DataW.trod enc Tryz.prog w base spare held m 24 [c0] = some y0 := by
      have q := hg 0 _ rfl
      simpa [cells_Board_0, cells_Board_1] using q
    obtain ⟨x0, b0⟩ := ints_of_trod g0
    have g1 : DataW.trod enc Tryz.prog w base spare held m 25 [c1] = some y1 := by
      have q := hg 1 _ rfl
      simpa [cells_Board_0, cells_Board_1] using q
    obtain ⟨x1, b1⟩ := opens_EntryS g1
    exact ⟨⟨x0, x1⟩, ⟨_, _, rfl, b0, ⟨_, _, rfl, b1, rfl⟩⟩⟩
set_option maxRecDepth 100000 in
theorem arg_Board {r : Reach} {b0 : Nat} {v : Value} {d : DataW H} {p : List MemPlace} (hv : Value.okWide Tryz.prog w r b0 27 v) (h : DataW.Trod enc Tryz.prog w base spare held 27 v d p) : ∃ d, (kS rBoard).rd w v d := by
  obtain ⟨cs, rfl, hsz⟩ := okWide_struct Tryz.underlying27 hv
  obtain ⟨fuel, hf⟩ := h
  obtain ⟨d', hd⟩ := opens_Board (by simpa [Value.cells] using hf)
  exact ⟨d', cs.toList, by simp, hd⟩
end
end Go.Proofs.YtodennbdfloccaaGreat

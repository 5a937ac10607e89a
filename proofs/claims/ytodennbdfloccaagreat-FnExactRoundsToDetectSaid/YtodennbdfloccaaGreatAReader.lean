/- Arguments of type laws.Reader (printed by genarg.py). -/
import Derived.Test.YtodennbdfloccaaGreatBl
import Derived.Test.YtodennbdfloccaaGreatKReader
namespace Go.Proofs.YtodennbdfloccaaGreat
open Go.ChangeShapes Go.WideShapes Go.ChangeAt Go.RowKit
set_option linter.unusedVariables false
set_option linter.unusedSimpArgs false

section
variable {H : Type} {enc : TypeId × Value → H} {w : World} {base : Nat} {spare : Nat → Bool} {held : Bool}
open Go.Joins Go.Deep
theorem cells_Reader : Tryz.prog.cellsOf 97 = 1 := by kernel_rfl
theorem cells_Reader_0 : Tryz.prog.cellsOf 49 = 1 := by kernel_rfl
set_option maxRecDepth 100000 in
theorem opens_Reader {n : Nat} {cs : List Value} {y : DataW H × List MemPlace} (h : DataW.trod enc Tryz.prog w base spare held n 97 cs = some y) : ∃ d, rReader.rd w cs d := by
  obtain ⟨xs, m, _, _, hl, hlen, hg⟩ := DataW.trod_struct Tryz.underlying97 h
  rw [cells_Reader] at hl
  match cs, hl, xs, hlen with
  | [c0], _, [y0], _ =>
    have g0 : DataW.trod enc Tryz.prog w base spare held m 49 [c0] = some y0 := by
      have q := hg 0 _ rfl
      simpa [cells_Reader_0] using q
    obtain ⟨x0, b0⟩ := opens_HeadS g0
    exact ⟨⟨x0⟩, ⟨_, _, rfl, b0, rfl⟩⟩
set_option maxRecDepth 100000 in
theorem arg_Reader {r : Reach} {b0 : Nat} {v : Value} {d : DataW H} {p : List MemPlace} (hv : Value.okWide Tryz.prog w r b0 97 v) (h : DataW.Trod enc Tryz.prog w base spare held 97 v d p) : ∃ d, (kS rReader).rd w v d := by
  obtain ⟨cs, rfl, hsz⟩ := okWide_struct Tryz.underlying97 hv
  obtain ⟨fuel, hf⟩ := h
  obtain ⟨d', hd⟩ := opens_Reader (by simpa [Value.cells] using hf)
  exact ⟨d', cs.toList, by simp, hd⟩
set_option maxRecDepth 100000 in
theorem opens_ReaderS {n : Nat} {v : Value} {y : DataW H × List MemPlace} (h : DataW.trod enc Tryz.prog w base spare held n 68 [v] = some y) : ∃ ds, RdR rReader w v ds := by
  rcases DataW.trod_slice Tryz.underlying68 h with ⟨hcs, _⟩ | ⟨a, len, cap, elems, rest, m, _, hcs, _, hb, hl, hm, hlen, hel, _, _⟩
  · simp at hcs; subst hcs; exact ⟨[], RdR.nil _ w⟩
  · simp only [List.cons.injEq, and_true] at hcs; subst hcs
    refine rdR_of (R := rReader) (base := base) hl hm (fun i hi => ?_) (by decide)
    have h1 := hel i hi
    rw [List.getElem?_eq_getElem (by omega), Option.bind_eq_some_iff] at h1
    obtain ⟨cs, h2, h3⟩ := h1
    rw [cells_Reader] at h2
    obtain ⟨d, hd⟩ := opens_Reader h3
    exact ⟨cs, d, h2, hd⟩
set_option maxRecDepth 100000 in
theorem arg_ReaderS {r : Reach} {b0 : Nat} {v : Value} {d : DataW H} {p : List MemPlace} (hv : Value.okWide Tryz.prog w r b0 68 v) (h : DataW.Trod enc Tryz.prog w base spare held 68 v d p) : ∃ ds, RdR rReader w v ds := by
  obtain ⟨a, n, c, rfl⟩ := okWide_slice Tryz.underlying68 hv
  obtain ⟨fuel, hf⟩ := h
  exact opens_ReaderS (by simpa [Value.cells] using hf)
end
end Go.Proofs.YtodennbdfloccaaGreat

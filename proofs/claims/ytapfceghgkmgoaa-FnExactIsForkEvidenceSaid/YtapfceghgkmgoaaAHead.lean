/- Arguments of type laws.Head (printed by genarg.py). -/
import Derived.Test.YtapfceghgkmgoaaArgR
import Derived.Test.YtapfceghgkmgoaaKHead
import Derived.Test.YtapfceghgkmgoaaAProof
namespace Go.Proofs.Ytapfceghgkmgoaa
open Go.ChangeShapes Go.WideShapes Go.ChangeAt Go.RowKit
set_option linter.unusedVariables false
set_option linter.unusedSimpArgs false

section
variable {H : Type} {enc : TypeId × Value → H} {w : World} {base : Nat} {spare : Nat → Bool} {held : Bool}
open Go.Joins Go.Deep
theorem cells_Head : Try.prog.cellsOf 101 = 6 := by kernel_rfl
theorem cells_Head_0 : Try.prog.cellsOf 3 = 1 := by kernel_rfl
theorem cells_Head_1 : Try.prog.cellsOf 39 = 3 := by kernel_rfl
set_option maxRecDepth 100000 in
theorem opens_Head {n : Nat} {cs : List Value} {y : DataW H × List MemPlace} (h : DataW.trod enc Try.prog w base spare held n 101 cs = some y) : ∃ d, rHead.rd w cs d := by
  obtain ⟨xs, m, _, _, hl, hlen, hg⟩ := DataW.trod_struct Try.underlying101 h
  rw [cells_Head] at hl
  match cs, hl, xs, hlen with
  | [c0, c1, c2, c3, c4, c5], _, [y0, y1, y2, y3], _ =>
    have g0 : DataW.trod enc Try.prog w base spare held m 3 [c0] = some y0 := by
      have q := hg 0 _ rfl
      simpa [cells_Head_0, cells_Head_1] using q
    obtain ⟨x0, rfl, b0⟩ := int_cell Try.underlying3 g0
    have g1 : DataW.trod enc Try.prog w base spare held m 3 [c1] = some y1 := by
      have q := hg 1 _ rfl
      simpa [cells_Head_0, cells_Head_1] using q
    obtain ⟨x1, rfl, b1⟩ := int_cell Try.underlying3 g1
    have g2 : DataW.trod enc Try.prog w base spare held m 3 [c2] = some y2 := by
      have q := hg 2 _ rfl
      simpa [cells_Head_0, cells_Head_1] using q
    obtain ⟨x2, rfl, b2⟩ := int_cell Try.underlying3 g2
    have g3 : DataW.trod enc Try.prog w base spare held m 39 [c3, c4, c5] = some y3 := by
      have q := hg 3 _ rfl
      simpa [cells_Head_0, cells_Head_1] using q
    obtain ⟨x3, b3⟩ := opens_Proof g3
    exact ⟨⟨x0, x1, x2, x3⟩, ⟨_, rfl, wf_bd b0, ⟨_, rfl, wf_bd b1, ⟨_, rfl, wf_bd b2, b3⟩⟩⟩⟩
set_option maxRecDepth 100000 in
theorem arg_Head {r : Reach} {b0 : Nat} {v : Value} {d : DataW H} {p : List MemPlace} (hv : Value.okWide Try.prog w r b0 101 v) (h : DataW.Trod enc Try.prog w base spare held 101 v d p) : ∃ d, (kS rHead).rd w v d := by
  obtain ⟨cs, rfl, hsz⟩ := okWide_struct Try.underlying101 hv
  obtain ⟨fuel, hf⟩ := h
  obtain ⟨d', hd⟩ := opens_Head (by simpa [Value.cells] using hf)
  exact ⟨d', cs.toList, by simp, hd⟩
set_option maxRecDepth 100000 in
theorem opens_HeadS {n : Nat} {v : Value} {y : DataW H × List MemPlace} (h : DataW.trod enc Try.prog w base spare held n 135 [v] = some y) : ∃ ds, RdR rHead w v ds := by
  rcases DataW.trod_slice Try.underlying135 h with ⟨hcs, _⟩ | ⟨a, len, cap, elems, rest, m, _, hcs, _, hb, hl, hm, hlen, hel, _, _⟩
  · simp at hcs; subst hcs; exact ⟨[], RdR.nil _ w⟩
  · simp only [List.cons.injEq, and_true] at hcs; subst hcs
    refine rdR_of (R := rHead) (base := base) hl hm (fun i hi => ?_) (by decide)
    have h1 := hel i hi
    rw [List.getElem?_eq_getElem (by omega), Option.bind_eq_some_iff] at h1
    obtain ⟨cs, h2, h3⟩ := h1
    rw [cells_Head] at h2
    obtain ⟨d, hd⟩ := opens_Head h3
    exact ⟨cs, d, h2, hd⟩
set_option maxRecDepth 100000 in
theorem arg_HeadS {r : Reach} {b0 : Nat} {v : Value} {d : DataW H} {p : List MemPlace} (hv : Value.okWide Try.prog w r b0 135 v) (h : DataW.Trod enc Try.prog w base spare held 135 v d p) : ∃ ds, RdR rHead w v ds := by
  obtain ⟨a, n, c, rfl⟩ := okWide_slice Try.underlying135 hv
  obtain ⟨fuel, hf⟩ := h
  exact opens_HeadS (by simpa [Value.cells] using hf)
end
end Go.Proofs.Ytapfceghgkmgoaa

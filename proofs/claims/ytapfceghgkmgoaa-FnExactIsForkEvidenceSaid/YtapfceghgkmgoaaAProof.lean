/- Arguments of type laws.Proof (printed by genarg.py). -/
import Derived.Test.YtapfceghgkmgoaaArgR
import Derived.Test.YtapfceghgkmgoaaKProof
namespace Go.Proofs.Ytapfceghgkmgoaa
open Go.ChangeShapes Go.WideShapes Go.ChangeAt Go.RowKit
set_option linter.unusedVariables false
set_option linter.unusedSimpArgs false

section
variable {H : Type} {enc : TypeId × Value → H} {w : World} {base : Nat} {spare : Nat → Bool} {held : Bool}
open Go.Joins Go.Deep
theorem cells_Proof : Try.prog.cellsOf 39 = 3 := by kernel_rfl
theorem cells_Proof_0 : Try.prog.cellsOf 37 = 1 := by kernel_rfl
set_option maxRecDepth 100000 in
theorem opens_Proof {n : Nat} {cs : List Value} {y : DataW H × List MemPlace} (h : DataW.trod enc Try.prog w base spare held n 39 cs = some y) : ∃ d, rProof.rd w cs d := by
  obtain ⟨xs, m, _, _, hl, hlen, hg⟩ := DataW.trod_struct Try.underlying39 h
  rw [cells_Proof] at hl
  match cs, hl, xs, hlen with
  | [c0, c1, c2], _, [y0, y1, y2], _ =>
    have g0 : DataW.trod enc Try.prog w base spare held m 37 [c0] = some y0 := by
      have q := hg 0 _ rfl
      simpa [cells_Proof_0] using q
    obtain ⟨x0, b0⟩ := ints_of_trod g0
    have g1 : DataW.trod enc Try.prog w base spare held m 37 [c1] = some y1 := by
      have q := hg 1 _ rfl
      simpa [cells_Proof_0] using q
    obtain ⟨x1, b1⟩ := ints_of_trod g1
    have g2 : DataW.trod enc Try.prog w base spare held m 37 [c2] = some y2 := by
      have q := hg 2 _ rfl
      simpa [cells_Proof_0] using q
    obtain ⟨x2, b2⟩ := ints_of_trod g2
    exact ⟨⟨x0, x1, x2⟩, ⟨_, _, rfl, b0, ⟨_, _, rfl, b1, ⟨_, _, rfl, b2, rfl⟩⟩⟩⟩
set_option maxRecDepth 100000 in
theorem arg_Proof {r : Reach} {b0 : Nat} {v : Value} {d : DataW H} {p : List MemPlace} (hv : Value.okWide Try.prog w r b0 39 v) (h : DataW.Trod enc Try.prog w base spare held 39 v d p) : ∃ d, (kS rProof).rd w v d := by
  obtain ⟨cs, rfl, hsz⟩ := okWide_struct Try.underlying39 hv
  obtain ⟨fuel, hf⟩ := h
  obtain ⟨d', hd⟩ := opens_Proof (by simpa [Value.cells] using hf)
  exact ⟨d', cs.toList, by simp, hd⟩
set_option maxRecDepth 100000 in
theorem opens_ProofS {n : Nat} {v : Value} {y : DataW H × List MemPlace} (h : DataW.trod enc Try.prog w base spare held n 36 [v] = some y) : ∃ ds, RdR rProof w v ds := by
  rcases DataW.trod_slice Try.underlying36 h with ⟨hcs, _⟩ | ⟨a, len, cap, elems, rest, m, _, hcs, _, hb, hl, hm, hlen, hel, _, _⟩
  · simp at hcs; subst hcs; exact ⟨[], RdR.nil _ w⟩
  · simp only [List.cons.injEq, and_true] at hcs; subst hcs
    refine rdR_of (R := rProof) (base := base) hl hm (fun i hi => ?_) (by decide)
    have h1 := hel i hi
    rw [List.getElem?_eq_getElem (by omega), Option.bind_eq_some_iff] at h1
    obtain ⟨cs, h2, h3⟩ := h1
    rw [cells_Proof] at h2
    obtain ⟨d, hd⟩ := opens_Proof h3
    exact ⟨cs, d, h2, hd⟩
set_option maxRecDepth 100000 in
theorem arg_ProofS {r : Reach} {b0 : Nat} {v : Value} {d : DataW H} {p : List MemPlace} (hv : Value.okWide Try.prog w r b0 36 v) (h : DataW.Trod enc Try.prog w base spare held 36 v d p) : ∃ ds, RdR rProof w v ds := by
  obtain ⟨a, n, c, rfl⟩ := okWide_slice Try.underlying36 hv
  obtain ⟨fuel, hf⟩ := h
  exact opens_ProofS (by simpa [Value.cells] using hf)
end
end Go.Proofs.Ytapfceghgkmgoaa

/- Arguments of type laws.Cipher (printed by genarg.py). -/
import Derived.Test.YtcpigedjblkcfaaBl
import Derived.Test.YtcpigedjblkcfaaKCipher
namespace Go.Proofs.Ytcpigedjblkcfaa
open Go.ChangeShapes Go.WideShapes Go.ChangeAt Go.RowKit
set_option linter.unusedVariables false
set_option linter.unusedSimpArgs false

section
variable {H : Type} {enc : TypeId × Value → H} {w : World} {base : Nat} {spare : Nat → Bool} {held : Bool}
open Go.Joins Go.Deep
theorem cells_Cipher : Try.prog.cellsOf 218 = 2 := by kernel_rfl
theorem cells_Cipher_0 : Try.prog.cellsOf 3 = 1 := by kernel_rfl
set_option maxRecDepth 100000 in
theorem opens_Cipher {n : Nat} {cs : List Value} {y : DataW H × List MemPlace} (h : DataW.trod enc Try.prog w base spare held n 218 cs = some y) : ∃ d, rCipher.rd w cs d := by
  obtain ⟨xs, m, _, _, hl, hlen, hg⟩ := DataW.trod_struct Try.underlying218 h
  rw [cells_Cipher] at hl
  match cs, hl, xs, hlen with
  | [c0, c1], _, [y0, y1], _ =>
    have g0 : DataW.trod enc Try.prog w base spare held m 3 [c0] = some y0 := by
      have q := hg 0 _ rfl
      simpa [cells_Cipher_0] using q
    obtain ⟨x0, rfl, b0⟩ := int_cell Try.underlying3 g0
    have g1 : DataW.trod enc Try.prog w base spare held m 3 [c1] = some y1 := by
      have q := hg 1 _ rfl
      simpa [cells_Cipher_0] using q
    obtain ⟨x1, rfl, b1⟩ := int_cell Try.underlying3 g1
    exact ⟨⟨x0, x1⟩, ⟨_, rfl, wf_bd b0, ⟨_, rfl, wf_bd b1, rfl⟩⟩⟩
set_option maxRecDepth 100000 in
theorem arg_Cipher {r : Reach} {b0 : Nat} {v : Value} {d : DataW H} {p : List MemPlace} (hv : Value.okWide Try.prog w r b0 218 v) (h : DataW.Trod enc Try.prog w base spare held 218 v d p) : ∃ d, (kS rCipher).rd w v d := by
  obtain ⟨cs, rfl, hsz⟩ := okWide_struct Try.underlying218 hv
  obtain ⟨fuel, hf⟩ := h
  obtain ⟨d', hd⟩ := opens_Cipher (by simpa [Value.cells] using hf)
  exact ⟨d', cs.toList, by simp, hd⟩
set_option maxRecDepth 100000 in
theorem opens_CipherS {n : Nat} {v : Value} {y : DataW H × List MemPlace} (h : DataW.trod enc Try.prog w base spare held n 45 [v] = some y) : ∃ ds, RdR rCipher w v ds := by
  rcases DataW.trod_slice Try.underlying45 h with ⟨hcs, _⟩ | ⟨a, len, cap, elems, rest, m, _, hcs, _, hb, hl, hm, hlen, hel, _, _⟩
  · simp at hcs; subst hcs; exact ⟨[], RdR.nil _ w⟩
  · simp only [List.cons.injEq, and_true] at hcs; subst hcs
    refine rdR_of (R := rCipher) (base := base) hl hm (fun i hi => ?_) (by decide)
    have h1 := hel i hi
    rw [List.getElem?_eq_getElem (by omega), Option.bind_eq_some_iff] at h1
    obtain ⟨cs, h2, h3⟩ := h1
    rw [cells_Cipher] at h2
    obtain ⟨d, hd⟩ := opens_Cipher h3
    exact ⟨cs, d, h2, hd⟩
set_option maxRecDepth 100000 in
theorem arg_CipherS {r : Reach} {b0 : Nat} {v : Value} {d : DataW H} {p : List MemPlace} (hv : Value.okWide Try.prog w r b0 45 v) (h : DataW.Trod enc Try.prog w base spare held 45 v d p) : ∃ ds, RdR rCipher w v ds := by
  obtain ⟨a, n, c, rfl⟩ := okWide_slice Try.underlying45 hv
  obtain ⟨fuel, hf⟩ := h
  exact opens_CipherS (by simpa [Value.cells] using hf)
end
end Go.Proofs.Ytcpigedjblkcfaa

/- Arguments that are bytes. -/
import Derived.Test.YtacpnphfopmofaaBlD
import Derived.Test.YtacpnphfopmofaaCurLD
namespace Go.Proofs.Ytacpnphfopmofaa
open Go.ChangeShapes Go.WideShapes Go.ChangeAt Go.RowKit
set_option linter.unusedVariables false

section
variable {H : Type} {enc : TypeId × Value → H} {w : World} {base : Nat} {spare : Nat → Bool} {held : Bool}
theorem cells_byte : Try.prog.cellsOf 5 = 1 := by kernel_rfl
theorem wf_u8 {x : Int} (h : (Lit.int .u8 x).wf = true) : 0 ≤ x ∧ x ≤ 255 := by
  simpa [Lit.wf, IntKind.min, IntKind.max, IntKind.signed, IntKind.bits] using h
set_option maxRecDepth 100000 in
theorem bytes_of_trod {n : Nat} {v : Value} {y : DataW H × List MemPlace} (h : DataW.trod enc Try.prog w base spare held n 22 [v] = some y) : Bytes w v := by
  rcases open_ints Try.underlying22 Try.underlying5 cells_byte h with ⟨hcs, _⟩ | ⟨a, len, cap, zs, hcs, _, hl, hm, hz, _, hcell, hwz⟩
  · simp at hcs; subst hcs; exact ⟨none, 0, 0, rfl, Nat.le_refl _, Nat.zero_le _, .inl rfl⟩
  · simp only [List.cons.injEq, and_true] at hcs; subst hcs
    have hle : len ≤ zs.length := by rw [hz]; split <;> omega
    refine ⟨some a, len, cap, rfl, hl, hm, ?_⟩
    rcases Nat.eq_zero_or_pos len with h0 | h0
    · exact .inl h0
    · have hc0 := hcell 0 (by omega)
      have e : a.add 0 = a := by simp [Addr.add]
      rw [e] at hc0
      have ea := addr_of_cell hc0
      refine .inr ⟨a.block, a.off, by rw [← ea], fun i hi => ?_⟩
      have h1 := hcell i (by omega)
      rw [ea, Addr.add_lit] at h1
      refine ⟨_, h1, ?_⟩
      have h2 := hwz (zs.getD i 0) (by rw [List.getD_eq_getElem?_getD, List.getElem?_eq_getElem (by omega)]; exact List.getElem_mem _)
      exact wf_u8 h2
set_option maxRecDepth 100000 in
theorem bytes_of_arg {r : Reach} {b0 : Nat} {v : Value} {d : DataW H} {p : List MemPlace} (hv : Value.okWide Try.prog w r b0 22 v) (h : DataW.Trod enc Try.prog w base spare held 22 v d p) : Bytes w v := by
  obtain ⟨a, n, c, rfl⟩ := okWide_slice Try.underlying22 hv
  obtain ⟨fuel, hf⟩ := h
  exact bytes_of_trod (by simpa [Value.cells] using hf)
end
end Go.Proofs.Ytacpnphfopmofaa

/- Arguments that are slices of slices of integers. -/
import Derived.Test.YtodennbdfloccaaGreatBl
import Derived.Test.YtodennbdfloccaaGreatBa
namespace Go.Proofs.YtodennbdfloccaaGreat
open Go.ChangeShapes Go.WideShapes Go.ChangeAt Go.RowKit
set_option linter.unusedVariables false

section
variable {H : Type} {enc : TypeId × Value → H} {w : World} {base : Nat} {spare : Nat → Bool} {held : Bool}
open Go.Joins Go.Deep
theorem cells_ints : Tryz.prog.cellsOf 24 = 1 := by kernel_rfl
/-- from what each element reads as, the whole -/
theorem rdL_of {δ : Type} {K : Kind δ} {w : World} {a : Addr} {len cap : Nat} (hl : len ≤ cap) (hm : cap ≤ maxLen) (h : ∀ i, i < len → ∃ (u : Value) (d : δ), w.cell? (a.add i) = some u ∧ K.rd w u d) :
    ∃ ds, RdL K w (.slice (some a) len cap) ds := by
  rcases Nat.eq_zero_or_pos len with h0 | h0
  · subst h0
    exact ⟨[], some a, 0, cap, rfl, rfl, hl, hm, .inr (.inl ⟨a, rfl, rfl⟩)⟩
  · have h' : ∀ i : Fin len, ∃ (x : Value × δ), w.cell? (a.add i) = some x.1 ∧ K.rd w x.1 x.2 := fun i => by
      obtain ⟨u, d, h1, h2⟩ := h i.1 i.2; exact ⟨(u, d), h1, h2⟩
    let f : Fin len → Value × δ := fun i => Classical.choose (h' i)
    have hf : ∀ i : Fin len, w.cell? (a.add i) = some (f i).1 ∧ K.rd w (f i).1 (f i).2 := fun i => Classical.choose_spec (h' i)
    have ea : a = ⟨a.block, a.off, none⟩ := by
      have := (hf ⟨0, h0⟩).1
      have e : a.add 0 = a := by simp [Addr.add]
      rw [show ((⟨0, h0⟩ : Fin len) : Nat) = 0 from rfl, e] at this
      exact addr_of_cell this
    refine ⟨(List.finRange len).map fun i => (f i).2, some a, len, cap, rfl, by simp, hl, hm, .inr (.inr ⟨a.block, a.off, by rw [← ea], fun i => if hi : i < len then (f ⟨i, hi⟩).1 else undef, fun i hi => ?_⟩)⟩
    have hi' : i < len := by simpa using hi
    obtain ⟨h1, h2⟩ := hf ⟨i, hi'⟩
    rw [ea, Addr.add_lit] at h1
    refine ⟨?_, ?_⟩
    · simp only [dif_pos hi']; exact h1
    · simp only [dif_pos hi']; simpa using h2
theorem rows_of_trod {n : Nat} {v : Value} {y : DataW H × List MemPlace} (h : DataW.trod enc Tryz.prog w base spare held n 69 [v] = some y) : ∃ ls, RdL kInts w v ls := by
  rcases DataW.trod_slice Tryz.underlying69 h with ⟨hcs, _⟩ | ⟨a, len, cap, elems, rest, m, _, hcs, _, hb, hl, hm, hlen, hel, _, _⟩
  · simp at hcs; subst hcs; exact ⟨[], RdL.nil _ w⟩
  · simp only [List.cons.injEq, and_true] at hcs; subst hcs
    refine rdL_of hl hm fun i hi => ?_
    have h1 := hel i hi
    rw [List.getElem?_eq_getElem (by omega), Option.bind_eq_some_iff] at h1
    obtain ⟨cs, h2, h3⟩ := h1
    rw [cells_ints, Nat.mul_one] at h2
    obtain ⟨a', l', c', rfl⟩ := slice_form Tryz.underlying24 h3
    obtain ⟨l, hl⟩ := ints_of_trod h3
    exact ⟨_, l, cell_of_cells?_one h2, hl⟩
set_option maxRecDepth 100000 in
theorem rows_of_arg {r : Reach} {b0 : Nat} {v : Value} {d : DataW H} {p : List MemPlace} (hv : Value.okWide Tryz.prog w r b0 69 v) (h : DataW.Trod enc Tryz.prog w base spare held 69 v d p) : ∃ ls, RdL kInts w v ls := by
  obtain ⟨a, n, c, rfl⟩ := okWide_slice Tryz.underlying69 hv
  obtain ⟨fuel, hf⟩ := h
  exact rows_of_trod (by simpa [Value.cells] using hf)
end
end Go.Proofs.YtodennbdfloccaaGreat

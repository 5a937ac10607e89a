/- Arguments that are slices of structs. -/
import Derived.Test.YtapfceghgkmgoaaLaw
import Derived.Test.YtapfceghgkmgoaaRows1
namespace Go.Proofs.Ytapfceghgkmgoaa
open Go.ChangeShapes Go.WideShapes Go.ChangeAt Go.RowKit
set_option linter.unusedVariables false

theorem rdR_of {δ : Type} {R : RowK δ} {w : World} {base : Nat} {a : Addr} {len cap : Nat} (hl : len ≤ cap) (hm : cap ≤ maxLen) (h : ∀ i, i < len → ∃ (cs : List Value) (d : δ), w.cells? base (a.add (i * R.width)) R.width = some cs ∧ R.rd w cs d) :
    0 < R.width → ∃ ds, RdR R w (.slice (some a) len cap) ds := by
  intro hpos
  rcases Nat.eq_zero_or_pos len with h0 | h0
  · subst h0
    exact ⟨[], some a, 0, cap, rfl, rfl, hl, hm, .inr (.inl ⟨a, rfl, rfl⟩)⟩
  · have h' : ∀ i : Fin len, ∃ (x : List Value × δ), w.cells? base (a.add (i * R.width)) R.width = some x.1 ∧ R.rd w x.1 x.2 := fun i => by
      obtain ⟨u, d, h1, h2⟩ := h i.1 i.2; exact ⟨(u, d), h1, h2⟩
    let f : Fin len → List Value × δ := fun i => Classical.choose (h' i)
    have hf : ∀ i : Fin len, w.cells? base (a.add (i * R.width)) R.width = some (f i).1 ∧ R.rd w (f i).1 (f i).2 := fun i => Classical.choose_spec (h' i)
    have ea : a = ⟨a.block, a.off, none⟩ := by
      have h1 := (World.cells?_some (hf ⟨0, h0⟩).1).2.2 0 (by omega)
      rw [show ((⟨0, h0⟩ : Fin len) : Nat) = 0 from rfl, Nat.zero_mul] at h1
      have e : (a.add 0).add 0 = a := by simp [Addr.add]
      rw [e, List.getElem?_eq_getElem (by rw [R.rd_len (hf ⟨0, h0⟩).2]; omega)] at h1
      exact addr_of_cell h1
    refine ⟨(List.finRange len).map fun i => (f i).2, some a, len, cap, rfl, by simp, hl, hm, .inr (.inr ⟨a.block, a.off, by rw [← ea], fun i hi => ?_⟩)⟩
    have hi' : i < len := by simpa using hi
    obtain ⟨h1, h2⟩ := hf ⟨i, hi'⟩
    refine ⟨(f ⟨i, hi'⟩).1, fun k hk => ?_, ?_⟩
    · have h3 := (World.cells?_some h1).2.2 k hk
      have e : ∀ (b o x y : Nat), (((⟨b, o, none⟩ : Addr).add x).add y) = ⟨b, o + (x + y), none⟩ := fun b o x y => by rw [Addr.add_lit, Addr.add_lit, Nat.add_assoc]
      rw [← h3, ← e, ← ea]
    · simpa using h2
end Go.Proofs.Ytapfceghgkmgoaa

/-
  The law FnExactCoinsForSeal returns true for every contest, and leaves its argument as it was.
  Conditions: none.
-/
import Derived.Test.YtlkhkoemfmjloaaCt
import Derived.Test.YtlkhkoemfmjloaaLaw
namespace Go.Proofs.Ytlkhkoemfmjloaa.lawCoinsForSeal
open Go.ChangeShapes Go.WideShapes Go.ChangeAt Go.RowKit
set_option linter.unusedVariables false

set_option maxRecDepth 100000 in
theorem lifted (os : Os) (started : os.Started) (H : Type) (enc : TypeId × Value → H) :
    ReturnsInHanded {} Try.checked os 3 .any (Rows.fnExactCoinsForSealSpec.pre6 enc Try.prog Try.f3 Rows.fnExactCoinsForSealRow.domain false) (Rows.fnExactCoinsForSealSpec.post enc Try.prog Try.f3 false true false false) := by
  refine returnsInHanded_of_change (C := Try.checked) ownKnob_none started (by kernel_rfl) Try.func3
    (ChangeSpec.witness6 (enc := enc) (C := Try.checked) false ⟨#[], #[.agg #[.int .i64 0, .int .i64 0, .int .i64 0, .int .i64 0, .int .i64 0]], []⟩ 8 (by kernel_rfl) (by kernel_rfl) (by kernel_rfl) (by kernel_rfl)) ?_
  intro W base args ds gs before hval hW _ _
  have hW' := hW
  obtain ⟨p, q, hA0, hV, rfl, hfz, hnd⟩ := hW
  have hA : DataW.TrodAll enc Try.prog W 0 (fun _ => true) true Try.f3.params.toList args.toList ds p := hA0
  rw [Try.params3] at hA hval
  obtain ⟨v0, vs0, d0, ds0, p0, q0, hargs, rfl, rfl, h0, r0⟩ := trodAll_cons hA
  obtain ⟨rfl, rfl, rfl⟩ := trodAll_nil r0
  obtain rfl : args = #[v0] := by cases args; simp_all
  obtain ⟨c0, c1, c2, c3, c4, y0, y1, y2, y3, y4, m, rfl, _, _, hy0, hy1, hy2, hy3, hy4⟩ := open_agg5 Try.underlying23 (by kernel_rfl) (by kernel_rfl) (hval 0 23 v0 rfl rfl) h0
  obtain ⟨x0, rfl, _⟩ := int_cell Try.underlying3 hy0
  obtain ⟨x1, rfl, _⟩ := int_cell Try.underlying3 hy1
  obtain ⟨x2, rfl, _⟩ := int_cell Try.underlying3 hy2
  obtain ⟨x3, rfl, _⟩ := int_cell Try.underlying3 hy3
  obtain ⟨x4, rfl, _⟩ := int_cell Try.underlying3 hy4
  refine (law_CoinsForSeal x0 x1 x2 x3 x4 W).mono fun e W' ⟨he, hb⟩ => ?_
  subst he
  exact ⟨_, rfl, post_law laid_out (by kernel_rfl) (by kernel_rfl) Try.underlying4 rfl hW' rfl hb⟩

theorem said : Rows.FnExactCoinsForSealSaid :=
  OpenClaim.holds_of_wide 3 Try.f3 rfl rfl rfl rfl rfl rfl rfl ⟨rfl, rfl, rfl, rfl, rfl⟩ rfl rfl rfl rfl rfl (by kernel_rfl) Try.func3 (by kernel_rfl)
    (of_decide_eq_true (by kernel_rfl)) (by unfold Func.isWrapper; first | (rw [if_pos (by decide +kernel)]; kernel_rfl) | (rw [if_neg (by decide +kernel)]; exact ⟨rfl, rfl⟩))
    (fun os started H enc _ => lifted os started H enc)
end Go.Proofs.Ytlkhkoemfmjloaa.lawCoinsForSeal

/-
  The law FnExactMergeHeads returns true for all arguments, and leaves its arguments as they were.
  Conditions: none.
-/
import Derived.Test.YtaobocbbaoanhaaLawMerge
import Derived.Test.YtaobocbbaoanhaaLaw
import Derived.Test.YtaobocbbaoanhaaAHead
namespace Go.Proofs.Ytaobocbbaoanhaa.lawMergeHeads
open Go.ChangeShapes Go.WideShapes Go.ChangeAt Go.RowKit
set_option linter.unusedVariables false

set_option maxRecDepth 100000 in
theorem lifted (os : Os) (started : os.Started) (H : Type) (enc : TypeId × Value → H) :
    ReturnsInHanded {} Try.checked os 4 .any (Rows.fnExactMergeHeadsSpec.pre6 enc Try.prog Try.f4 Rows.fnExactMergeHeadsRow.domain false) (Rows.fnExactMergeHeadsSpec.post enc Try.prog Try.f4 false true false false) := by
  refine returnsInHanded_of_change (C := Try.checked) ownKnob_none started (by kernel_rfl) Try.func4
    (ChangeSpec.witness6 (enc := enc) (C := Try.checked) false ⟨#[], #[.slice none 0 0, .slice none 0 0], []⟩ 8 (by kernel_rfl) (by kernel_rfl) (by kernel_rfl) (by kernel_rfl)) ?_
  intro W base args ds gs before hval hW _ _
  have hW' := hW
  obtain ⟨p, q, hA0, hV, rfl, hfz, hnd⟩ := hW
  have hA : DataW.TrodAll enc Try.prog W 0 (fun _ => true) true Try.f4.params.toList args.toList ds p := hA0
  rw [Try.params4] at hA hval
  obtain ⟨v0, vs0, d0, ds0, p0, q0, hargs, rfl, rfl, h0, r0⟩ := trodAll_cons hA
  obtain ⟨v1, vs1, d1, ds1, p1, q1, rfl, rfl, rfl, h1, r1⟩ := trodAll_cons r0
  obtain ⟨rfl, rfl, rfl⟩ := trodAll_nil r1
  obtain rfl : args = #[v0, v1] := by cases args; simp_all
  obtain ⟨l0, hl0⟩ := arg_HeadS (hval 0 38 v0 rfl rfl) h0
  obtain ⟨l1, hl1⟩ := arg_HeadS (hval 1 38 v1 rfl rfl) h1
  refine (law_MergeHeads v0 l0 v1 l1 W hl0 hl1).mono fun e W' ⟨he, hb⟩ => ?_
  subst he
  exact ⟨_, rfl, post_law laid_out (by kernel_rfl) (by kernel_rfl) Try.underlying4 rfl hW' rfl hb⟩

theorem said : Rows.FnExactMergeHeadsSaid :=
  OpenClaim.holds_of_wide 4 Try.f4 rfl rfl rfl rfl rfl rfl rfl ⟨rfl, rfl, rfl, rfl, rfl⟩ rfl rfl rfl rfl rfl (by kernel_rfl) Try.func4 (by kernel_rfl)
    (of_decide_eq_true (by kernel_rfl)) (by unfold Func.isWrapper; first | (rw [if_pos (by decide +kernel)]; kernel_rfl) | (rw [if_neg (by decide +kernel)]; exact ⟨rfl, rfl⟩))
    (fun os started H enc _ => lifted os started H enc)
end Go.Proofs.Ytaobocbbaoanhaa.lawMergeHeads

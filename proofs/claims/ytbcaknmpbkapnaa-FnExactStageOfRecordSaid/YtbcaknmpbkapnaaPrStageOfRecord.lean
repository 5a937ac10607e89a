/-
  The law FnExactStageOfRecord returns true for all arguments, and leaves its arguments as they were.
  Conditions: none.
-/
import Derived.Test.YtbcaknmpbkapnaaLawTO
import Derived.Test.YtbcaknmpbkapnaaBl
namespace Go.Proofs.Ytbcaknmpbkapnaa.lawStageOfRecord
open Go.ChangeShapes Go.WideShapes Go.ChangeAt Go.RowKit
set_option linter.unusedVariables false

set_option maxRecDepth 100000 in
theorem lifted (os : Os) (started : os.Started) (H : Type) (enc : TypeId × Value → H) :
    ReturnsInHanded {} Try.checked os 4 .any (Rows.fnExactStageOfRecordSpec.pre6 enc Try.prog Try.f4 Rows.fnExactStageOfRecordRow.domain false) (Rows.fnExactStageOfRecordSpec.post enc Try.prog Try.f4 false true false false) := by
  refine returnsInHanded_of_change (C := Try.checked) ownKnob_none started (by kernel_rfl) Try.func4
    (ChangeSpec.witness6 (enc := enc) (C := Try.checked) false ⟨#[], #[.slice none 0 0], []⟩ 8 (by kernel_rfl) (by kernel_rfl) (by kernel_rfl) (by kernel_rfl)) ?_
  intro W base args ds gs before hval hW _ _
  have hW' := hW
  obtain ⟨p, q, hA0, hV, rfl, hfz, hnd⟩ := hW
  have hA : DataW.TrodAll enc Try.prog W 0 (fun _ => true) true Try.f4.params.toList args.toList ds p := hA0
  rw [Try.params4] at hA hval
  obtain ⟨v0, vs0, d0, ds0, p0, q0, hargs, rfl, rfl, h0, r0⟩ := trodAll_cons hA
  obtain ⟨rfl, rfl, rfl⟩ := trodAll_nil r0
  obtain rfl : args = #[v0] := by cases args; simp_all
  obtain ⟨l0, hl0⟩ := ints_of_arg (hval 0 22 v0 rfl rfl) h0
  refine (law_StageOfRecord v0 l0 W hl0).mono fun e W' ⟨he, hb⟩ => ?_
  subst he
  exact ⟨_, rfl, post_law laid_out (by kernel_rfl) (by kernel_rfl) Try.underlying4 rfl hW' rfl hb⟩

theorem named : Rows.fnExactStageOfRecordRow.func = Rows.fnExactStageOfRecordRow.func ∧ Try.pinned.checked.prog.funcNamed Rows.fnExactStageOfRecordRow.func = some 4 := ⟨rfl, by kernel_rfl⟩
theorem and2 {a b : Bool} (ha : a = true) (hb : b = true) : (a && b) = true := by rw [ha, hb]; rfl
set_option maxHeartbeats 20000000 in
theorem closed : joinedFacts Try.pinned.checked.prog 4 Try.f4 Rows.fnExactStageOfRecordSpec Rows.fnExactStageOfRecordRow = true := by
  unfold joinedFacts
  repeat' (with_reducible refine and2 ?_ ?_)
  all_goals as_aux_lemma => kernel_rfl
theorem instance_ : Try.f4.isInstance Try.pinned.checked.prog Rows.fnExactStageOfRecordRow.origin Rows.fnExactStageOfRecordRow.targs := of_decide_eq_true (by kernel_rfl)
theorem wrapper_ : Try.f4.isWrapper Try.pinned.checked.prog Rows.fnExactStageOfRecordRow.wrapper Rows.fnExactStageOfRecordRow.mainSum := by unfold Func.isWrapper; first | (rw [if_pos (by decide +kernel)]; kernel_rfl) | (rw [if_neg (by decide +kernel)]; exact ⟨rfl, rfl⟩)
theorem said : Rows.FnExactStageOfRecordSaid :=
  OpenClaim.holds_of_wide 4 Try.f4 rfl rfl rfl rfl rfl rfl rfl ⟨rfl, rfl, rfl, rfl, rfl⟩ rfl rfl rfl rfl rfl named.2 Try.func4 closed instance_ wrapper_
    (fun os started H enc _ => lifted os started H enc)
end Go.Proofs.Ytbcaknmpbkapnaa.lawStageOfRecord

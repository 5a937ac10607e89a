/-
  The law FnExactVerifyHead returns true for all arguments, and leaves its arguments as they were.
  Conditions: none.
-/
import Derived.Test.YtlapmdcjfopbaaaLawVHead
import Derived.Test.YtlapmdcjfopbaaaLaw
import Derived.Test.YtlapmdcjfopbaaaAGroup
import Derived.Test.YtlapmdcjfopbaaaAHead
namespace Go.Proofs.Ytlapmdcjfopbaaa.lawVerifyHead
open Go.ChangeShapes Go.WideShapes Go.ChangeAt Go.RowKit
set_option linter.unusedVariables false

set_option maxRecDepth 100000 in
theorem lifted (os : Os) (started : os.Started) (H : Type) (enc : TypeId × Value → H) :
    ReturnsInHanded {} Try.checked os 12 .any (Rows.fnExactVerifyHeadSpec.pre6 enc Try.prog Try.f12 Rows.fnExactVerifyHeadRow.domain false) (Rows.fnExactVerifyHeadSpec.post enc Try.prog Try.f12 false true false false) := by
  refine returnsInHanded_of_change (C := Try.checked) ownKnob_none started (by kernel_rfl) Try.func12
    (ChangeSpec.witness6 (enc := enc) (C := Try.checked) false ⟨#[], #[.agg #[.int .i64 0, .int .i64 0, .int .i64 0], .int .i64 0, .agg #[.int .i64 0, .int .i64 0, .int .i64 0, .slice none 0 0, .slice none 0 0, .slice none 0 0]], []⟩ 8 (by kernel_rfl) (by kernel_rfl) (by kernel_rfl) (by kernel_rfl)) ?_
  intro W base args ds gs before hval hW _ _
  have hW' := hW
  obtain ⟨p, q, hA0, hV, rfl, hfz, hnd⟩ := hW
  have hA : DataW.TrodAll enc Try.prog W 0 (fun _ => true) true Try.f12.params.toList args.toList ds p := hA0
  rw [Try.params12] at hA hval
  obtain ⟨v0, vs0, d0, ds0, p0, q0, hargs, rfl, rfl, h0, r0⟩ := trodAll_cons hA
  obtain ⟨v1, vs1, d1, ds1, p1, q1, rfl, rfl, rfl, h1, r1⟩ := trodAll_cons r0
  obtain ⟨v2, vs2, d2, ds2, p2, q2, rfl, rfl, rfl, h2, r2⟩ := trodAll_cons r1
  obtain ⟨rfl, rfl, rfl⟩ := trodAll_nil r2
  obtain rfl : args = #[v0, v1, v2] := by cases args; simp_all
  obtain ⟨g0, rfl⟩ := group_of_arg (hval 0 101 v0 rfl rfl) h0
  obtain ⟨x1, rfl, hx1⟩ := int_of_arg (hval 1 3 v1 rfl rfl) h1
  obtain ⟨l2, hl2⟩ := arg_Head (hval 2 103 v2 rfl rfl) h2
  refine (law_VerifyHead g0 x1 v2 l2 W hx1 hl2).mono fun e W' ⟨he, hb⟩ => ?_
  subst he
  exact ⟨_, rfl, post_law laid_out (by kernel_rfl) (by kernel_rfl) Try.underlying4 rfl hW' rfl hb⟩

theorem named : Rows.fnExactVerifyHeadRow.func = Rows.fnExactVerifyHeadRow.func ∧ Try.pinned.checked.prog.funcNamed Rows.fnExactVerifyHeadRow.func = some 12 := ⟨rfl, by kernel_rfl⟩
theorem closed : joinedFacts Try.pinned.checked.prog 12 Try.f12 Rows.fnExactVerifyHeadSpec Rows.fnExactVerifyHeadRow = true := by kernel_rfl
theorem instance_ : Try.f12.isInstance Try.pinned.checked.prog Rows.fnExactVerifyHeadRow.origin Rows.fnExactVerifyHeadRow.targs := of_decide_eq_true (by kernel_rfl)
theorem wrapper_ : Try.f12.isWrapper Try.pinned.checked.prog Rows.fnExactVerifyHeadRow.wrapper Rows.fnExactVerifyHeadRow.mainSum := by unfold Func.isWrapper; first | (rw [if_pos (by decide +kernel)]; kernel_rfl) | (rw [if_neg (by decide +kernel)]; exact ⟨rfl, rfl⟩)
theorem said : Rows.FnExactVerifyHeadSaid :=
  OpenClaim.holds_of_wide 12 Try.f12 rfl rfl rfl rfl rfl rfl rfl ⟨rfl, rfl, rfl, rfl, rfl⟩ rfl rfl rfl rfl rfl named.2 Try.func12 closed instance_ wrapper_
    (fun os started H enc _ => lifted os started H enc)
end Go.Proofs.Ytlapmdcjfopbaaa.lawVerifyHead

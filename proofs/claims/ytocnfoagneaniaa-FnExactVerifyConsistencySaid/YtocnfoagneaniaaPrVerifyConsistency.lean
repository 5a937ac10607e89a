/-
  The law FnExactVerifyConsistency returns true for all arguments, and leaves its arguments as they were.
  Conditions: none.
-/
import Derived.Test.YtocnfoagneaniaaLawMerkle2
import Derived.Test.YtocnfoagneaniaaLaw
namespace Go.Proofs.Ytocnfoagneaniaa.lawVerifyConsistency
open Go.ChangeShapes Go.WideShapes Go.ChangeAt Go.RowKit
set_option linter.unusedVariables false

set_option maxRecDepth 100000 in
theorem lifted (os : Os) (started : os.Started) (H : Type) (enc : TypeId × Value → H) :
    ReturnsInHanded {} Try.checked os 5 .any (Rows.fnExactVerifyConsistencySpec.pre6 enc Try.prog Try.f5 Rows.fnExactVerifyConsistencyRow.domain false) (Rows.fnExactVerifyConsistencySpec.post enc Try.prog Try.f5 false true false false) := by
  refine returnsInHanded_of_change (C := Try.checked) ownKnob_none started (by kernel_rfl) Try.func5
    (ChangeSpec.witness6 (enc := enc) (C := Try.checked) false ⟨#[], #[.int .i64 0, .int .i64 0, .int .i64 0, .int .i64 0, .slice none 0 0], []⟩ 8 (by kernel_rfl) (by kernel_rfl) (by kernel_rfl) (by kernel_rfl)) ?_
  intro W base args ds gs before hval hW _ _
  have hW' := hW
  obtain ⟨p, q, hA0, hV, rfl, hfz, hnd⟩ := hW
  have hA : DataW.TrodAll enc Try.prog W 0 (fun _ => true) true Try.f5.params.toList args.toList ds p := hA0
  rw [Try.params5] at hA hval
  obtain ⟨v0, vs0, d0, ds0, p0, q0, hargs, rfl, rfl, h0, r0⟩ := trodAll_cons hA
  obtain ⟨v1, vs1, d1, ds1, p1, q1, rfl, rfl, rfl, h1, r1⟩ := trodAll_cons r0
  obtain ⟨v2, vs2, d2, ds2, p2, q2, rfl, rfl, rfl, h2, r2⟩ := trodAll_cons r1
  obtain ⟨v3, vs3, d3, ds3, p3, q3, rfl, rfl, rfl, h3, r3⟩ := trodAll_cons r2
  obtain ⟨v4, vs4, d4, ds4, p4, q4, rfl, rfl, rfl, h4, r4⟩ := trodAll_cons r3
  obtain ⟨rfl, rfl, rfl⟩ := trodAll_nil r4
  obtain rfl : args = #[v0, v1, v2, v3, v4] := by cases args; simp_all
  obtain ⟨x0, rfl, hx0⟩ := int_of_arg (hval 0 3 v0 rfl rfl) h0
  obtain ⟨x1, rfl, hx1⟩ := int_of_arg (hval 1 3 v1 rfl rfl) h1
  obtain ⟨x2, rfl, hx2⟩ := int_of_arg (hval 2 3 v2 rfl rfl) h2
  obtain ⟨x3, rfl, hx3⟩ := int_of_arg (hval 3 3 v3 rfl rfl) h3
  obtain ⟨l4, hl4⟩ := ints_of_arg (hval 4 22 v4 rfl rfl) h4
  refine (law_VerifyConsistency x0 x1 x2 x3 v4 l4 W hx0 hx1 hx2 hx3 hl4).mono fun e W' ⟨he, hb⟩ => ?_
  subst he
  exact ⟨_, rfl, post_law laid_out (by kernel_rfl) (by kernel_rfl) Try.underlying4 rfl hW' rfl hb⟩

theorem said : Rows.FnExactVerifyConsistencySaid :=
  OpenClaim.holds_of_wide 5 Try.f5 rfl rfl rfl rfl rfl rfl rfl ⟨rfl, rfl, rfl, rfl, rfl⟩ rfl rfl rfl rfl rfl (by kernel_rfl) Try.func5 (by kernel_rfl)
    (of_decide_eq_true (by kernel_rfl)) (by unfold Func.isWrapper; first | (rw [if_pos (by decide +kernel)]; kernel_rfl) | (rw [if_neg (by decide +kernel)]; exact ⟨rfl, rfl⟩))
    (fun os started H enc _ => lifted os started H enc)
end Go.Proofs.Ytocnfoagneaniaa.lawVerifyConsistency

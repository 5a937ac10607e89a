/-
  The law FnExactCoinsFor returns true for all arguments, and leaves its arguments as they were.
  Conditions: none.
-/
import Derived.Test.YtcpigedjblkcfaaLawPl2
import Derived.Test.YtcpigedjblkcfaaBl
import Derived.Test.YtcpigedjblkcfaaAPlan
import Derived.Test.YtcpigedjblkcfaaArgT
namespace Go.Proofs.Ytcpigedjblkcfaa.lawCoinsFor
open Go.ChangeShapes Go.WideShapes Go.ChangeAt Go.RowKit
set_option linter.unusedVariables false

set_option maxRecDepth 100000 in
theorem lifted (os : Os) (started : os.Started) (H : Type) (enc : TypeId × Value → H) :
    ReturnsInHanded {} Try.checked os 5 .any (Rows.fnExactCoinsForSpec.pre6 enc Try.prog Try.f5 Rows.fnExactCoinsForRow.domain false) (Rows.fnExactCoinsForSpec.post enc Try.prog Try.f5 false true false false) := by
  refine returnsInHanded_of_change (C := Try.checked) ownKnob_none started (by kernel_rfl) Try.func5
    (ChangeSpec.witness6 (enc := enc) (C := Try.checked) false ⟨#[], #[.agg #[.int .i64 0, .int .i64 0, .int .i64 0, .int .i64 0, .int .i64 0, .int .i64 0, .int .i64 0, .int .i64 0, .int .i64 0, .int .i64 0, .int .i64 0, .int .i64 0, .int .i64 0], .string { data := #[] }, .int .i64 0, .int .i64 0], []⟩ 8 (by kernel_rfl) (by kernel_rfl) (by kernel_rfl) (by kernel_rfl)) ?_
  intro W base args ds gs before hval hW _ _
  have hW' := hW
  obtain ⟨p, q, hA0, hV, rfl, hfz, hnd⟩ := hW
  have hA : DataW.TrodAll enc Try.prog W 0 (fun _ => true) true Try.f5.params.toList args.toList ds p := hA0
  rw [Try.params5] at hA hval
  obtain ⟨v0, vs0, d0, ds0, p0, q0, hargs, rfl, rfl, h0, r0⟩ := trodAll_cons hA
  obtain ⟨v1, vs1, d1, ds1, p1, q1, rfl, rfl, rfl, h1, r1⟩ := trodAll_cons r0
  obtain ⟨v2, vs2, d2, ds2, p2, q2, rfl, rfl, rfl, h2, r2⟩ := trodAll_cons r1
  obtain ⟨v3, vs3, d3, ds3, p3, q3, rfl, rfl, rfl, h3, r3⟩ := trodAll_cons r2
  obtain ⟨rfl, rfl, rfl⟩ := trodAll_nil r3
  obtain rfl : args = #[v0, v1, v2, v3] := by cases args; simp_all
  obtain ⟨a0_0, a0_1, a0_2, a0_3, a0_4, a0_5, a0_6, a0_7, a0_8, a0_9, a0_10, a0_11, a0_12, rfl⟩ := plan_of_arg (hval 0 27 v0 rfl rfl) h0
  obtain ⟨x1, rfl⟩ := string_of_arg (hval 1 9 v1 rfl rfl) h1
  obtain ⟨x2, rfl, hx2⟩ := int_of_arg (hval 2 3 v2 rfl rfl) h2
  obtain ⟨x3, rfl, hx3⟩ := int_of_arg (hval 3 3 v3 rfl rfl) h3
  refine (law_CoinsFor ⟨a0_0, a0_1, a0_2, a0_3, a0_4, a0_5, a0_6, a0_7, a0_8, a0_9, a0_10, a0_11, a0_12⟩ x1 x2 x3 W hx2 hx3).mono fun e W' ⟨he, hb⟩ => ?_
  subst he
  exact ⟨_, rfl, post_law laid_out (by kernel_rfl) (by kernel_rfl) Try.underlying4 rfl hW' rfl hb⟩

theorem named : Rows.fnExactCoinsForRow.func = Rows.fnExactCoinsForRow.func ∧ Try.pinned.checked.prog.funcNamed Rows.fnExactCoinsForRow.func = some 5 := ⟨rfl, by kernel_rfl⟩
theorem and2 {a b : Bool} (ha : a = true) (hb : b = true) : (a && b) = true := by rw [ha, hb]; rfl
set_option maxHeartbeats 20000000 in
theorem closed : joinedFacts Try.pinned.checked.prog 5 Try.f5 Rows.fnExactCoinsForSpec Rows.fnExactCoinsForRow = true := by
  unfold joinedFacts
  repeat' (with_reducible refine and2 ?_ ?_)
  all_goals as_aux_lemma => kernel_rfl
theorem instance_ : Try.f5.isInstance Try.pinned.checked.prog Rows.fnExactCoinsForRow.origin Rows.fnExactCoinsForRow.targs := of_decide_eq_true (by kernel_rfl)
theorem wrapper_ : Try.f5.isWrapper Try.pinned.checked.prog Rows.fnExactCoinsForRow.wrapper Rows.fnExactCoinsForRow.mainSum := by unfold Func.isWrapper; first | (rw [if_pos (by decide +kernel)]; kernel_rfl) | (rw [if_neg (by decide +kernel)]; exact ⟨rfl, rfl⟩)
theorem said : Rows.FnExactCoinsForSaid :=
  OpenClaim.holds_of_wide 5 Try.f5 rfl rfl rfl rfl rfl rfl rfl ⟨rfl, rfl, rfl, rfl, rfl⟩ rfl rfl rfl rfl rfl named.2 Try.func5 closed instance_ wrapper_
    (fun os started H enc _ => lifted os started H enc)
end Go.Proofs.Ytcpigedjblkcfaa.lawCoinsFor

/-
  The law FnExactVerifyEntry returns true for all arguments, and leaves its arguments as they were.
  Conditions: none.
-/
import Derived.Test.YtlapmdcjfopbaaaLawVEntry
import Derived.Test.YtlapmdcjfopbaaaLaw
import Derived.Test.YtlapmdcjfopbaaaAGroup
import Derived.Test.YtlapmdcjfopbaaaAEntry
namespace Go.Proofs.Ytlapmdcjfopbaaa.lawVerifyEntry
open Go.ChangeShapes Go.WideShapes Go.ChangeAt Go.RowKit
set_option linter.unusedVariables false

set_option maxRecDepth 100000 in
theorem lifted (os : Os) (started : os.Started) (H : Type) (enc : TypeId × Value → H) :
    ReturnsInHanded {} Try.checked os 14 .any (Rows.fnExactVerifyEntrySpec.pre6 enc Try.prog Try.f14 Rows.fnExactVerifyEntryRow.domain false) (Rows.fnExactVerifyEntrySpec.post enc Try.prog Try.f14 false true false false) := by
  refine returnsInHanded_of_change (C := Try.checked) ownKnob_none started (by kernel_rfl) Try.func14
    (ChangeSpec.witness6 (enc := enc) (C := Try.checked) false ⟨#[], #[.agg #[.int .i64 0, .int .i64 0, .int .i64 0], .int .i64 0, .int .i64 0, .agg #[.int .i64 0, .int .i64 0, .slice none 0 0, .slice none 0 0, .slice none 0 0, .slice none 0 0]], []⟩ 8 (by kernel_rfl) (by kernel_rfl) (by kernel_rfl) (by kernel_rfl)) ?_
  intro W base args ds gs before hval hW _ _
  have hW' := hW
  obtain ⟨p, q, hA0, hV, rfl, hfz, hnd⟩ := hW
  have hA : DataW.TrodAll enc Try.prog W 0 (fun _ => true) true Try.f14.params.toList args.toList ds p := hA0
  rw [Try.params14] at hA hval
  obtain ⟨v0, vs0, d0, ds0, p0, q0, hargs, rfl, rfl, h0, r0⟩ := trodAll_cons hA
  obtain ⟨v1, vs1, d1, ds1, p1, q1, rfl, rfl, rfl, h1, r1⟩ := trodAll_cons r0
  obtain ⟨v2, vs2, d2, ds2, p2, q2, rfl, rfl, rfl, h2, r2⟩ := trodAll_cons r1
  obtain ⟨v3, vs3, d3, ds3, p3, q3, rfl, rfl, rfl, h3, r3⟩ := trodAll_cons r2
  obtain ⟨rfl, rfl, rfl⟩ := trodAll_nil r3
  obtain rfl : args = #[v0, v1, v2, v3] := by cases args; simp_all
  obtain ⟨g0, rfl⟩ := group_of_arg (hval 0 101 v0 rfl rfl) h0
  obtain ⟨x1, rfl, hx1⟩ := int_of_arg (hval 1 3 v1 rfl rfl) h1
  obtain ⟨x2, rfl, hx2⟩ := int_of_arg (hval 2 3 v2 rfl rfl) h2
  obtain ⟨l3, hl3⟩ := arg_Entry (hval 3 118 v3 rfl rfl) h3
  refine (law_VerifyEntry g0 x1 x2 v3 l3 W hx1 hx2 hl3).mono fun e W' ⟨he, hb⟩ => ?_
  subst he
  exact ⟨_, rfl, post_law laid_out (by kernel_rfl) (by kernel_rfl) Try.underlying4 rfl hW' rfl hb⟩

theorem named : Rows.fnExactVerifyEntryRow.func = Rows.fnExactVerifyEntryRow.func ∧ Try.pinned.checked.prog.funcNamed Rows.fnExactVerifyEntryRow.func = some 14 := ⟨rfl, by kernel_rfl⟩
theorem and2 {a b : Bool} (ha : a = true) (hb : b = true) : (a && b) = true := by rw [ha, hb]; rfl
set_option maxHeartbeats 20000000 in
theorem closed : joinedFacts Try.pinned.checked.prog 14 Try.f14 Rows.fnExactVerifyEntrySpec Rows.fnExactVerifyEntryRow = true := by
  unfold joinedFacts
  repeat' (with_reducible refine and2 ?_ ?_)
  all_goals as_aux_lemma => kernel_rfl
theorem instance_ : Try.f14.isInstance Try.pinned.checked.prog Rows.fnExactVerifyEntryRow.origin Rows.fnExactVerifyEntryRow.targs := of_decide_eq_true (by kernel_rfl)
theorem wrapper_ : Try.f14.isWrapper Try.pinned.checked.prog Rows.fnExactVerifyEntryRow.wrapper Rows.fnExactVerifyEntryRow.mainSum := by unfold Func.isWrapper; first | (rw [if_pos (by decide +kernel)]; kernel_rfl) | (rw [if_neg (by decide +kernel)]; exact ⟨rfl, rfl⟩)
theorem said : Rows.FnExactVerifyEntrySaid :=
  OpenClaim.holds_of_wide 14 Try.f14 rfl rfl rfl rfl rfl rfl rfl ⟨rfl, rfl, rfl, rfl, rfl⟩ rfl rfl rfl rfl rfl named.2 Try.func14 closed instance_ wrapper_
    (fun os started H enc _ => lifted os started H enc)
end Go.Proofs.Ytlapmdcjfopbaaa.lawVerifyEntry

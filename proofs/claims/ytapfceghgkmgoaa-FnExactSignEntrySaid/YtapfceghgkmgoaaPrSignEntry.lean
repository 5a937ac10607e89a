/-
  The law FnExactSignEntry returns true for all arguments, and leaves its arguments as they were.
  Conditions: none.
-/
import Derived.Test.YtapfceghgkmgoaaLawSignE
import Derived.Test.YtapfceghgkmgoaaBl
namespace Go.Proofs.Ytapfceghgkmgoaa.lawSignEntry
open Go.ChangeShapes Go.WideShapes Go.ChangeAt Go.RowKit
set_option linter.unusedVariables false

set_option maxRecDepth 100000 in
theorem lifted (os : Os) (started : os.Started) (H : Type) (enc : TypeId × Value → H) :
    ReturnsInHanded {} Try.checked os 10 .any (Rows.fnExactSignEntrySpec.pre6 enc Try.prog Try.f10 Rows.fnExactSignEntryRow.domain false) (Rows.fnExactSignEntrySpec.post enc Try.prog Try.f10 false true false false) := by
  refine returnsInHanded_of_change (C := Try.checked) ownKnob_none started (by kernel_rfl) Try.func10
    (ChangeSpec.witness6 (enc := enc) (C := Try.checked) false ⟨#[], #[.agg #[.int .i64 0, .int .i64 0, .int .i64 0], .int .i64 0, .int .i64 0, .int .i64 0, .int .i64 0, .slice none 0 0, .int .i64 0], []⟩ 8 (by kernel_rfl) (by kernel_rfl) (by kernel_rfl) (by kernel_rfl)) ?_
  intro W base args ds gs before hval hW _ _
  have hW' := hW
  obtain ⟨p, q, hA0, hV, rfl, hfz, hnd⟩ := hW
  have hA : DataW.TrodAll enc Try.prog W 0 (fun _ => true) true Try.f10.params.toList args.toList ds p := hA0
  rw [Try.params10] at hA hval
  obtain ⟨v0, vs0, d0, ds0, p0, q0, hargs, rfl, rfl, h0, r0⟩ := trodAll_cons hA
  obtain ⟨v1, vs1, d1, ds1, p1, q1, rfl, rfl, rfl, h1, r1⟩ := trodAll_cons r0
  obtain ⟨v2, vs2, d2, ds2, p2, q2, rfl, rfl, rfl, h2, r2⟩ := trodAll_cons r1
  obtain ⟨v3, vs3, d3, ds3, p3, q3, rfl, rfl, rfl, h3, r3⟩ := trodAll_cons r2
  obtain ⟨v4, vs4, d4, ds4, p4, q4, rfl, rfl, rfl, h4, r4⟩ := trodAll_cons r3
  obtain ⟨v5, vs5, d5, ds5, p5, q5, rfl, rfl, rfl, h5, r5⟩ := trodAll_cons r4
  obtain ⟨v6, vs6, d6, ds6, p6, q6, rfl, rfl, rfl, h6, r6⟩ := trodAll_cons r5
  obtain ⟨rfl, rfl, rfl⟩ := trodAll_nil r6
  obtain rfl : args = #[v0, v1, v2, v3, v4, v5, v6] := by cases args; simp_all
  obtain ⟨g0, rfl, hx0⟩ := group_of_arg2 (hval 0 83 v0 rfl rfl) h0
  obtain ⟨x1, rfl, hx1⟩ := int_of_arg (hval 1 3 v1 rfl rfl) h1
  obtain ⟨x2, rfl, hx2⟩ := int_of_arg (hval 2 3 v2 rfl rfl) h2
  obtain ⟨x3, rfl, hx3⟩ := int_of_arg (hval 3 3 v3 rfl rfl) h3
  obtain ⟨x4, rfl, hx4⟩ := int_of_arg (hval 4 3 v4 rfl rfl) h4
  obtain ⟨l5, hl5⟩ := ints_of_arg (hval 5 37 v5 rfl rfl) h5
  obtain ⟨x6, rfl, hx6⟩ := int_of_arg (hval 6 3 v6 rfl rfl) h6
  refine (law_SignEntry g0 x1 x2 x3 x4 v5 l5 x6 W hx0 hx1 hx2 hx3 hx4 hl5 hx6).mono fun e W' ⟨he, hb⟩ => ?_
  subst he
  exact ⟨_, rfl, post_law laid_out (by kernel_rfl) (by kernel_rfl) Try.underlying4 rfl hW' rfl hb⟩

theorem named : Rows.fnExactSignEntryRow.func = Rows.fnExactSignEntryRow.func ∧ Try.pinned.checked.prog.funcNamed Rows.fnExactSignEntryRow.func = some 10 := ⟨rfl, by kernel_rfl⟩
theorem and2 {a b : Bool} (ha : a = true) (hb : b = true) : (a && b) = true := by rw [ha, hb]; rfl
set_option maxHeartbeats 20000000 in
theorem closed : joinedFacts Try.pinned.checked.prog 10 Try.f10 Rows.fnExactSignEntrySpec Rows.fnExactSignEntryRow = true := by
  unfold joinedFacts
  repeat' (with_reducible refine and2 ?_ ?_)
  all_goals as_aux_lemma => kernel_rfl
theorem instance_ : Try.f10.isInstance Try.pinned.checked.prog Rows.fnExactSignEntryRow.origin Rows.fnExactSignEntryRow.targs := of_decide_eq_true (by kernel_rfl)
theorem wrapper_ : Try.f10.isWrapper Try.pinned.checked.prog Rows.fnExactSignEntryRow.wrapper Rows.fnExactSignEntryRow.mainSum := by unfold Func.isWrapper; first | (rw [if_pos (by decide +kernel)]; kernel_rfl) | (rw [if_neg (by decide +kernel)]; exact ⟨rfl, rfl⟩)
theorem said : Rows.FnExactSignEntrySaid :=
  OpenClaim.holds_of_wide 10 Try.f10 rfl rfl rfl rfl rfl rfl rfl ⟨rfl, rfl, rfl, rfl, rfl⟩ rfl rfl rfl rfl rfl named.2 Try.func10 closed instance_ wrapper_
    (fun os started H enc _ => lifted os started H enc)
end Go.Proofs.Ytapfceghgkmgoaa.lawSignEntry

/-
  The law FnExactRoundsToDetect returns true for all arguments, and leaves its arguments as they were.
  Conditions: none.
-/
import Derived.Test.YtodennbdfloccaaGreatLawDet
import Derived.Test.YtodennbdfloccaaGreatLawRows
import Derived.Test.YtodennbdfloccaaGreatBl
import Derived.Test.YtodennbdfloccaaGreatAReader
namespace Go.Proofs.YtodennbdfloccaaGreat.lawRoundsToDetect
open Go.ChangeShapes Go.WideShapes Go.ChangeAt Go.RowKit
set_option linter.unusedVariables false

set_option maxRecDepth 100000 in
theorem lifted (os : Os) (started : os.Started) (H : Type) (enc : TypeId × Value → H) :
    ReturnsInHanded {} Tryz.checked os 6 .any (Rows.fnExactRoundsToDetectSpec.pre6 enc Tryz.prog Tryz.f6 Rows.fnExactRoundsToDetectRow.domain false) (Rows.fnExactRoundsToDetectSpec.post enc Tryz.prog Tryz.f6 false true false false) := by
  refine returnsInHanded_of_change (C := Tryz.checked) ownKnob_none started (by kernel_rfl) Tryz.func6
    (ChangeSpec.witness6 (enc := enc) (C := Tryz.checked) false ⟨#[], #[.agg #[.int .i64 0, .int .i64 0, .int .i64 0], .slice none 0 0, .slice none 0 0, .slice none 0 0, .int .i64 0], []⟩ 8 (by kernel_rfl) (by kernel_rfl) (by kernel_rfl) (by kernel_rfl)) ?_
  intro W base args ds gs before hval hW _ _
  have hW' := hW
  obtain ⟨p, q, hA0, hV, rfl, hfz, hnd⟩ := hW
  have hA : DataW.TrodAll enc Tryz.prog W 0 (fun _ => true) true Tryz.f6.params.toList args.toList ds p := hA0
  rw [Tryz.params6] at hA hval
  obtain ⟨v0, vs0, d0, ds0, p0, q0, hargs, rfl, rfl, h0, r0⟩ := trodAll_cons hA
  obtain ⟨v1, vs1, d1, ds1, p1, q1, rfl, rfl, rfl, h1, r1⟩ := trodAll_cons r0
  obtain ⟨v2, vs2, d2, ds2, p2, q2, rfl, rfl, rfl, h2, r2⟩ := trodAll_cons r1
  obtain ⟨v3, vs3, d3, ds3, p3, q3, rfl, rfl, rfl, h3, r3⟩ := trodAll_cons r2
  obtain ⟨v4, vs4, d4, ds4, p4, q4, rfl, rfl, rfl, h4, r4⟩ := trodAll_cons r3
  obtain ⟨rfl, rfl, rfl⟩ := trodAll_nil r4
  obtain rfl : args = #[v0, v1, v2, v3, v4] := by cases args; simp_all
  obtain ⟨g0, rfl⟩ := group_of_arg (hval 0 23 v0 rfl rfl) h0
  obtain ⟨l1, hl1⟩ := ints_of_arg (hval 1 24 v1 rfl rfl) h1
  obtain ⟨l2, hl2⟩ := arg_ReaderS (hval 2 68 v2 rfl rfl) h2
  obtain ⟨l3, hl3⟩ := rows_of_arg (hval 3 69 v3 rfl rfl) h3
  obtain ⟨x4, rfl, hx4⟩ := int_of_arg (hval 4 3 v4 rfl rfl) h4
  refine (law_RoundsToDetect g0 v1 l1 v2 l2 v3 l3 x4 W hl1 hl2 hl3 hx4).mono fun e W' ⟨he, hb⟩ => ?_
  subst he
  exact ⟨_, rfl, post_law laid_out (by kernel_rfl) (by kernel_rfl) Tryz.underlying4 rfl hW' rfl hb⟩

theorem named : Rows.fnExactRoundsToDetectRow.func = Rows.fnExactRoundsToDetectRow.func ∧ Tryz.pinned.checked.prog.funcNamed Rows.fnExactRoundsToDetectRow.func = some 6 := ⟨rfl, by kernel_rfl⟩
theorem and2 {a b : Bool} (ha : a = true) (hb : b = true) : (a && b) = true := by rw [ha, hb]; rfl
set_option maxHeartbeats 20000000 in
theorem closed : joinedFacts Tryz.pinned.checked.prog 6 Tryz.f6 Rows.fnExactRoundsToDetectSpec Rows.fnExactRoundsToDetectRow = true := by
  unfold joinedFacts
  repeat' (with_reducible refine and2 ?_ ?_)
  all_goals as_aux_lemma => kernel_rfl
theorem instance_ : Tryz.f6.isInstance Tryz.pinned.checked.prog Rows.fnExactRoundsToDetectRow.origin Rows.fnExactRoundsToDetectRow.targs := of_decide_eq_true (by kernel_rfl)
theorem wrapper_ : Tryz.f6.isWrapper Tryz.pinned.checked.prog Rows.fnExactRoundsToDetectRow.wrapper Rows.fnExactRoundsToDetectRow.mainSum := by unfold Func.isWrapper; first | (rw [if_pos (by decide +kernel)]; kernel_rfl) | (rw [if_neg (by decide +kernel)]; exact ⟨rfl, rfl⟩)
theorem said : Rows.FnExactRoundsToDetectSaid :=
  OpenClaim.holds_of_wide 6 Tryz.f6 rfl rfl rfl rfl rfl rfl rfl ⟨rfl, rfl, rfl, rfl, rfl⟩ rfl rfl rfl rfl rfl named.2 Tryz.func6 closed instance_ wrapper_
    (fun os started H enc _ => lifted os started H enc)
end Go.Proofs.YtodennbdfloccaaGreat.lawRoundsToDetect

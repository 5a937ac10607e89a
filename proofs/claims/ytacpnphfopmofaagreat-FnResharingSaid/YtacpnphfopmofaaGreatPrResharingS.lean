/-
  The law FnResharing returns true for all arguments, and leaves its arguments as they were.
  Conditions: none.
-/
import Derived.Test.YtacpnphfopmofaaGreatLawDS
namespace Go.Proofs.YtacpnphfopmofaaGreat.lawResharing
open Go.ChangeShapes Go.WideShapes Go.ChangeAt Go.RowKit
set_option linter.unusedVariables false

set_option maxRecDepth 100000 in
theorem lifted (os : Os) (started : os.Started) (H : Type) (enc : TypeId × Value → H) :
    ReturnsInHanded {} Tryz.checked os 4 .any (Rows.fnResharingSpec.pre6 enc Tryz.prog Tryz.f4 Rows.fnResharingRow.domain false) (Rows.fnResharingSpec.post enc Tryz.prog Tryz.f4 false true false false) := by
  refine returnsInHanded_of_change (C := Tryz.checked) ownKnob_none started (by kernel_rfl) Tryz.func4
    (ChangeSpec.witness6 (enc := enc) (C := Tryz.checked) false ⟨#[], #[.slice none 0 0, .slice none 0 0], []⟩ 8 (by kernel_rfl) (by kernel_rfl) (by kernel_rfl) (by kernel_rfl)) ?_
  intro W base args ds gs before hval hW _ _
  have hW' := hW
  obtain ⟨p, q, hA0, hV, rfl, hfz, hnd⟩ := hW
  have hA : DataW.TrodAll enc Tryz.prog W 0 (fun _ => true) true Tryz.f4.params.toList args.toList ds p := hA0
  rw [Tryz.params4] at hA hval
  obtain ⟨v0, vs0, d0, ds0, p0, q0, hargs, rfl, rfl, h0, r0⟩ := trodAll_cons hA
  obtain ⟨v1, vs1, d1, ds1, p1, q1, rfl, rfl, rfl, h1, r1⟩ := trodAll_cons r0
  obtain ⟨rfl, rfl, rfl⟩ := trodAll_nil r1
  obtain rfl : args = #[v0, v1] := by cases args; simp_all
  have hl0 := bytes_of_arg (hval 0 22 v0 rfl rfl) h0
  have hl1 := bytes_of_arg (hval 1 22 v1 rfl rfl) h1
  refine (law_Resharing v0 v1 W hl0 hl1).mono fun e W' ⟨he, hb⟩ => ?_
  subst he
  exact ⟨_, rfl, post_law laid_out (by kernel_rfl) (by kernel_rfl) Tryz.underlying4 rfl hW' rfl hb⟩

theorem named : Rows.fnResharingRow.func = Rows.fnResharingRow.func ∧ Tryz.pinned.checked.prog.funcNamed Rows.fnResharingRow.func = some 4 := ⟨rfl, by kernel_rfl⟩
theorem and2 {a b : Bool} (ha : a = true) (hb : b = true) : (a && b) = true := by rw [ha, hb]; rfl
set_option maxHeartbeats 20000000 in
theorem closed : joinedFacts Tryz.pinned.checked.prog 4 Tryz.f4 Rows.fnResharingSpec Rows.fnResharingRow = true := by
  unfold joinedFacts
  repeat' (with_reducible refine and2 ?_ ?_)
  all_goals as_aux_lemma => kernel_rfl
theorem instance_ : Tryz.f4.isInstance Tryz.pinned.checked.prog Rows.fnResharingRow.origin Rows.fnResharingRow.targs := of_decide_eq_true (by kernel_rfl)
theorem wrapper_ : Tryz.f4.isWrapper Tryz.pinned.checked.prog Rows.fnResharingRow.wrapper Rows.fnResharingRow.mainSum := by unfold Func.isWrapper; first | (rw [if_pos (by decide +kernel)]; kernel_rfl) | (rw [if_neg (by decide +kernel)]; exact ⟨rfl, rfl⟩)
theorem said : Rows.FnResharingSaid :=
  OpenClaim.holds_of_wide 4 Tryz.f4 rfl rfl rfl rfl rfl rfl rfl ⟨rfl, rfl, rfl, rfl, rfl⟩ rfl rfl rfl rfl rfl named.2 Tryz.func4 closed instance_ wrapper_
    (fun os started H enc _ => lifted os started H enc)
end Go.Proofs.YtacpnphfopmofaaGreat.lawResharing

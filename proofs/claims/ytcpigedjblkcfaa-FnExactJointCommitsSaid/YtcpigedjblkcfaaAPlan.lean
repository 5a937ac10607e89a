/- Arguments of type laws.Plan. -/
import Derived.Test.YtcpigedjblkcfaaBl
import Derived.Test.YtcpigedjblkcfaaPlanL
namespace Go.Proofs.Ytcpigedjblkcfaa
open Go.ChangeShapes Go.WideShapes Go.ChangeAt Go.RowKit
set_option linter.unusedVariables false
set_option linter.unusedSimpArgs false

section
variable {H : Type} {enc : TypeId × Value → H} {w : World} {base : Nat} {spare : Nat → Bool} {held : Bool}
open Go.Joins Go.Deep
theorem cells_Plan : Try.prog.cellsOf 27 = 13 := by kernel_rfl
theorem cells_Plan_0 : Try.prog.cellsOf 3 = 1 := by kernel_rfl
theorem cells_Plan_1 : Try.prog.cellsOf 23 = 3 := by kernel_rfl
theorem cells_Plan_2 : Try.prog.cellsOf 25 = 5 := by kernel_rfl
set_option maxRecDepth 100000 in
theorem opens_PlanG {n : Nat} {c0 c1 c2 : Value} {y : DataW H × List MemPlace} (h : DataW.trod enc Try.prog w base spare held n 23 [c0, c1, c2] = some y) : ∃ x0 x1 x2, [c0, c1, c2] = [.int .i64 x0, .int .i64 x1, .int .i64 x2] := by
  obtain ⟨xs, m, _, _, hl, hlen, hgm⟩ := DataW.trod_struct Try.underlying23 h
  match xs, hlen with
  | [z0, z1, z2], _ =>
      have q0 : DataW.trod enc Try.prog w base spare held m 3 [c0] = some z0 := by
        have qq := hgm 0 _ rfl
        simpa [cells_Plan, cells_Plan_0, cells_Plan_1, cells_Plan_2] using qq
      obtain ⟨_, rfl, _⟩ := int_cell Try.underlying3 q0
      have q1 : DataW.trod enc Try.prog w base spare held m 3 [c1] = some z1 := by
        have qq := hgm 1 _ rfl
        simpa [cells_Plan, cells_Plan_0, cells_Plan_1, cells_Plan_2] using qq
      obtain ⟨_, rfl, _⟩ := int_cell Try.underlying3 q1
      have q2 : DataW.trod enc Try.prog w base spare held m 3 [c2] = some z2 := by
        have qq := hgm 2 _ rfl
        simpa [cells_Plan, cells_Plan_0, cells_Plan_1, cells_Plan_2] using qq
      obtain ⟨_, rfl, _⟩ := int_cell Try.underlying3 q2
      exact ⟨_, _, _, rfl⟩
set_option maxRecDepth 100000 in
theorem opens_PlanC {n : Nat} {c0 c1 c2 c3 c4 : Value} {y : DataW H × List MemPlace} (h : DataW.trod enc Try.prog w base spare held n 25 [c0, c1, c2, c3, c4] = some y) : ∃ x0 x1 x2 x3 x4, [c0, c1, c2, c3, c4] = [.int .i64 x0, .int .i64 x1, .int .i64 x2, .int .i64 x3, .int .i64 x4] := by
  obtain ⟨xs, m, _, _, hl, hlen, hgm⟩ := DataW.trod_struct Try.underlying25 h
  match xs, hlen with
  | [z0, z1, z2, z3, z4], _ =>
      have q0 : DataW.trod enc Try.prog w base spare held m 3 [c0] = some z0 := by
        have qq := hgm 0 _ rfl
        simpa [cells_Plan, cells_Plan_0, cells_Plan_1, cells_Plan_2] using qq
      obtain ⟨_, rfl, _⟩ := int_cell Try.underlying3 q0
      have q1 : DataW.trod enc Try.prog w base spare held m 3 [c1] = some z1 := by
        have qq := hgm 1 _ rfl
        simpa [cells_Plan, cells_Plan_0, cells_Plan_1, cells_Plan_2] using qq
      obtain ⟨_, rfl, _⟩ := int_cell Try.underlying3 q1
      have q2 : DataW.trod enc Try.prog w base spare held m 3 [c2] = some z2 := by
        have qq := hgm 2 _ rfl
        simpa [cells_Plan, cells_Plan_0, cells_Plan_1, cells_Plan_2] using qq
      obtain ⟨_, rfl, _⟩ := int_cell Try.underlying3 q2
      have q3 : DataW.trod enc Try.prog w base spare held m 3 [c3] = some z3 := by
        have qq := hgm 3 _ rfl
        simpa [cells_Plan, cells_Plan_0, cells_Plan_1, cells_Plan_2] using qq
      obtain ⟨_, rfl, _⟩ := int_cell Try.underlying3 q3
      have q4 : DataW.trod enc Try.prog w base spare held m 3 [c4] = some z4 := by
        have qq := hgm 4 _ rfl
        simpa [cells_Plan, cells_Plan_0, cells_Plan_1, cells_Plan_2] using qq
      obtain ⟨_, rfl, _⟩ := int_cell Try.underlying3 q4
      exact ⟨_, _, _, _, _, rfl⟩
set_option maxRecDepth 100000 in
set_option maxHeartbeats 1000000 in
theorem opens_Plan {n : Nat} {cs : List Value} {y : DataW H × List MemPlace} (h : DataW.trod enc Try.prog w base spare held n 27 cs = some y) : ∃ p q g k o l m pt th tr mx vt sd : Int, cs = [.int .i64 p, .int .i64 q, .int .i64 g, .int .i64 k, .int .i64 o, .int .i64 l, .int .i64 m, .int .i64 pt, .int .i64 th, .int .i64 tr, .int .i64 mx, .int .i64 vt, .int .i64 sd] := by
  obtain ⟨xs, m, _, _, hl, hlen, hgm⟩ := DataW.trod_struct Try.underlying27 h
  rw [cells_Plan] at hl
  match cs, hl, xs, hlen with
  | [c0, c1, c2, c3, c4, c5, c6, c7, c8, c9, c10, c11, c12], _, [z0, z1, z2, z3, z4, z5, z6], _ =>
      have q0 : DataW.trod enc Try.prog w base spare held m 23 [c0, c1, c2] = some z0 := by
        have qq := hgm 0 _ rfl
        simpa [cells_Plan, cells_Plan_0, cells_Plan_1, cells_Plan_2] using qq
      have q1 : DataW.trod enc Try.prog w base spare held m 25 [c3, c4, c5, c6, c7] = some z1 := by
        have qq := hgm 1 _ rfl
        simpa [cells_Plan, cells_Plan_0, cells_Plan_1, cells_Plan_2] using qq
      have q2 : DataW.trod enc Try.prog w base spare held m 3 [c8] = some z2 := by
        have qq := hgm 2 _ rfl
        simpa [cells_Plan, cells_Plan_0, cells_Plan_1, cells_Plan_2] using qq
      obtain ⟨_, rfl, _⟩ := int_cell Try.underlying3 q2
      have q3 : DataW.trod enc Try.prog w base spare held m 3 [c9] = some z3 := by
        have qq := hgm 3 _ rfl
        simpa [cells_Plan, cells_Plan_0, cells_Plan_1, cells_Plan_2] using qq
      obtain ⟨_, rfl, _⟩ := int_cell Try.underlying3 q3
      have q4 : DataW.trod enc Try.prog w base spare held m 3 [c10] = some z4 := by
        have qq := hgm 4 _ rfl
        simpa [cells_Plan, cells_Plan_0, cells_Plan_1, cells_Plan_2] using qq
      obtain ⟨_, rfl, _⟩ := int_cell Try.underlying3 q4
      have q5 : DataW.trod enc Try.prog w base spare held m 3 [c11] = some z5 := by
        have qq := hgm 5 _ rfl
        simpa [cells_Plan, cells_Plan_0, cells_Plan_1, cells_Plan_2] using qq
      obtain ⟨_, rfl, _⟩ := int_cell Try.underlying3 q5
      have q6 : DataW.trod enc Try.prog w base spare held m 3 [c12] = some z6 := by
        have qq := hgm 6 _ rfl
        simpa [cells_Plan, cells_Plan_0, cells_Plan_1, cells_Plan_2] using qq
      obtain ⟨_, rfl, _⟩ := int_cell Try.underlying3 q6
      obtain ⟨a0, a1, a2, ea⟩ := opens_PlanG q0
      obtain ⟨b0, b1, b2, b3, b4, eb⟩ := opens_PlanC q1
      simp only [List.cons.injEq, and_true] at ea eb
      obtain ⟨rfl, rfl, rfl⟩ := ea
      obtain ⟨rfl, rfl, rfl, rfl, rfl⟩ := eb
      exact ⟨_, _, _, _, _, _, _, _, _, _, _, _, _, rfl⟩
set_option maxRecDepth 100000 in
theorem plan_of_arg {r : Reach} {b0 : Nat} {v : Value} {d : DataW H} {pl : List MemPlace} (hv : Value.okWide Try.prog w r b0 27 v) (h : DataW.Trod enc Try.prog w base spare held 27 v d pl) : ∃ p q g k o l m pt th tr mx vt sd : Int, v = .agg #[.int .i64 p, .int .i64 q, .int .i64 g, .int .i64 k, .int .i64 o, .int .i64 l, .int .i64 m, .int .i64 pt, .int .i64 th, .int .i64 tr, .int .i64 mx, .int .i64 vt, .int .i64 sd] := by
  obtain ⟨cs, rfl, hsz⟩ := okWide_struct Try.underlying27 hv
  obtain ⟨fuel, hf⟩ := h
  obtain ⟨p, q, g, k, o, l, m, pt, th, tr, mx, vt, sd, e⟩ := opens_Plan (by simpa [Value.cells] using hf)
  refine ⟨p, q, g, k, o, l, m, pt, th, tr, mx, vt, sd, ?_⟩
  congr 1
  rw [← Array.toList_inj, e]
end
end Go.Proofs.Ytcpigedjblkcfaa

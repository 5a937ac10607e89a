/- The walks of laws, by program (genlaw4.py). -/
import Derived.Test.YtcpigedjblkcfaaPl7
import Derived.Test.YtcpigedjblkcfaaPlanL
namespace Go.Proofs.Ytcpigedjblkcfaa
open Go.RowKit
set_option linter.unusedSimpArgs false
set_option linter.unusedVariables false

set_option maxRecDepth 100000 in
set_option maxHeartbeats 2000000 in
theorem law_JointCommits (aP : PlanD) (w : World)  :
    Calls Try.prog 7 #[.agg #[.int .i64 aP.p, .int .i64 aP.q, .int .i64 aP.g, .int .i64 aP.k, .int .i64 aP.o, .int .i64 aP.l, .int .i64 aP.m, .int .i64 aP.pt, .int .i64 aP.th, .int .i64 aP.tr, .int .i64 aP.mx, .int .i64 aP.vt, .int .i64 aP.sd]] w fun e w' => e = .returned (.bool true) ∧ Below w.heap.size w w' := by
  obtain ⟨W, hW⟩ : ∃ W, W = w.alloc (.cells #[.int .i64 aP.p, .int .i64 aP.q, .int .i64 aP.g, .int .i64 aP.k, .int .i64 aP.o, .int .i64 aP.l, .int .i64 aP.m, .int .i64 aP.pt, .int .i64 aP.th, .int .i64 aP.tr, .int .i64 aP.mx, .int .i64 aP.vt, .int .i64 aP.sd] 27) := ⟨_, rfl⟩
  have HWB : Hid (Below w.heap.size w W) := by unfold Hid; rw [hW]; (repeat (first | exact Below.refl _ _ | assumption | refine Below.drew ?_ | refine Below.alloc ?_ (by first | (simp; done) | (simp; omega)) _ | refine Below.setCell ?_ (by first | (simp; done) | (simp; omega)) _))
  have BXaP0 : Hid (W.cell? ⟨w.heap.size, 0, none⟩ = some (.int .i64 aP.p)) := by unfold Hid; rw [hW]; simp [go_sem]
  have BXaP1 : Hid (W.cell? ⟨w.heap.size, 1, none⟩ = some (.int .i64 aP.q)) := by unfold Hid; rw [hW]; simp [go_sem]
  have BXaP2 : Hid (W.cell? ⟨w.heap.size, 2, none⟩ = some (.int .i64 aP.g)) := by unfold Hid; rw [hW]; simp [go_sem]
  have BXaP3 : Hid (W.cell? ⟨w.heap.size, 3, none⟩ = some (.int .i64 aP.k)) := by unfold Hid; rw [hW]; simp [go_sem]
  have BXaP4 : Hid (W.cell? ⟨w.heap.size, 4, none⟩ = some (.int .i64 aP.o)) := by unfold Hid; rw [hW]; simp [go_sem]
  have BXaP5 : Hid (W.cell? ⟨w.heap.size, 5, none⟩ = some (.int .i64 aP.l)) := by unfold Hid; rw [hW]; simp [go_sem]
  have BXaP6 : Hid (W.cell? ⟨w.heap.size, 6, none⟩ = some (.int .i64 aP.m)) := by unfold Hid; rw [hW]; simp [go_sem]
  have BXaP7 : Hid (W.cell? ⟨w.heap.size, 7, none⟩ = some (.int .i64 aP.pt)) := by unfold Hid; rw [hW]; simp [go_sem]
  have BXaP8 : Hid (W.cell? ⟨w.heap.size, 8, none⟩ = some (.int .i64 aP.th)) := by unfold Hid; rw [hW]; simp [go_sem]
  have BXaP9 : Hid (W.cell? ⟨w.heap.size, 9, none⟩ = some (.int .i64 aP.tr)) := by unfold Hid; rw [hW]; simp [go_sem]
  have BXaP10 : Hid (W.cell? ⟨w.heap.size, 10, none⟩ = some (.int .i64 aP.mx)) := by unfold Hid; rw [hW]; simp [go_sem]
  have BXaP11 : Hid (W.cell? ⟨w.heap.size, 11, none⟩ = some (.int .i64 aP.vt)) := by unfold Hid; rw [hW]; simp [go_sem]
  have BXaP12 : Hid (W.cell? ⟨w.heap.size, 12, none⟩ = some (.int .i64 aP.sd)) := by unfold Hid; rw [hW]; simp [go_sem]
  go_enter Try.func7, Try.ntmps7
  go_wp2_with fail
  rw [← hW]
  clear hW
  have pxaP0_0 := BXaP0.out
  have pxaP1_0 := BXaP1.out
  have pxaP2_0 := BXaP2.out
  have pxaP3_0 := BXaP3.out
  have pxaP4_0 := BXaP4.out
  have pxaP5_0 := BXaP5.out
  have pxaP6_0 := BXaP6.out
  have pxaP7_0 := BXaP7.out
  have pxaP8_0 := BXaP8.out
  have pxaP9_0 := BXaP9.out
  have pxaP10_0 := BXaP10.out
  have pxaP11_0 := BXaP11.out
  have pxaP12_0 := BXaP12.out
  try (go_wp2_with fail)
  refine (laws_toPlan aP.p aP.q aP.g aP.k aP.o aP.l aP.m aP.pt aP.th aP.tr aP.mx aP.vt aP.sd _).mono ?_
  rintro e w1 ⟨rfl, hb1⟩
  have HB1 := Lib.hid (Below.next (Below.refl _ _) hb1)
  have hs1 := hb1.size
  have AJ1 := Lib.hid hb1; clear hb1
  have pxaP0_1 := box_at BXaP0.out HB1.out
  clear pxaP0_0
  have pxaP1_1 := box_at BXaP1.out HB1.out
  clear pxaP1_0
  have pxaP2_1 := box_at BXaP2.out HB1.out
  clear pxaP2_0
  have pxaP3_1 := box_at BXaP3.out HB1.out
  clear pxaP3_0
  have pxaP4_1 := box_at BXaP4.out HB1.out
  clear pxaP4_0
  have pxaP5_1 := box_at BXaP5.out HB1.out
  clear pxaP5_0
  have pxaP6_1 := box_at BXaP6.out HB1.out
  clear pxaP6_0
  have pxaP7_1 := box_at BXaP7.out HB1.out
  clear pxaP7_0
  have pxaP8_1 := box_at BXaP8.out HB1.out
  clear pxaP8_0
  have pxaP9_1 := box_at BXaP9.out HB1.out
  clear pxaP9_0
  have pxaP10_1 := box_at BXaP10.out HB1.out
  clear pxaP10_0
  have pxaP11_1 := box_at BXaP11.out HB1.out
  clear pxaP11_0
  have pxaP12_1 := box_at BXaP12.out HB1.out
  clear pxaP12_0
  go_wp2_with fail
  refine (spec_JointCommits aP.p aP.q aP.g aP.k aP.o aP.l aP.m aP.pt aP.th aP.tr aP.mx aP.vt aP.sd _ ).mono ?_
  rintro e w2 ⟨want0, rfl, hXwant0, hb2⟩
  have Owant0 := Lib.hid hXwant0; clear hXwant0
  have HB2 := Lib.hid (Below.next HB1.out hb2)
  have hs2 := hb2.size
  have AJ2 := Lib.hid hb2; clear hb2
  have pxaP0_2 := box_at BXaP0.out HB2.out
  clear pxaP0_1
  have pxaP1_2 := box_at BXaP1.out HB2.out
  clear pxaP1_1
  have pxaP2_2 := box_at BXaP2.out HB2.out
  clear pxaP2_1
  have pxaP3_2 := box_at BXaP3.out HB2.out
  clear pxaP3_1
  have pxaP4_2 := box_at BXaP4.out HB2.out
  clear pxaP4_1
  have pxaP5_2 := box_at BXaP5.out HB2.out
  clear pxaP5_1
  have pxaP6_2 := box_at BXaP6.out HB2.out
  clear pxaP6_1
  have pxaP7_2 := box_at BXaP7.out HB2.out
  clear pxaP7_1
  have pxaP8_2 := box_at BXaP8.out HB2.out
  clear pxaP8_1
  have pxaP9_2 := box_at BXaP9.out HB2.out
  clear pxaP9_1
  have pxaP10_2 := box_at BXaP10.out HB2.out
  clear pxaP10_1
  have pxaP11_2 := box_at BXaP11.out HB2.out
  clear pxaP11_1
  have pxaP12_2 := box_at BXaP12.out HB2.out
  clear pxaP12_1
  go_wp2_with fail
  refine (laws_toPlan aP.p aP.q aP.g aP.k aP.o aP.l aP.m aP.pt aP.th aP.tr aP.mx aP.vt aP.sd _).mono ?_
  rintro e w3 ⟨rfl, hb3⟩
  have HB3 := Lib.hid (Below.next HB2.out hb3)
  have hs3 := hb3.size
  have AJ3 := Lib.hid hb3; clear hb3
  have pxaP0_3 := box_at BXaP0.out HB3.out
  clear pxaP0_2
  have pxaP1_3 := box_at BXaP1.out HB3.out
  clear pxaP1_2
  have pxaP2_3 := box_at BXaP2.out HB3.out
  clear pxaP2_2
  have pxaP3_3 := box_at BXaP3.out HB3.out
  clear pxaP3_2
  have pxaP4_3 := box_at BXaP4.out HB3.out
  clear pxaP4_2
  have pxaP5_3 := box_at BXaP5.out HB3.out
  clear pxaP5_2
  have pxaP6_3 := box_at BXaP6.out HB3.out
  clear pxaP6_2
  have pxaP7_3 := box_at BXaP7.out HB3.out
  clear pxaP7_2
  have pxaP8_3 := box_at BXaP8.out HB3.out
  clear pxaP8_2
  have pxaP9_3 := box_at BXaP9.out HB3.out
  clear pxaP9_2
  have pxaP10_3 := box_at BXaP10.out HB3.out
  clear pxaP10_2
  have pxaP11_3 := box_at BXaP11.out HB3.out
  clear pxaP11_2
  have pxaP12_3 := box_at BXaP12.out HB3.out
  clear pxaP12_2
  go_wp2_with fail
  refine (impl_JointCommits aP.p aP.q aP.g aP.k aP.o aP.l aP.m aP.pt aP.th aP.tr aP.mx aP.vt aP.sd _ ).mono ?_
  rintro e w4 ⟨got0, rfl, hXgot0, hb4⟩
  have Ogot0 := Lib.hid hXgot0; clear hXgot0
  have HB4 := Lib.hid (Below.next HB3.out hb4)
  have hs4 := hb4.size
  have AJ4 := Lib.hid hb4; clear hb4
  have pxaP0_4 := box_at BXaP0.out HB4.out
  clear pxaP0_3
  have pxaP1_4 := box_at BXaP1.out HB4.out
  clear pxaP1_3
  have pxaP2_4 := box_at BXaP2.out HB4.out
  clear pxaP2_3
  have pxaP3_4 := box_at BXaP3.out HB4.out
  clear pxaP3_3
  have pxaP4_4 := box_at BXaP4.out HB4.out
  clear pxaP4_3
  have pxaP5_4 := box_at BXaP5.out HB4.out
  clear pxaP5_3
  have pxaP6_4 := box_at BXaP6.out HB4.out
  clear pxaP6_3
  have pxaP7_4 := box_at BXaP7.out HB4.out
  clear pxaP7_3
  have pxaP8_4 := box_at BXaP8.out HB4.out
  clear pxaP8_3
  have pxaP9_4 := box_at BXaP9.out HB4.out
  clear pxaP9_3
  have pxaP10_4 := box_at BXaP10.out HB4.out
  clear pxaP10_3
  have pxaP11_4 := box_at BXaP11.out HB4.out
  clear pxaP11_3
  have pxaP12_4 := box_at BXaP12.out HB4.out
  clear pxaP12_3
  go_wp2_with fail
  refine (laws_eqIntS _ _ _ _ _ Ogot0.out.reads ((Owant0.out.next AJ3.out).next AJ4.out).reads).mono ?_
  rintro e w5 ⟨rfl, m5, hw5⟩
  have hb5 := Below.drewOf hw5; clear hw5
  rw [decide_eq_true rfl]
  have HB5 := Lib.hid (Below.next HB4.out hb5)
  have hs5 := hb5.size
  have AJ5 := Lib.hid hb5; clear hb5
  have pxaP0_5 := box_at BXaP0.out HB5.out
  clear pxaP0_4
  have pxaP1_5 := box_at BXaP1.out HB5.out
  clear pxaP1_4
  have pxaP2_5 := box_at BXaP2.out HB5.out
  clear pxaP2_4
  have pxaP3_5 := box_at BXaP3.out HB5.out
  clear pxaP3_4
  have pxaP4_5 := box_at BXaP4.out HB5.out
  clear pxaP4_4
  have pxaP5_5 := box_at BXaP5.out HB5.out
  clear pxaP5_4
  have pxaP6_5 := box_at BXaP6.out HB5.out
  clear pxaP6_4
  have pxaP7_5 := box_at BXaP7.out HB5.out
  clear pxaP7_4
  have pxaP8_5 := box_at BXaP8.out HB5.out
  clear pxaP8_4
  have pxaP9_5 := box_at BXaP9.out HB5.out
  clear pxaP9_4
  have pxaP10_5 := box_at BXaP10.out HB5.out
  clear pxaP10_4
  have pxaP11_5 := box_at BXaP11.out HB5.out
  clear pxaP11_4
  have pxaP12_5 := box_at BXaP12.out HB5.out
  clear pxaP12_4
  have LG0 : Hid (1 + (jntR aP).length ≤ 9223372036854775806) := by have := jntR_length aP; unfold Hid; omega
  go_wp2_with fail
  refine (laws_markIntS_in _ _ _ 1 _ _ (Ogot0.out.next AJ5.out) (by omega) (by exact LG0.out)).mono ?_
  rintro e w6 ⟨rfl, hX, hG6⟩
  have Ogot0m := Lib.hid hX; clear hX
  have hs6 := hG6.size
  have HB6 := Lib.hid (HB5.out.trans (hG6.below (B := W.heap.size) (by omega) (by omega)))
  have HG6 := Lib.hid hG6; clear hG6
  have pxaP0_6 := box_at BXaP0.out HB6.out
  clear pxaP0_5
  have pxaP1_6 := box_at BXaP1.out HB6.out
  clear pxaP1_5
  have pxaP2_6 := box_at BXaP2.out HB6.out
  clear pxaP2_5
  have pxaP3_6 := box_at BXaP3.out HB6.out
  clear pxaP3_5
  have pxaP4_6 := box_at BXaP4.out HB6.out
  clear pxaP4_5
  have pxaP5_6 := box_at BXaP5.out HB6.out
  clear pxaP5_5
  have pxaP6_6 := box_at BXaP6.out HB6.out
  clear pxaP6_5
  have pxaP7_6 := box_at BXaP7.out HB6.out
  clear pxaP7_5
  have pxaP8_6 := box_at BXaP8.out HB6.out
  clear pxaP8_5
  have pxaP9_6 := box_at BXaP9.out HB6.out
  clear pxaP9_5
  have pxaP10_6 := box_at BXaP10.out HB6.out
  clear pxaP10_5
  have pxaP11_6 := box_at BXaP11.out HB6.out
  clear pxaP11_5
  have pxaP12_6 := box_at BXaP12.out HB6.out
  clear pxaP12_5
  go_wp2_with fail
  refine (laws_heldIntS_yes _ 1 _ _ Ogot0m.out.reads (by simp only [marks_length]; exact LG0.out) (fun j hj => nth_marks (by simpa only [marks_length] using hj))).mono ?_
  rintro e w7 ⟨rfl, m7, hw7⟩
  have hb7 := Below.drewOf hw7; clear hw7
  rw [marks_length]
  have HB7 := Lib.hid (Below.next HB6.out hb7)
  have hs7 := hb7.size
  have AJ7 := Lib.hid hb7; clear hb7
  have pxaP0_7 := box_at BXaP0.out HB7.out
  clear pxaP0_6
  have pxaP1_7 := box_at BXaP1.out HB7.out
  clear pxaP1_6
  have pxaP2_7 := box_at BXaP2.out HB7.out
  clear pxaP2_6
  have pxaP3_7 := box_at BXaP3.out HB7.out
  clear pxaP3_6
  have pxaP4_7 := box_at BXaP4.out HB7.out
  clear pxaP4_6
  have pxaP5_7 := box_at BXaP5.out HB7.out
  clear pxaP5_6
  have pxaP6_7 := box_at BXaP6.out HB7.out
  clear pxaP6_6
  have pxaP7_7 := box_at BXaP7.out HB7.out
  clear pxaP7_6
  have pxaP8_7 := box_at BXaP8.out HB7.out
  clear pxaP8_6
  have pxaP9_7 := box_at BXaP9.out HB7.out
  clear pxaP9_6
  have pxaP10_7 := box_at BXaP10.out HB7.out
  clear pxaP10_6
  have pxaP11_7 := box_at BXaP11.out HB7.out
  clear pxaP11_6
  have pxaP12_7 := box_at BXaP12.out HB7.out
  clear pxaP12_6
  go_wp2_with fail
  refine (laws_toPlan aP.p aP.q aP.g aP.k aP.o aP.l aP.m aP.pt aP.th aP.tr aP.mx aP.vt aP.sd _).mono ?_
  rintro e w8 ⟨rfl, hb8⟩
  have HB8 := Lib.hid (Below.next HB7.out hb8)
  have hs8 := hb8.size
  have AJ8 := Lib.hid hb8; clear hb8
  have pxaP0_8 := box_at BXaP0.out HB8.out
  clear pxaP0_7
  have pxaP1_8 := box_at BXaP1.out HB8.out
  clear pxaP1_7
  have pxaP2_8 := box_at BXaP2.out HB8.out
  clear pxaP2_7
  have pxaP3_8 := box_at BXaP3.out HB8.out
  clear pxaP3_7
  have pxaP4_8 := box_at BXaP4.out HB8.out
  clear pxaP4_7
  have pxaP5_8 := box_at BXaP5.out HB8.out
  clear pxaP5_7
  have pxaP6_8 := box_at BXaP6.out HB8.out
  clear pxaP6_7
  have pxaP7_8 := box_at BXaP7.out HB8.out
  clear pxaP7_7
  have pxaP8_8 := box_at BXaP8.out HB8.out
  clear pxaP8_7
  have pxaP9_8 := box_at BXaP9.out HB8.out
  clear pxaP9_7
  have pxaP10_8 := box_at BXaP10.out HB8.out
  clear pxaP10_7
  have pxaP11_8 := box_at BXaP11.out HB8.out
  clear pxaP11_7
  have pxaP12_8 := box_at BXaP12.out HB8.out
  clear pxaP12_7
  go_wp2_with fail
  refine (impl_JointCommits aP.p aP.q aP.g aP.k aP.o aP.l aP.m aP.pt aP.th aP.tr aP.mx aP.vt aP.sd _ ).mono ?_
  rintro e w9 ⟨again0, rfl, hXagain0, hb9⟩
  have Oagain0 := Lib.hid hXagain0; clear hXagain0
  have HB9 := Lib.hid (Below.next HB8.out hb9)
  have hs9 := hb9.size
  have AJ9 := Lib.hid hb9; clear hb9
  have pxaP0_9 := box_at BXaP0.out HB9.out
  clear pxaP0_8
  have pxaP1_9 := box_at BXaP1.out HB9.out
  clear pxaP1_8
  have pxaP2_9 := box_at BXaP2.out HB9.out
  clear pxaP2_8
  have pxaP3_9 := box_at BXaP3.out HB9.out
  clear pxaP3_8
  have pxaP4_9 := box_at BXaP4.out HB9.out
  clear pxaP4_8
  have pxaP5_9 := box_at BXaP5.out HB9.out
  clear pxaP5_8
  have pxaP6_9 := box_at BXaP6.out HB9.out
  clear pxaP6_8
  have pxaP7_9 := box_at BXaP7.out HB9.out
  clear pxaP7_8
  have pxaP8_9 := box_at BXaP8.out HB9.out
  clear pxaP8_8
  have pxaP9_9 := box_at BXaP9.out HB9.out
  clear pxaP9_8
  have pxaP10_9 := box_at BXaP10.out HB9.out
  clear pxaP10_8
  have pxaP11_9 := box_at BXaP11.out HB9.out
  clear pxaP11_8
  have pxaP12_9 := box_at BXaP12.out HB9.out
  clear pxaP12_8
  go_wp2_with fail
  refine (laws_eqIntS _ _ _ _ _ Oagain0.out.reads (((((((Owant0.out.next AJ3.out).next AJ4.out).next AJ5.out).kept HG6.out (.inl (by omega))).next AJ7.out).next AJ8.out).next AJ9.out).reads).mono ?_
  rintro e w10 ⟨rfl, m10, hw10⟩
  have hb10 := Below.drewOf hw10; clear hw10
  rw [decide_eq_true rfl]
  have HB10 := Lib.hid (Below.next HB9.out hb10)
  have hs10 := hb10.size
  have AJ10 := Lib.hid hb10; clear hb10
  have pxaP0_10 := box_at BXaP0.out HB10.out
  clear pxaP0_9
  have pxaP1_10 := box_at BXaP1.out HB10.out
  clear pxaP1_9
  have pxaP2_10 := box_at BXaP2.out HB10.out
  clear pxaP2_9
  have pxaP3_10 := box_at BXaP3.out HB10.out
  clear pxaP3_9
  have pxaP4_10 := box_at BXaP4.out HB10.out
  clear pxaP4_9
  have pxaP5_10 := box_at BXaP5.out HB10.out
  clear pxaP5_9
  have pxaP6_10 := box_at BXaP6.out HB10.out
  clear pxaP6_9
  have pxaP7_10 := box_at BXaP7.out HB10.out
  clear pxaP7_9
  have pxaP8_10 := box_at BXaP8.out HB10.out
  clear pxaP8_9
  have pxaP9_10 := box_at BXaP9.out HB10.out
  clear pxaP9_9
  have pxaP10_10 := box_at BXaP10.out HB10.out
  clear pxaP10_9
  have pxaP11_10 := box_at BXaP11.out HB10.out
  clear pxaP11_9
  have pxaP12_10 := box_at BXaP12.out HB10.out
  clear pxaP12_9
  go_wp2_with fail
  refine (laws_heldIntS_yes _ 1 _ _ ((((Ogot0m.out.next AJ7.out).next AJ8.out).next AJ9.out).next AJ10.out).reads (by simp only [marks_length]; exact LG0.out) (fun j hj => nth_marks (by simpa only [marks_length] using hj))).mono ?_
  rintro e w11 ⟨rfl, m11, hw11⟩
  have hb11 := Below.drewOf hw11; clear hw11
  rw [marks_length]
  have HB11 := Lib.hid (Below.next HB10.out hb11)
  have hs11 := hb11.size
  have AJ11 := Lib.hid hb11; clear hb11
  have pxaP0_11 := box_at BXaP0.out HB11.out
  clear pxaP0_10
  have pxaP1_11 := box_at BXaP1.out HB11.out
  clear pxaP1_10
  have pxaP2_11 := box_at BXaP2.out HB11.out
  clear pxaP2_10
  have pxaP3_11 := box_at BXaP3.out HB11.out
  clear pxaP3_10
  have pxaP4_11 := box_at BXaP4.out HB11.out
  clear pxaP4_10
  have pxaP5_11 := box_at BXaP5.out HB11.out
  clear pxaP5_10
  have pxaP6_11 := box_at BXaP6.out HB11.out
  clear pxaP6_10
  have pxaP7_11 := box_at BXaP7.out HB11.out
  clear pxaP7_10
  have pxaP8_11 := box_at BXaP8.out HB11.out
  clear pxaP8_10
  have pxaP9_11 := box_at BXaP9.out HB11.out
  clear pxaP9_10
  have pxaP10_11 := box_at BXaP10.out HB11.out
  clear pxaP10_10
  have pxaP11_11 := box_at BXaP11.out HB11.out
  clear pxaP11_10
  have pxaP12_11 := box_at BXaP12.out HB11.out
  clear pxaP12_10
  go_wp2_with fail
  go_ret
  exact ⟨rfl, HWB.out.trans (HB11.out.mono HWB.out.size)⟩
end Go.Proofs.Ytcpigedjblkcfaa

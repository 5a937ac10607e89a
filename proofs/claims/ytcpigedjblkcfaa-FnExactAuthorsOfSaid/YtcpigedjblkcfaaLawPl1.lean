/- The walks of laws, by program (genlaw4.py). -/
import Derived.Test.YtcpigedjblkcfaaPl4
import Derived.Test.YtcpigedjblkcfaaPlanL
namespace Go.Proofs.Ytcpigedjblkcfaa
open Go.RowKit
set_option linter.unusedSimpArgs false
set_option linter.unusedVariables false

set_option maxRecDepth 100000 in
set_option maxHeartbeats 2000000 in
theorem law_AuthorsOf (aP : PlanD) (w : World)  :
    Calls Try.prog 3 #[.agg #[.int .i64 aP.p, .int .i64 aP.q, .int .i64 aP.g, .int .i64 aP.k, .int .i64 aP.o, .int .i64 aP.l, .int .i64 aP.m, .int .i64 aP.pt, .int .i64 aP.th, .int .i64 aP.tr, .int .i64 aP.mx, .int .i64 aP.vt, .int .i64 aP.sd]] w fun e w' => e = .returned (.bool true) ∧ Below w.heap.size w w' := by
  obtain ⟨W, hW⟩ : ∃ W, W = w.alloc (.cells #[.int .i64 aP.p, .int .i64 aP.q, .int .i64 aP.g, .int .i64 aP.k, .int .i64 aP.o, .int .i64 aP.l, .int .i64 aP.m, .int .i64 aP.pt, .int .i64 aP.th, .int .i64 aP.tr, .int .i64 aP.mx, .int .i64 aP.vt, .int .i64 aP.sd] 27) := ⟨_, rfl⟩
  have HWB : Hid (Below w.heap.size w W) := by unfold Hid; rw [hW]; (repeat (first | exact Below.refl _ _ | assumption | refine Below.drew ?_ | refine Below.alloc ?_ (by first | (simp; done) | (simp; omega)) _ | refine Below.setCell ?_ (by first | (simp; done) | (simp; omega)) _))
  have BXaP0 : Hid (W.cell? ⟨w.heap.size, 0, none⟩ = some (.int .i64 aP.p)) := by unfold Hid; rw [hW]; simp [go_sem]
  have BXaP1 : Hid (W.cell? ⟨w.heap.size, 1, none⟩ = some (.int .i64 aP.q)) := by unfold Hid; rw [hW]; simp [go_sem]
  have BXaP2 : Hid (W.cell? ⟨w.heap.size, 2, none⟩ = some (.int .i64 aP.g)) := by unfold Hid; rw [hW]; simp [go_sem]
  have BXaP3 : Hid (W.cell? ⟨w.heap.size, 3, none⟩ = some (.int .i64 aP.k)) := by unfold Hid; rw [hW]; simp [go_sem]
  have BXaP4 : Hid (W.cell? ⟨w.heap.size, 4, none⟩ = some (.int .i64 aP.o)) := by unfold Hid; rw [hW]; simp [go_sem]
  have BXaP5 : Hid (W.cell? ⟨w.heap.size, 5, none⟩ = some (.int .i64 aP.l)) := by unfold Hid; rw [hW]; simp [go_sem]
  have BXaP6 : Hid (W.cell? ⟨w.heap.size, 6, none⟩ = some (.int .i64 aP.m)) := by unfold Hid; rw [hW]; simp [go_sem]
  have BXaP7 : Hid (W.cell? ⟨w.heap.size, 7, none⟩ = some (.int .i64 aP.pt)) := by unfold Hid; rw [hW]; simp [go_sem]
  have BXaP8 : Hid (W.cell? ⟨w.heap.size, 8, none⟩ = some (.int .i64 aP.th)) := by unfold Hid; rw [hW]; simp [go_sem]
  have BXaP9 : Hid (W.cell? ⟨w.heap.size, 9, none⟩ = some (.int .i64 aP.tr)) := by unfold Hid; rw [hW]; simp [go_sem]
  have BXaP10 : Hid (W.cell? ⟨w.heap.size, 10, none⟩ = some (.int .i64 aP.mx)) := by unfold Hid; rw [hW]; simp [go_sem]
  have BXaP11 : Hid (W.cell? ⟨w.heap.size, 11, none⟩ = some (.int .i64 aP.vt)) := by unfold Hid; rw [hW]; simp [go_sem]
  have BXaP12 : Hid (W.cell? ⟨w.heap.size, 12, none⟩ = some (.int .i64 aP.sd)) := by unfold Hid; rw [hW]; simp [go_sem]
  go_enter Try.func3, Try.ntmps3
  go_wp2_with fail
  rw [← hW]
  clear hW
  have pxaP0_0 := BXaP0.out
  have pxaP1_0 := BXaP1.out
  have pxaP2_0 := BXaP2.out
  have pxaP3_0 := BXaP3.out
  have pxaP4_0 := BXaP4.out
  have pxaP5_0 := BXaP5.out
  have pxaP6_0 := BXaP6.out
  have pxaP7_0 := BXaP7.out
  have pxaP8_0 := BXaP8.out
  have pxaP9_0 := BXaP9.out
  have pxaP10_0 := BXaP10.out
  have pxaP11_0 := BXaP11.out
  have pxaP12_0 := BXaP12.out
  try (go_wp2_with fail)
  refine (laws_toPlan aP.p aP.q aP.g aP.k aP.o aP.l aP.m aP.pt aP.th aP.tr aP.mx aP.vt aP.sd _).mono ?_
  rintro e w1 ⟨rfl, hb1⟩
  have HB1 := Lib.hid (Below.next (Below.refl _ _) hb1)
  have hs1 := hb1.size
  have AJ1 := Lib.hid hb1; clear hb1
  have pxaP0_1 := box_at BXaP0.out HB1.out
  clear pxaP0_0
  have pxaP1_1 := box_at BXaP1.out HB1.out
  clear pxaP1_0
  have pxaP2_1 := box_at BXaP2.out HB1.out
  clear pxaP2_0
  have pxaP3_1 := box_at BXaP3.out HB1.out
  clear pxaP3_0
  have pxaP4_1 := box_at BXaP4.out HB1.out
  clear pxaP4_0
  have pxaP5_1 := box_at BXaP5.out HB1.out
  clear pxaP5_0
  have pxaP6_1 := box_at BXaP6.out HB1.out
  clear pxaP6_0
  have pxaP7_1 := box_at BXaP7.out HB1.out
  clear pxaP7_0
  have pxaP8_1 := box_at BXaP8.out HB1.out
  clear pxaP8_0
  have pxaP9_1 := box_at BXaP9.out HB1.out
  clear pxaP9_0
  have pxaP10_1 := box_at BXaP10.out HB1.out
  clear pxaP10_0
  have pxaP11_1 := box_at BXaP11.out HB1.out
  clear pxaP11_0
  have pxaP12_1 := box_at BXaP12.out HB1.out
  clear pxaP12_0
  go_wp2_with fail
  refine (spec_AuthorsOf aP.p aP.q aP.g aP.k aP.o aP.l aP.m aP.pt aP.th aP.tr aP.mx aP.vt aP.sd _ ).mono ?_
  rintro e w2 ⟨rfl, hb2⟩
  have HB2 := Lib.hid (Below.next HB1.out hb2)
  have hs2 := hb2.size
  have AJ2 := Lib.hid hb2; clear hb2
  have pxaP0_2 := box_at BXaP0.out HB2.out
  clear pxaP0_1
  have pxaP1_2 := box_at BXaP1.out HB2.out
  clear pxaP1_1
  have pxaP2_2 := box_at BXaP2.out HB2.out
  clear pxaP2_1
  have pxaP3_2 := box_at BXaP3.out HB2.out
  clear pxaP3_1
  have pxaP4_2 := box_at BXaP4.out HB2.out
  clear pxaP4_1
  have pxaP5_2 := box_at BXaP5.out HB2.out
  clear pxaP5_1
  have pxaP6_2 := box_at BXaP6.out HB2.out
  clear pxaP6_1
  have pxaP7_2 := box_at BXaP7.out HB2.out
  clear pxaP7_1
  have pxaP8_2 := box_at BXaP8.out HB2.out
  clear pxaP8_1
  have pxaP9_2 := box_at BXaP9.out HB2.out
  clear pxaP9_1
  have pxaP10_2 := box_at BXaP10.out HB2.out
  clear pxaP10_1
  have pxaP11_2 := box_at BXaP11.out HB2.out
  clear pxaP11_1
  have pxaP12_2 := box_at BXaP12.out HB2.out
  clear pxaP12_1
  go_wp2_with fail
  refine (laws_toPlan aP.p aP.q aP.g aP.k aP.o aP.l aP.m aP.pt aP.th aP.tr aP.mx aP.vt aP.sd _).mono ?_
  rintro e w3 ⟨rfl, hb3⟩
  have HB3 := Lib.hid (Below.next HB2.out hb3)
  have hs3 := hb3.size
  have AJ3 := Lib.hid hb3; clear hb3
  have pxaP0_3 := box_at BXaP0.out HB3.out
  clear pxaP0_2
  have pxaP1_3 := box_at BXaP1.out HB3.out
  clear pxaP1_2
  have pxaP2_3 := box_at BXaP2.out HB3.out
  clear pxaP2_2
  have pxaP3_3 := box_at BXaP3.out HB3.out
  clear pxaP3_2
  have pxaP4_3 := box_at BXaP4.out HB3.out
  clear pxaP4_2
  have pxaP5_3 := box_at BXaP5.out HB3.out
  clear pxaP5_2
  have pxaP6_3 := box_at BXaP6.out HB3.out
  clear pxaP6_2
  have pxaP7_3 := box_at BXaP7.out HB3.out
  clear pxaP7_2
  have pxaP8_3 := box_at BXaP8.out HB3.out
  clear pxaP8_2
  have pxaP9_3 := box_at BXaP9.out HB3.out
  clear pxaP9_2
  have pxaP10_3 := box_at BXaP10.out HB3.out
  clear pxaP10_2
  have pxaP11_3 := box_at BXaP11.out HB3.out
  clear pxaP11_2
  have pxaP12_3 := box_at BXaP12.out HB3.out
  clear pxaP12_2
  go_wp2_with fail
  refine (impl_AuthorsOf aP.p aP.q aP.g aP.k aP.o aP.l aP.m aP.pt aP.th aP.tr aP.mx aP.vt aP.sd _ ).mono ?_
  rintro e w4 ⟨rfl, hb4⟩
  have HB4 := Lib.hid (Below.next HB3.out hb4)
  have hs4 := hb4.size
  have AJ4 := Lib.hid hb4; clear hb4
  have pxaP0_4 := box_at BXaP0.out HB4.out
  clear pxaP0_3
  have pxaP1_4 := box_at BXaP1.out HB4.out
  clear pxaP1_3
  have pxaP2_4 := box_at BXaP2.out HB4.out
  clear pxaP2_3
  have pxaP3_4 := box_at BXaP3.out HB4.out
  clear pxaP3_3
  have pxaP4_4 := box_at BXaP4.out HB4.out
  clear pxaP4_3
  have pxaP5_4 := box_at BXaP5.out HB4.out
  clear pxaP5_3
  have pxaP6_4 := box_at BXaP6.out HB4.out
  clear pxaP6_3
  have pxaP7_4 := box_at BXaP7.out HB4.out
  clear pxaP7_3
  have pxaP8_4 := box_at BXaP8.out HB4.out
  clear pxaP8_3
  have pxaP9_4 := box_at BXaP9.out HB4.out
  clear pxaP9_3
  have pxaP10_4 := box_at BXaP10.out HB4.out
  clear pxaP10_3
  have pxaP11_4 := box_at BXaP11.out HB4.out
  clear pxaP11_3
  have pxaP12_4 := box_at BXaP12.out HB4.out
  clear pxaP12_3
  go_wp2_with fail
  go_ret
  exact ⟨rfl, HWB.out.trans (HB4.out.mono HWB.out.size)⟩
set_option maxRecDepth 100000 in
set_option maxHeartbeats 2000000 in
theorem law_AuthorSecret (aP : PlanD) (aI : Int) (w : World) (_haI : I64 aI) :
    Calls Try.prog 4 #[.agg #[.int .i64 aP.p, .int .i64 aP.q, .int .i64 aP.g, .int .i64 aP.k, .int .i64 aP.o, .int .i64 aP.l, .int .i64 aP.m, .int .i64 aP.pt, .int .i64 aP.th, .int .i64 aP.tr, .int .i64 aP.mx, .int .i64 aP.vt, .int .i64 aP.sd], .int .i64 aI] w fun e w' => e = .returned (.bool true) ∧ Below w.heap.size w w' := by
  clear _haI
  obtain ⟨W, hW⟩ : ∃ W, W = w.alloc (.cells #[.int .i64 aP.p, .int .i64 aP.q, .int .i64 aP.g, .int .i64 aP.k, .int .i64 aP.o, .int .i64 aP.l, .int .i64 aP.m, .int .i64 aP.pt, .int .i64 aP.th, .int .i64 aP.tr, .int .i64 aP.mx, .int .i64 aP.vt, .int .i64 aP.sd] 27) := ⟨_, rfl⟩
  have HWB : Hid (Below w.heap.size w W) := by unfold Hid; rw [hW]; (repeat (first | exact Below.refl _ _ | assumption | refine Below.drew ?_ | refine Below.alloc ?_ (by first | (simp; done) | (simp; omega)) _ | refine Below.setCell ?_ (by first | (simp; done) | (simp; omega)) _))
  have BXaP0 : Hid (W.cell? ⟨w.heap.size, 0, none⟩ = some (.int .i64 aP.p)) := by unfold Hid; rw [hW]; simp [go_sem]
  have BXaP1 : Hid (W.cell? ⟨w.heap.size, 1, none⟩ = some (.int .i64 aP.q)) := by unfold Hid; rw [hW]; simp [go_sem]
  have BXaP2 : Hid (W.cell? ⟨w.heap.size, 2, none⟩ = some (.int .i64 aP.g)) := by unfold Hid; rw [hW]; simp [go_sem]
  have BXaP3 : Hid (W.cell? ⟨w.heap.size, 3, none⟩ = some (.int .i64 aP.k)) := by unfold Hid; rw [hW]; simp [go_sem]
  have BXaP4 : Hid (W.cell? ⟨w.heap.size, 4, none⟩ = some (.int .i64 aP.o)) := by unfold Hid; rw [hW]; simp [go_sem]
  have BXaP5 : Hid (W.cell? ⟨w.heap.size, 5, none⟩ = some (.int .i64 aP.l)) := by unfold Hid; rw [hW]; simp [go_sem]
  have BXaP6 : Hid (W.cell? ⟨w.heap.size, 6, none⟩ = some (.int .i64 aP.m)) := by unfold Hid; rw [hW]; simp [go_sem]
  have BXaP7 : Hid (W.cell? ⟨w.heap.size, 7, none⟩ = some (.int .i64 aP.pt)) := by unfold Hid; rw [hW]; simp [go_sem]
  have BXaP8 : Hid (W.cell? ⟨w.heap.size, 8, none⟩ = some (.int .i64 aP.th)) := by unfold Hid; rw [hW]; simp [go_sem]
  have BXaP9 : Hid (W.cell? ⟨w.heap.size, 9, none⟩ = some (.int .i64 aP.tr)) := by unfold Hid; rw [hW]; simp [go_sem]
  have BXaP10 : Hid (W.cell? ⟨w.heap.size, 10, none⟩ = some (.int .i64 aP.mx)) := by unfold Hid; rw [hW]; simp [go_sem]
  have BXaP11 : Hid (W.cell? ⟨w.heap.size, 11, none⟩ = some (.int .i64 aP.vt)) := by unfold Hid; rw [hW]; simp [go_sem]
  have BXaP12 : Hid (W.cell? ⟨w.heap.size, 12, none⟩ = some (.int .i64 aP.sd)) := by unfold Hid; rw [hW]; simp [go_sem]
  go_enter Try.func4, Try.ntmps4
  go_wp2_with fail
  rw [← hW]
  clear hW
  have pxaP0_0 := BXaP0.out
  have pxaP1_0 := BXaP1.out
  have pxaP2_0 := BXaP2.out
  have pxaP3_0 := BXaP3.out
  have pxaP4_0 := BXaP4.out
  have pxaP5_0 := BXaP5.out
  have pxaP6_0 := BXaP6.out
  have pxaP7_0 := BXaP7.out
  have pxaP8_0 := BXaP8.out
  have pxaP9_0 := BXaP9.out
  have pxaP10_0 := BXaP10.out
  have pxaP11_0 := BXaP11.out
  have pxaP12_0 := BXaP12.out
  try (go_wp2_with fail)
  refine (laws_toPlan aP.p aP.q aP.g aP.k aP.o aP.l aP.m aP.pt aP.th aP.tr aP.mx aP.vt aP.sd _).mono ?_
  rintro e w1 ⟨rfl, hb1⟩
  have HB1 := Lib.hid (Below.next (Below.refl _ _) hb1)
  have hs1 := hb1.size
  have AJ1 := Lib.hid hb1; clear hb1
  have pxaP0_1 := box_at BXaP0.out HB1.out
  clear pxaP0_0
  have pxaP1_1 := box_at BXaP1.out HB1.out
  clear pxaP1_0
  have pxaP2_1 := box_at BXaP2.out HB1.out
  clear pxaP2_0
  have pxaP3_1 := box_at BXaP3.out HB1.out
  clear pxaP3_0
  have pxaP4_1 := box_at BXaP4.out HB1.out
  clear pxaP4_0
  have pxaP5_1 := box_at BXaP5.out HB1.out
  clear pxaP5_0
  have pxaP6_1 := box_at BXaP6.out HB1.out
  clear pxaP6_0
  have pxaP7_1 := box_at BXaP7.out HB1.out
  clear pxaP7_0
  have pxaP8_1 := box_at BXaP8.out HB1.out
  clear pxaP8_0
  have pxaP9_1 := box_at BXaP9.out HB1.out
  clear pxaP9_0
  have pxaP10_1 := box_at BXaP10.out HB1.out
  clear pxaP10_0
  have pxaP11_1 := box_at BXaP11.out HB1.out
  clear pxaP11_0
  have pxaP12_1 := box_at BXaP12.out HB1.out
  clear pxaP12_0
  go_wp2_with fail
  refine (spec_AuthorSecret aP.p aP.q aP.g aP.k aP.o aP.l aP.m aP.pt aP.th aP.tr aP.mx aP.vt aP.sd aI _ ).mono ?_
  rintro e w2 ⟨rfl, hb2⟩
  have HB2 := Lib.hid (Below.next HB1.out hb2)
  have hs2 := hb2.size
  have AJ2 := Lib.hid hb2; clear hb2
  have pxaP0_2 := box_at BXaP0.out HB2.out
  clear pxaP0_1
  have pxaP1_2 := box_at BXaP1.out HB2.out
  clear pxaP1_1
  have pxaP2_2 := box_at BXaP2.out HB2.out
  clear pxaP2_1
  have pxaP3_2 := box_at BXaP3.out HB2.out
  clear pxaP3_1
  have pxaP4_2 := box_at BXaP4.out HB2.out
  clear pxaP4_1
  have pxaP5_2 := box_at BXaP5.out HB2.out
  clear pxaP5_1
  have pxaP6_2 := box_at BXaP6.out HB2.out
  clear pxaP6_1
  have pxaP7_2 := box_at BXaP7.out HB2.out
  clear pxaP7_1
  have pxaP8_2 := box_at BXaP8.out HB2.out
  clear pxaP8_1
  have pxaP9_2 := box_at BXaP9.out HB2.out
  clear pxaP9_1
  have pxaP10_2 := box_at BXaP10.out HB2.out
  clear pxaP10_1
  have pxaP11_2 := box_at BXaP11.out HB2.out
  clear pxaP11_1
  have pxaP12_2 := box_at BXaP12.out HB2.out
  clear pxaP12_1
  go_wp2_with fail
  refine (laws_toPlan aP.p aP.q aP.g aP.k aP.o aP.l aP.m aP.pt aP.th aP.tr aP.mx aP.vt aP.sd _).mono ?_
  rintro e w3 ⟨rfl, hb3⟩
  have HB3 := Lib.hid (Below.next HB2.out hb3)
  have hs3 := hb3.size
  have AJ3 := Lib.hid hb3; clear hb3
  have pxaP0_3 := box_at BXaP0.out HB3.out
  clear pxaP0_2
  have pxaP1_3 := box_at BXaP1.out HB3.out
  clear pxaP1_2
  have pxaP2_3 := box_at BXaP2.out HB3.out
  clear pxaP2_2
  have pxaP3_3 := box_at BXaP3.out HB3.out
  clear pxaP3_2
  have pxaP4_3 := box_at BXaP4.out HB3.out
  clear pxaP4_2
  have pxaP5_3 := box_at BXaP5.out HB3.out
  clear pxaP5_2
  have pxaP6_3 := box_at BXaP6.out HB3.out
  clear pxaP6_2
  have pxaP7_3 := box_at BXaP7.out HB3.out
  clear pxaP7_2
  have pxaP8_3 := box_at BXaP8.out HB3.out
  clear pxaP8_2
  have pxaP9_3 := box_at BXaP9.out HB3.out
  clear pxaP9_2
  have pxaP10_3 := box_at BXaP10.out HB3.out
  clear pxaP10_2
  have pxaP11_3 := box_at BXaP11.out HB3.out
  clear pxaP11_2
  have pxaP12_3 := box_at BXaP12.out HB3.out
  clear pxaP12_2
  go_wp2_with fail
  refine (impl_AuthorSecret aP.p aP.q aP.g aP.k aP.o aP.l aP.m aP.pt aP.th aP.tr aP.mx aP.vt aP.sd aI _ ).mono ?_
  rintro e w4 ⟨rfl, hb4⟩
  have HB4 := Lib.hid (Below.next HB3.out hb4)
  have hs4 := hb4.size
  have AJ4 := Lib.hid hb4; clear hb4
  have pxaP0_4 := box_at BXaP0.out HB4.out
  clear pxaP0_3
  have pxaP1_4 := box_at BXaP1.out HB4.out
  clear pxaP1_3
  have pxaP2_4 := box_at BXaP2.out HB4.out
  clear pxaP2_3
  have pxaP3_4 := box_at BXaP3.out HB4.out
  clear pxaP3_3
  have pxaP4_4 := box_at BXaP4.out HB4.out
  clear pxaP4_3
  have pxaP5_4 := box_at BXaP5.out HB4.out
  clear pxaP5_3
  have pxaP6_4 := box_at BXaP6.out HB4.out
  clear pxaP6_3
  have pxaP7_4 := box_at BXaP7.out HB4.out
  clear pxaP7_3
  have pxaP8_4 := box_at BXaP8.out HB4.out
  clear pxaP8_3
  have pxaP9_4 := box_at BXaP9.out HB4.out
  clear pxaP9_3
  have pxaP10_4 := box_at BXaP10.out HB4.out
  clear pxaP10_3
  have pxaP11_4 := box_at BXaP11.out HB4.out
  clear pxaP11_3
  have pxaP12_4 := box_at BXaP12.out HB4.out
  clear pxaP12_3
  go_wp2_with fail
  go_ret
  exact ⟨rfl, HWB.out.trans (HB4.out.mono HWB.out.size)⟩
end Go.Proofs.Ytcpigedjblkcfaa

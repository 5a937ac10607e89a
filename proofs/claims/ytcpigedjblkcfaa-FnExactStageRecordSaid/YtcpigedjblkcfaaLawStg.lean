/- The walks of laws, by program (genlaw4.py). -/
import Derived.Test.YtcpigedjblkcfaaStg5
namespace Go.Proofs.Ytcpigedjblkcfaa
open Go.RowKit
set_option linter.unusedSimpArgs false
set_option linter.unusedVariables false

set_option maxRecDepth 100000 in
set_option maxHeartbeats 2000000 in
theorem law_StageRecord (aS : Value) (laS : StageD) (w : World) (haS : (kS rStage).rd w aS laS) :
    Calls Try.prog 8 #[aS] w fun e w' => e = .returned (.bool true) ∧ Below w.heap.size w w' := by
  obtain ⟨aS_a1, aS_n1, aS_c1, aS_a2, aS_n2, aS_c2, aS_a3, aS_n3, aS_c3, aS_a4, aS_n4, aS_c4, aS_a5, aS_n5, aS_c5, aS_a6, aS_n6, aS_c6, aS_a7, aS_n7, aS_c7, aS_a8, aS_n8, aS_c8, aS_a9, aS_n9, aS_c9, aS_a10, aS_n10, aS_c10, aS_a11, aS_n11, aS_c11, aS_a12, aS_n12, aS_c12, rfl, hrestaS⟩ := rdStage.1 haS
  have haS : (kS rStage).rd w (.agg #[.int .i64 laS.argument, .slice aS_a1 aS_n1 aS_c1, .slice aS_a2 aS_n2 aS_c2, .slice aS_a3 aS_n3 aS_c3, .slice aS_a4 aS_n4 aS_c4, .slice aS_a5 aS_n5 aS_c5, .slice aS_a6 aS_n6 aS_c6, .slice aS_a7 aS_n7 aS_c7, .slice aS_a8 aS_n8 aS_c8, .slice aS_a9 aS_n9 aS_c9, .slice aS_a10 aS_n10 aS_c10, .slice aS_a11 aS_n11 aS_c11, .slice aS_a12 aS_n12 aS_c12]) laS := rdStage.2 ⟨_, _, _, _, _, _, _, _, _, _, _, _, _, _, _, _, _, _, _, _, _, _, _, _, _, _, _, _, _, _, _, _, _, _, _, _, rfl, hrestaS⟩
  clear hrestaS
  obtain ⟨W, hW⟩ : ∃ W, W = w.alloc (.cells #[.int .i64 laS.argument, .slice aS_a1 aS_n1 aS_c1, .slice aS_a2 aS_n2 aS_c2, .slice aS_a3 aS_n3 aS_c3, .slice aS_a4 aS_n4 aS_c4, .slice aS_a5 aS_n5 aS_c5, .slice aS_a6 aS_n6 aS_c6, .slice aS_a7 aS_n7 aS_c7, .slice aS_a8 aS_n8 aS_c8, .slice aS_a9 aS_n9 aS_c9, .slice aS_a10 aS_n10 aS_c10, .slice aS_a11 aS_n11 aS_c11, .slice aS_a12 aS_n12 aS_c12] 53) := ⟨_, rfl⟩
  have HWB : Hid (Below w.heap.size w W) := by unfold Hid; rw [hW]; (repeat (first | exact Below.refl _ _ | assumption | refine Below.drew ?_ | refine Below.alloc ?_ (by first | (simp; done) | (simp; omega)) _ | refine Below.setCell ?_ (by first | (simp; done) | (simp; omega)) _))
  have BXaS0 : Hid (W.cell? ⟨w.heap.size, 0, none⟩ = some (.int .i64 laS.argument)) := by unfold Hid; rw [hW]; simp [go_sem]
  have BXaS1 : Hid (W.cell? ⟨w.heap.size, 1, none⟩ = some (.slice aS_a1 aS_n1 aS_c1)) := by unfold Hid; rw [hW]; simp [go_sem]
  have BXaS2 : Hid (W.cell? ⟨w.heap.size, 2, none⟩ = some (.slice aS_a2 aS_n2 aS_c2)) := by unfold Hid; rw [hW]; simp [go_sem]
  have BXaS3 : Hid (W.cell? ⟨w.heap.size, 3, none⟩ = some (.slice aS_a3 aS_n3 aS_c3)) := by unfold Hid; rw [hW]; simp [go_sem]
  have BXaS4 : Hid (W.cell? ⟨w.heap.size, 4, none⟩ = some (.slice aS_a4 aS_n4 aS_c4)) := by unfold Hid; rw [hW]; simp [go_sem]
  have BXaS5 : Hid (W.cell? ⟨w.heap.size, 5, none⟩ = some (.slice aS_a5 aS_n5 aS_c5)) := by unfold Hid; rw [hW]; simp [go_sem]
  have BXaS6 : Hid (W.cell? ⟨w.heap.size, 6, none⟩ = some (.slice aS_a6 aS_n6 aS_c6)) := by unfold Hid; rw [hW]; simp [go_sem]
  have BXaS7 : Hid (W.cell? ⟨w.heap.size, 7, none⟩ = some (.slice aS_a7 aS_n7 aS_c7)) := by unfold Hid; rw [hW]; simp [go_sem]
  have BXaS8 : Hid (W.cell? ⟨w.heap.size, 8, none⟩ = some (.slice aS_a8 aS_n8 aS_c8)) := by unfold Hid; rw [hW]; simp [go_sem]
  have BXaS9 : Hid (W.cell? ⟨w.heap.size, 9, none⟩ = some (.slice aS_a9 aS_n9 aS_c9)) := by unfold Hid; rw [hW]; simp [go_sem]
  have BXaS10 : Hid (W.cell? ⟨w.heap.size, 10, none⟩ = some (.slice aS_a10 aS_n10 aS_c10)) := by unfold Hid; rw [hW]; simp [go_sem]
  have BXaS11 : Hid (W.cell? ⟨w.heap.size, 11, none⟩ = some (.slice aS_a11 aS_n11 aS_c11)) := by unfold Hid; rw [hW]; simp [go_sem]
  have BXaS12 : Hid (W.cell? ⟨w.heap.size, 12, none⟩ = some (.slice aS_a12 aS_n12 aS_c12)) := by unfold Hid; rw [hW]; simp [go_sem]
  replace haS := ((kS rStage).rd_below haS HWB.out)
  have HaS := Lib.hid haS; clear haS
  go_enter Try.func8, Try.ntmps8
  go_wp2_with fail
  rw [← hW]
  clear hW
  have pxaS0_0 := BXaS0.out
  have pxaS1_0 := BXaS1.out
  have pxaS2_0 := BXaS2.out
  have pxaS3_0 := BXaS3.out
  have pxaS4_0 := BXaS4.out
  have pxaS5_0 := BXaS5.out
  have pxaS6_0 := BXaS6.out
  have pxaS7_0 := BXaS7.out
  have pxaS8_0 := BXaS8.out
  have pxaS9_0 := BXaS9.out
  have pxaS10_0 := BXaS10.out
  have pxaS11_0 := BXaS11.out
  have pxaS12_0 := BXaS12.out
  refine (laws_szStage _ laS 1048576 _ ((kS rStage).rd_below HaS.out (Below.refl _ _)) (by decide) (by decide)).mono ?_
  rintro e w1 ⟨⟨r0, rfl, hr0, hsz0⟩, hb1⟩
  replace hsz0 : 0 ≤ r0 → (szStage laS : Int) ≤ 1048576 ∧ r0 ≤ 1048576 := fun h => by have := hsz0 h; omega
  have HB1 := Lib.hid (Below.next (Below.refl _ _) hb1)
  have hs1 := hb1.size
  have AJ1 := Lib.hid hb1; clear hb1
  have pxaS0_1 := box_at BXaS0.out HB1.out
  clear pxaS0_0
  have pxaS1_1 := box_at BXaS1.out HB1.out
  clear pxaS1_0
  have pxaS2_1 := box_at BXaS2.out HB1.out
  clear pxaS2_0
  have pxaS3_1 := box_at BXaS3.out HB1.out
  clear pxaS3_0
  have pxaS4_1 := box_at BXaS4.out HB1.out
  clear pxaS4_0
  have pxaS5_1 := box_at BXaS5.out HB1.out
  clear pxaS5_0
  have pxaS6_1 := box_at BXaS6.out HB1.out
  clear pxaS6_0
  have pxaS7_1 := box_at BXaS7.out HB1.out
  clear pxaS7_0
  have pxaS8_1 := box_at BXaS8.out HB1.out
  clear pxaS8_0
  have pxaS9_1 := box_at BXaS9.out HB1.out
  clear pxaS9_0
  have pxaS10_1 := box_at BXaS10.out HB1.out
  clear pxaS10_0
  have pxaS11_1 := box_at BXaS11.out HB1.out
  clear pxaS11_0
  have pxaS12_1 := box_at BXaS12.out HB1.out
  clear pxaS12_0
  by_cases hneg0 : r0 < 0
  · go_wp2_with fail
    go_ret
    exact ⟨rfl, HWB.out.trans (HB1.out.mono HWB.out.size)⟩
  · have HZaS : Hid ((szStage laS : Int) ≤ 1000000000) := by have := (hsz0 (by omega)).1; unfold Hid; omega
    have HYaS : Hid ((szStage laS : Int) ≤ 1048576) := by have := (hsz0 (by omega)).1; unfold Hid; omega
    have hrb0 : r0 ≤ 1048576 := by have := (hsz0 (by omega)).2; omega
    clear hsz0
    go_wp2_with fail
    refine (laws_toStage _ laS _ ((kS rStage).rd_below HaS.out HB1.out) HZaS.out).mono ?_
    rintro e w2 ⟨saS, rfl, hX, hb2⟩
    have OsaS := Lib.hid (hX); clear hX
    obtain ⟨saS_a1, saS_n1, saS_c1, saS_a2, saS_n2, saS_c2, saS_a3, saS_n3, saS_c3, saS_a4, saS_n4, saS_c4, saS_a5, saS_n5, saS_c5, saS_a6, saS_n6, saS_c6, saS_a7, saS_n7, saS_c7, saS_a8, saS_n8, saS_c8, saS_a9, saS_n9, saS_c9, saS_a10, saS_n10, saS_c10, saS_a11, saS_n11, saS_c11, saS_a12, saS_n12, saS_c12, rfl, hrest⟩ := rdStage.1 ((kS rStage).own_rd OsaS.out)
    clear hrest
    have HB2 := Lib.hid (Below.next HB1.out hb2)
    have hs2 := hb2.size
    have AJ2 := Lib.hid hb2; clear hb2
    have pxaS0_2 := box_at BXaS0.out HB2.out
    clear pxaS0_1
    have pxaS1_2 := box_at BXaS1.out HB2.out
    clear pxaS1_1
    have pxaS2_2 := box_at BXaS2.out HB2.out
    clear pxaS2_1
    have pxaS3_2 := box_at BXaS3.out HB2.out
    clear pxaS3_1
    have pxaS4_2 := box_at BXaS4.out HB2.out
    clear pxaS4_1
    have pxaS5_2 := box_at BXaS5.out HB2.out
    clear pxaS5_1
    have pxaS6_2 := box_at BXaS6.out HB2.out
    clear pxaS6_1
    have pxaS7_2 := box_at BXaS7.out HB2.out
    clear pxaS7_1
    have pxaS8_2 := box_at BXaS8.out HB2.out
    clear pxaS8_1
    have pxaS9_2 := box_at BXaS9.out HB2.out
    clear pxaS9_1
    have pxaS10_2 := box_at BXaS10.out HB2.out
    clear pxaS10_1
    have pxaS11_2 := box_at BXaS11.out HB2.out
    clear pxaS11_1
    have pxaS12_2 := box_at BXaS12.out HB2.out
    clear pxaS12_1
    go_wp2_with fail
    refine (spec_StageRecord _ laS _ HYaS.out ((kS rStage).own_rd OsaS.out)).mono ?_
    rintro e w3 ⟨want0, rfl, hXwant0, hb3⟩
    have Owant0 := Lib.hid hXwant0; clear hXwant0
    have HB3 := Lib.hid (Below.next HB2.out hb3)
    have hs3 := hb3.size
    have AJ3 := Lib.hid hb3; clear hb3
    have pxaS0_3 := box_at BXaS0.out HB3.out
    clear pxaS0_2
    have pxaS1_3 := box_at BXaS1.out HB3.out
    clear pxaS1_2
    have pxaS2_3 := box_at BXaS2.out HB3.out
    clear pxaS2_2
    have pxaS3_3 := box_at BXaS3.out HB3.out
    clear pxaS3_2
    have pxaS4_3 := box_at BXaS4.out HB3.out
    clear pxaS4_2
    have pxaS5_3 := box_at BXaS5.out HB3.out
    clear pxaS5_2
    have pxaS6_3 := box_at BXaS6.out HB3.out
    clear pxaS6_2
    have pxaS7_3 := box_at BXaS7.out HB3.out
    clear pxaS7_2
    have pxaS8_3 := box_at BXaS8.out HB3.out
    clear pxaS8_2
    have pxaS9_3 := box_at BXaS9.out HB3.out
    clear pxaS9_2
    have pxaS10_3 := box_at BXaS10.out HB3.out
    clear pxaS10_2
    have pxaS11_3 := box_at BXaS11.out HB3.out
    clear pxaS11_2
    have pxaS12_3 := box_at BXaS12.out HB3.out
    clear pxaS12_2
    go_wp2_with fail
    refine (laws_toStage _ laS _ ((kS rStage).rd_below HaS.out HB3.out) HZaS.out).mono ?_
    rintro e w4 ⟨xaS, rfl, hX, hb4⟩
    have OxaS := Lib.hid (hX); clear hX
    obtain ⟨xaS_a1, xaS_n1, xaS_c1, xaS_a2, xaS_n2, xaS_c2, xaS_a3, xaS_n3, xaS_c3, xaS_a4, xaS_n4, xaS_c4, xaS_a5, xaS_n5, xaS_c5, xaS_a6, xaS_n6, xaS_c6, xaS_a7, xaS_n7, xaS_c7, xaS_a8, xaS_n8, xaS_c8, xaS_a9, xaS_n9, xaS_c9, xaS_a10, xaS_n10, xaS_c10, xaS_a11, xaS_n11, xaS_c11, xaS_a12, xaS_n12, xaS_c12, rfl, hrest⟩ := rdStage.1 ((kS rStage).own_rd OxaS.out)
    clear hrest
    have HB4 := Lib.hid (Below.next HB3.out hb4)
    have hs4 := hb4.size
    have AJ4 := Lib.hid hb4; clear hb4
    have pxaS0_4 := box_at BXaS0.out HB4.out
    clear pxaS0_3
    have pxaS1_4 := box_at BXaS1.out HB4.out
    clear pxaS1_3
    have pxaS2_4 := box_at BXaS2.out HB4.out
    clear pxaS2_3
    have pxaS3_4 := box_at BXaS3.out HB4.out
    clear pxaS3_3
    have pxaS4_4 := box_at BXaS4.out HB4.out
    clear pxaS4_3
    have pxaS5_4 := box_at BXaS5.out HB4.out
    clear pxaS5_3
    have pxaS6_4 := box_at BXaS6.out HB4.out
    clear pxaS6_3
    have pxaS7_4 := box_at BXaS7.out HB4.out
    clear pxaS7_3
    have pxaS8_4 := box_at BXaS8.out HB4.out
    clear pxaS8_3
    have pxaS9_4 := box_at BXaS9.out HB4.out
    clear pxaS9_3
    have pxaS10_4 := box_at BXaS10.out HB4.out
    clear pxaS10_3
    have pxaS11_4 := box_at BXaS11.out HB4.out
    clear pxaS11_3
    have pxaS12_4 := box_at BXaS12.out HB4.out
    clear pxaS12_3
    have zl0 : w.heap.size < w4.heap.size := World.block_lt_of_cell? _ _ pxaS0_4
    go_wp2_with fail
    clear zl0
    obtain ⟨w5, hw5⟩ : ∃ u, u = w4.alloc (.cells #[.int .i64 laS.argument, .slice xaS_a1 xaS_n1 xaS_c1, .slice xaS_a2 xaS_n2 xaS_c2, .slice xaS_a3 xaS_n3 xaS_c3, .slice xaS_a4 xaS_n4 xaS_c4, .slice xaS_a5 xaS_n5 xaS_c5, .slice xaS_a6 xaS_n6 xaS_c6, .slice xaS_a7 xaS_n7 xaS_c7, .slice xaS_a8 xaS_n8 xaS_c8, .slice xaS_a9 xaS_n9 xaS_c9, .slice xaS_a10 xaS_n10 xaS_c10, .slice xaS_a11 xaS_n11 xaS_c11, .slice xaS_a12 xaS_n12 xaS_c12] 63) := ⟨_, rfl⟩
    rw [← hw5]
    have hb5 : Below w4.heap.size w4 w5 := by rw [hw5]; exact (Below.refl _ _).alloc (Nat.le_refl _) _
    have hlt5 : w4.heap.size < w5.heap.size := by rw [hw5]; simp
    have pxxaS0_5 : w5.cell? ⟨w4.heap.size, 0, none⟩ = some (.int .i64 laS.argument) := by rw [hw5]; simp [go_sem]
    have pxxaS1_5 : w5.cell? ⟨w4.heap.size, 1, none⟩ = some (.slice xaS_a1 xaS_n1 xaS_c1) := by rw [hw5]; simp [go_sem]
    have pxxaS2_5 : w5.cell? ⟨w4.heap.size, 2, none⟩ = some (.slice xaS_a2 xaS_n2 xaS_c2) := by rw [hw5]; simp [go_sem]
    have pxxaS3_5 : w5.cell? ⟨w4.heap.size, 3, none⟩ = some (.slice xaS_a3 xaS_n3 xaS_c3) := by rw [hw5]; simp [go_sem]
    have pxxaS4_5 : w5.cell? ⟨w4.heap.size, 4, none⟩ = some (.slice xaS_a4 xaS_n4 xaS_c4) := by rw [hw5]; simp [go_sem]
    have pxxaS5_5 : w5.cell? ⟨w4.heap.size, 5, none⟩ = some (.slice xaS_a5 xaS_n5 xaS_c5) := by rw [hw5]; simp [go_sem]
    have pxxaS6_5 : w5.cell? ⟨w4.heap.size, 6, none⟩ = some (.slice xaS_a6 xaS_n6 xaS_c6) := by rw [hw5]; simp [go_sem]
    have pxxaS7_5 : w5.cell? ⟨w4.heap.size, 7, none⟩ = some (.slice xaS_a7 xaS_n7 xaS_c7) := by rw [hw5]; simp [go_sem]
    have pxxaS8_5 : w5.cell? ⟨w4.heap.size, 8, none⟩ = some (.slice xaS_a8 xaS_n8 xaS_c8) := by rw [hw5]; simp [go_sem]
    have pxxaS9_5 : w5.cell? ⟨w4.heap.size, 9, none⟩ = some (.slice xaS_a9 xaS_n9 xaS_c9) := by rw [hw5]; simp [go_sem]
    have pxxaS10_5 : w5.cell? ⟨w4.heap.size, 10, none⟩ = some (.slice xaS_a10 xaS_n10 xaS_c10) := by rw [hw5]; simp [go_sem]
    have pxxaS11_5 : w5.cell? ⟨w4.heap.size, 11, none⟩ = some (.slice xaS_a11 xaS_n11 xaS_c11) := by rw [hw5]; simp [go_sem]
    have pxxaS12_5 : w5.cell? ⟨w4.heap.size, 12, none⟩ = some (.slice xaS_a12 xaS_n12 xaS_c12) := by rw [hw5]; simp [go_sem]
    clear hw5
    have HB5 := Lib.hid (Below.next HB4.out hb5)
    have hs5 := hb5.size
    have AJ5 := Lib.hid hb5; clear hb5
    have pxaS0_5 := box_at BXaS0.out HB5.out
    clear pxaS0_4
    have pxaS1_5 := box_at BXaS1.out HB5.out
    clear pxaS1_4
    have pxaS2_5 := box_at BXaS2.out HB5.out
    clear pxaS2_4
    have pxaS3_5 := box_at BXaS3.out HB5.out
    clear pxaS3_4
    have pxaS4_5 := box_at BXaS4.out HB5.out
    clear pxaS4_4
    have pxaS5_5 := box_at BXaS5.out HB5.out
    clear pxaS5_4
    have pxaS6_5 := box_at BXaS6.out HB5.out
    clear pxaS6_4
    have pxaS7_5 := box_at BXaS7.out HB5.out
    clear pxaS7_4
    have pxaS8_5 := box_at BXaS8.out HB5.out
    clear pxaS8_4
    have pxaS9_5 := box_at BXaS9.out HB5.out
    clear pxaS9_4
    have pxaS10_5 := box_at BXaS10.out HB5.out
    clear pxaS10_4
    have pxaS11_5 := box_at BXaS11.out HB5.out
    clear pxaS11_4
    have pxaS12_5 := box_at BXaS12.out HB5.out
    clear pxaS12_4
    refine (impl_StageRecord _ laS _ HYaS.out ((kS rStage).own_rd (Kind.next (K := kS rStage) OxaS.out AJ5.out))).mono ?_
    rintro e w6 ⟨got0, rfl, hXgot0, hb6⟩
    have Ogot0 := Lib.hid hXgot0; clear hXgot0
    have HB6 := Lib.hid (Below.next HB5.out hb6)
    have hs6 := hb6.size
    have AJ6 := Lib.hid hb6; clear hb6
    have pxaS0_6 := box_at BXaS0.out HB6.out
    clear pxaS0_5
    have pxaS1_6 := box_at BXaS1.out HB6.out
    clear pxaS1_5
    have pxaS2_6 := box_at BXaS2.out HB6.out
    clear pxaS2_5
    have pxaS3_6 := box_at BXaS3.out HB6.out
    clear pxaS3_5
    have pxaS4_6 := box_at BXaS4.out HB6.out
    clear pxaS4_5
    have pxaS5_6 := box_at BXaS5.out HB6.out
    clear pxaS5_5
    have pxaS6_6 := box_at BXaS6.out HB6.out
    clear pxaS6_5
    have pxaS7_6 := box_at BXaS7.out HB6.out
    clear pxaS7_5
    have pxaS8_6 := box_at BXaS8.out HB6.out
    clear pxaS8_5
    have pxaS9_6 := box_at BXaS9.out HB6.out
    clear pxaS9_5
    have pxaS10_6 := box_at BXaS10.out HB6.out
    clear pxaS10_5
    have pxaS11_6 := box_at BXaS11.out HB6.out
    clear pxaS11_5
    have pxaS12_6 := box_at BXaS12.out HB6.out
    clear pxaS12_5
    have pxxaS0_6 := box_at pxxaS0_5 AJ6.out
    clear pxxaS0_5
    have pxxaS1_6 := box_at pxxaS1_5 AJ6.out
    clear pxxaS1_5
    have pxxaS2_6 := box_at pxxaS2_5 AJ6.out
    clear pxxaS2_5
    have pxxaS3_6 := box_at pxxaS3_5 AJ6.out
    clear pxxaS3_5
    have pxxaS4_6 := box_at pxxaS4_5 AJ6.out
    clear pxxaS4_5
    have pxxaS5_6 := box_at pxxaS5_5 AJ6.out
    clear pxxaS5_5
    have pxxaS6_6 := box_at pxxaS6_5 AJ6.out
    clear pxxaS6_5
    have pxxaS7_6 := box_at pxxaS7_5 AJ6.out
    clear pxxaS7_5
    have pxxaS8_6 := box_at pxxaS8_5 AJ6.out
    clear pxxaS8_5
    have pxxaS9_6 := box_at pxxaS9_5 AJ6.out
    clear pxxaS9_5
    have pxxaS10_6 := box_at pxxaS10_5 AJ6.out
    clear pxxaS10_5
    have pxxaS11_6 := box_at pxxaS11_5 AJ6.out
    clear pxxaS11_5
    have pxxaS12_6 := box_at pxxaS12_5 AJ6.out
    clear pxxaS12_5
    go_wp2_with fail
    refine (laws_eqIntS _ _ _ _ _ Ogot0.out.reads (((Owant0.out.next AJ4.out).next AJ5.out).next AJ6.out).reads).mono ?_
    rintro e w7 ⟨rfl, m7, hw7⟩
    have hb7 := Below.drewOf hw7; clear hw7
    rw [decide_eq_true rfl]
    have HB7 := Lib.hid (Below.next HB6.out hb7)
    have hs7 := hb7.size
    have AJ7 := Lib.hid hb7; clear hb7
    have pxaS0_7 := box_at BXaS0.out HB7.out
    clear pxaS0_6
    have pxaS1_7 := box_at BXaS1.out HB7.out
    clear pxaS1_6
    have pxaS2_7 := box_at BXaS2.out HB7.out
    clear pxaS2_6
    have pxaS3_7 := box_at BXaS3.out HB7.out
    clear pxaS3_6
    have pxaS4_7 := box_at BXaS4.out HB7.out
    clear pxaS4_6
    have pxaS5_7 := box_at BXaS5.out HB7.out
    clear pxaS5_6
    have pxaS6_7 := box_at BXaS6.out HB7.out
    clear pxaS6_6
    have pxaS7_7 := box_at BXaS7.out HB7.out
    clear pxaS7_6
    have pxaS8_7 := box_at BXaS8.out HB7.out
    clear pxaS8_6
    have pxaS9_7 := box_at BXaS9.out HB7.out
    clear pxaS9_6
    have pxaS10_7 := box_at BXaS10.out HB7.out
    clear pxaS10_6
    have pxaS11_7 := box_at BXaS11.out HB7.out
    clear pxaS11_6
    have pxaS12_7 := box_at BXaS12.out HB7.out
    clear pxaS12_6
    have pxxaS0_7 := box_at pxxaS0_6 AJ7.out
    clear pxxaS0_6
    have pxxaS1_7 := box_at pxxaS1_6 AJ7.out
    clear pxxaS1_6
    have pxxaS2_7 := box_at pxxaS2_6 AJ7.out
    clear pxxaS2_6
    have pxxaS3_7 := box_at pxxaS3_6 AJ7.out
    clear pxxaS3_6
    have pxxaS4_7 := box_at pxxaS4_6 AJ7.out
    clear pxxaS4_6
    have pxxaS5_7 := box_at pxxaS5_6 AJ7.out
    clear pxxaS5_6
    have pxxaS6_7 := box_at pxxaS6_6 AJ7.out
    clear pxxaS6_6
    have pxxaS7_7 := box_at pxxaS7_6 AJ7.out
    clear pxxaS7_6
    have pxxaS8_7 := box_at pxxaS8_6 AJ7.out
    clear pxxaS8_6
    have pxxaS9_7 := box_at pxxaS9_6 AJ7.out
    clear pxxaS9_6
    have pxxaS10_7 := box_at pxxaS10_6 AJ7.out
    clear pxxaS10_6
    have pxxaS11_7 := box_at pxxaS11_6 AJ7.out
    clear pxxaS11_6
    have pxxaS12_7 := box_at pxxaS12_6 AJ7.out
    clear pxxaS12_6
    go_wp2_with fail
    go_region_held3 (fun w' => Below w7.heap.size w7 w' ∧ w'.cell? ⟨w.heap.size, 0, none⟩ = some (.int .i64 laS.argument) ∧ w'.cell? ⟨w.heap.size, 1, none⟩ = some (.slice aS_a1 aS_n1 aS_c1) ∧ w'.cell? ⟨w.heap.size, 2, none⟩ = some (.slice aS_a2 aS_n2 aS_c2) ∧ w'.cell? ⟨w.heap.size, 3, none⟩ = some (.slice aS_a3 aS_n3 aS_c3) ∧ w'.cell? ⟨w.heap.size, 4, none⟩ = some (.slice aS_a4 aS_n4 aS_c4) ∧ w'.cell? ⟨w.heap.size, 5, none⟩ = some (.slice aS_a5 aS_n5 aS_c5) ∧ w'.cell? ⟨w.heap.size, 6, none⟩ = some (.slice aS_a6 aS_n6 aS_c6) ∧ w'.cell? ⟨w.heap.size, 7, none⟩ = some (.slice aS_a7 aS_n7 aS_c7) ∧ w'.cell? ⟨w.heap.size, 8, none⟩ = some (.slice aS_a8 aS_n8 aS_c8) ∧ w'.cell? ⟨w.heap.size, 9, none⟩ = some (.slice aS_a9 aS_n9 aS_c9) ∧ w'.cell? ⟨w.heap.size, 10, none⟩ = some (.slice aS_a10 aS_n10 aS_c10) ∧ w'.cell? ⟨w.heap.size, 11, none⟩ = some (.slice aS_a11 aS_n11 aS_c11) ∧ w'.cell? ⟨w.heap.size, 12, none⟩ = some (.slice aS_a12 aS_n12 aS_c12) ∧ w'.cell? ⟨w4.heap.size, 0, none⟩ = some (.int .i64 laS.argument) ∧ w'.cell? ⟨w4.heap.size, 1, none⟩ = some (.slice xaS_a1 xaS_n1 xaS_c1) ∧ w'.cell? ⟨w4.heap.size, 2, none⟩ = some (.slice xaS_a2 xaS_n2 xaS_c2) ∧ w'.cell? ⟨w4.heap.size, 3, none⟩ = some (.slice xaS_a3 xaS_n3 xaS_c3) ∧ w'.cell? ⟨w4.heap.size, 4, none⟩ = some (.slice xaS_a4 xaS_n4 xaS_c4) ∧ w'.cell? ⟨w4.heap.size, 5, none⟩ = some (.slice xaS_a5 xaS_n5 xaS_c5) ∧ w'.cell? ⟨w4.heap.size, 6, none⟩ = some (.slice xaS_a6 xaS_n6 xaS_c6) ∧ w'.cell? ⟨w4.heap.size, 7, none⟩ = some (.slice xaS_a7 xaS_n7 xaS_c7) ∧ w'.cell? ⟨w4.heap.size, 8, none⟩ = some (.slice xaS_a8 xaS_n8 xaS_c8) ∧ w'.cell? ⟨w4.heap.size, 9, none⟩ = some (.slice xaS_a9 xaS_n9 xaS_c9) ∧ w'.cell? ⟨w4.heap.size, 10, none⟩ = some (.slice xaS_a10 xaS_n10 xaS_c10) ∧ w'.cell? ⟨w4.heap.size, 11, none⟩ = some (.slice xaS_a11 xaS_n11 xaS_c11) ∧ w'.cell? ⟨w4.heap.size, 12, none⟩ = some (.slice xaS_a12 xaS_n12 xaS_c12)) (first | (have hbq : Below w7.heap.size w7 _ := (Below.refl _ _).drew; exact ⟨hbq, box_at pxaS0_7 hbq, box_at pxaS1_7 hbq, box_at pxaS2_7 hbq, box_at pxaS3_7 hbq, box_at pxaS4_7 hbq, box_at pxaS5_7 hbq, box_at pxaS6_7 hbq, box_at pxaS7_7 hbq, box_at pxaS8_7 hbq, box_at pxaS9_7 hbq, box_at pxaS10_7 hbq, box_at pxaS11_7 hbq, box_at pxaS12_7 hbq, box_at pxxaS0_7 hbq, box_at pxxaS1_7 hbq, box_at pxxaS2_7 hbq, box_at pxxaS3_7 hbq, box_at pxxaS4_7 hbq, box_at pxxaS5_7 hbq, box_at pxxaS6_7 hbq, box_at pxxaS7_7 hbq, box_at pxxaS8_7 hbq, box_at pxxaS9_7 hbq, box_at pxxaS10_7 hbq, box_at pxxaS11_7 hbq, box_at pxxaS12_7 hbq⟩) | (have hbq := keep_b (by assumption) (‹Below w7.heap.size w7 _ ∧ _›).1; exact ⟨hbq, box_at pxaS0_7 hbq, box_at pxaS1_7 hbq, box_at pxaS2_7 hbq, box_at pxaS3_7 hbq, box_at pxaS4_7 hbq, box_at pxaS5_7 hbq, box_at pxaS6_7 hbq, box_at pxaS7_7 hbq, box_at pxaS8_7 hbq, box_at pxaS9_7 hbq, box_at pxaS10_7 hbq, box_at pxaS11_7 hbq, box_at pxaS12_7 hbq, box_at pxxaS0_7 hbq, box_at pxxaS1_7 hbq, box_at pxxaS2_7 hbq, box_at pxxaS3_7 hbq, box_at pxxaS4_7 hbq, box_at pxxaS5_7 hbq, box_at pxxaS6_7 hbq, box_at pxxaS7_7 hbq, box_at pxxaS8_7 hbq, box_at pxxaS9_7 hbq, box_at pxxaS10_7 hbq, box_at pxxaS11_7 hbq, box_at pxxaS12_7 hbq⟩) | fail) ((first
      | (go_at_call 29; refine (laws_toStage _ laS _ ((kS rStage).rd_below HaS.out (HB7.out.trans ((‹Below w7.heap.size w7 _ ∧ _›).1.mono HB7.out.size))) HZaS.out).mono ?_; rintro e wy ⟨yy, rfl, hX, hby⟩; obtain ⟨yy_a1, yy_n1, yy_c1, yy_a2, yy_n2, yy_c2, yy_a3, yy_n3, yy_c3, yy_a4, yy_n4, yy_c4, yy_a5, yy_n5, yy_c5, yy_a6, yy_n6, yy_c6, yy_a7, yy_n7, yy_c7, yy_a8, yy_n8, yy_c8, yy_a9, yy_n9, yy_c9, yy_a10, yy_n10, yy_c10, yy_a11, yy_n11, yy_c11, yy_a12, yy_n12, yy_c12, rfl, hrest⟩ := rdStage.1 ((kS rStage).own_rd hX); clear hrest)
      | (go_at_call 31; refine (laws_eqStage _ _ _ _ _ ((kS rStage).rd_below ((kS rStage).own_rd (Kind.next (K := kS rStage) (Kind.next (K := kS rStage) (Kind.next (K := kS rStage) OxaS.out AJ5.out) AJ6.out) AJ7.out)) (keep_b hby (Below.refl _ _).drew)) ((kS rStage).own_rd hX)).mono ?_; rintro e w8 ⟨rfl, hb8⟩; rw [decide_eq_true rfl])
      | fail))
    replace hb8 : Below w7.heap.size w7 w8 := (‹Below w7.heap.size w7 _ ∧ _›).1
    clear hX
    have HB8 := Lib.hid (Below.next HB7.out hb8)
    have hs8 := hb8.size
    have AJ8 := Lib.hid hb8; clear hb8
    have pxaS0_8 := box_at BXaS0.out HB8.out
    clear pxaS0_7
    have pxaS1_8 := box_at BXaS1.out HB8.out
    clear pxaS1_7
    have pxaS2_8 := box_at BXaS2.out HB8.out
    clear pxaS2_7
    have pxaS3_8 := box_at BXaS3.out HB8.out
    clear pxaS3_7
    have pxaS4_8 := box_at BXaS4.out HB8.out
    clear pxaS4_7
    have pxaS5_8 := box_at BXaS5.out HB8.out
    clear pxaS5_7
    have pxaS6_8 := box_at BXaS6.out HB8.out
    clear pxaS6_7
    have pxaS7_8 := box_at BXaS7.out HB8.out
    clear pxaS7_7
    have pxaS8_8 := box_at BXaS8.out HB8.out
    clear pxaS8_7
    have pxaS9_8 := box_at BXaS9.out HB8.out
    clear pxaS9_7
    have pxaS10_8 := box_at BXaS10.out HB8.out
    clear pxaS10_7
    have pxaS11_8 := box_at BXaS11.out HB8.out
    clear pxaS11_7
    have pxaS12_8 := box_at BXaS12.out HB8.out
    clear pxaS12_7
    have pxxaS0_8 := box_at pxxaS0_7 AJ8.out
    clear pxxaS0_7
    have pxxaS1_8 := box_at pxxaS1_7 AJ8.out
    clear pxxaS1_7
    have pxxaS2_8 := box_at pxxaS2_7 AJ8.out
    clear pxxaS2_7
    have pxxaS3_8 := box_at pxxaS3_7 AJ8.out
    clear pxxaS3_7
    have pxxaS4_8 := box_at pxxaS4_7 AJ8.out
    clear pxxaS4_7
    have pxxaS5_8 := box_at pxxaS5_7 AJ8.out
    clear pxxaS5_7
    have pxxaS6_8 := box_at pxxaS6_7 AJ8.out
    clear pxxaS6_7
    have pxxaS7_8 := box_at pxxaS7_7 AJ8.out
    clear pxxaS7_7
    have pxxaS8_8 := box_at pxxaS8_7 AJ8.out
    clear pxxaS8_7
    have pxxaS9_8 := box_at pxxaS9_7 AJ8.out
    clear pxxaS9_7
    have pxxaS10_8 := box_at pxxaS10_7 AJ8.out
    clear pxxaS10_7
    have pxxaS11_8 := box_at pxxaS11_7 AJ8.out
    clear pxxaS11_7
    have pxxaS12_8 := box_at pxxaS12_7 AJ8.out
    clear pxxaS12_7
    go_wp2_with fail
    refine (laws_markStage _ _ _ 1 _ _ (Kind.next (K := kS rStage) (Kind.next (K := kS rStage) (Kind.next (K := kS rStage) (Kind.next (K := kS rStage) OxaS.out AJ5.out) AJ6.out) AJ7.out) AJ8.out) (by have := HZaS.out; have := cnStage_le laS; omega) (by omega)).mono ?_
    rintro e w9 ⟨rfl, hX, hG9⟩
    have OxaSm := Lib.hid hX; clear hX
    have hs9 := hG9.size
    have HB9 := Lib.hid (HB8.out.trans (hG9.below (B := W.heap.size) (by omega) (by omega)))
    have HG9 := Lib.hid hG9; clear hG9
    have pxaS0_9 := box_at BXaS0.out HB9.out
    clear pxaS0_8
    have pxaS1_9 := box_at BXaS1.out HB9.out
    clear pxaS1_8
    have pxaS2_9 := box_at BXaS2.out HB9.out
    clear pxaS2_8
    have pxaS3_9 := box_at BXaS3.out HB9.out
    clear pxaS3_8
    have pxaS4_9 := box_at BXaS4.out HB9.out
    clear pxaS4_8
    have pxaS5_9 := box_at BXaS5.out HB9.out
    clear pxaS5_8
    have pxaS6_9 := box_at BXaS6.out HB9.out
    clear pxaS6_8
    have pxaS7_9 := box_at BXaS7.out HB9.out
    clear pxaS7_8
    have pxaS8_9 := box_at BXaS8.out HB9.out
    clear pxaS8_8
    have pxaS9_9 := box_at BXaS9.out HB9.out
    clear pxaS9_8
    have pxaS10_9 := box_at BXaS10.out HB9.out
    clear pxaS10_8
    have pxaS11_9 := box_at BXaS11.out HB9.out
    clear pxaS11_8
    have pxaS12_9 := box_at BXaS12.out HB9.out
    clear pxaS12_8
    have pxxaS0_9 := within_at HG9.out pxxaS0_8 (by omega)
    clear pxxaS0_8
    have pxxaS1_9 := within_at HG9.out pxxaS1_8 (by omega)
    clear pxxaS1_8
    have pxxaS2_9 := within_at HG9.out pxxaS2_8 (by omega)
    clear pxxaS2_8
    have pxxaS3_9 := within_at HG9.out pxxaS3_8 (by omega)
    clear pxxaS3_8
    have pxxaS4_9 := within_at HG9.out pxxaS4_8 (by omega)
    clear pxxaS4_8
    have pxxaS5_9 := within_at HG9.out pxxaS5_8 (by omega)
    clear pxxaS5_8
    have pxxaS6_9 := within_at HG9.out pxxaS6_8 (by omega)
    clear pxxaS6_8
    have pxxaS7_9 := within_at HG9.out pxxaS7_8 (by omega)
    clear pxxaS7_8
    have pxxaS8_9 := within_at HG9.out pxxaS8_8 (by omega)
    clear pxxaS8_8
    have pxxaS9_9 := within_at HG9.out pxxaS9_8 (by omega)
    clear pxxaS9_8
    have pxxaS10_9 := within_at HG9.out pxxaS10_8 (by omega)
    clear pxxaS10_8
    have pxxaS11_9 := within_at HG9.out pxxaS11_8 (by omega)
    clear pxxaS11_8
    have pxxaS12_9 := within_at HG9.out pxxaS12_8 (by omega)
    clear pxxaS12_8
    go_wp2_with fail
    refine (laws_eqIntS _ _ _ _ _ (((Ogot0.out.next AJ7.out).next AJ8.out).kept HG9.out (.inr (by omega))).reads ((((((Owant0.out.next AJ4.out).next AJ5.out).next AJ6.out).next AJ7.out).next AJ8.out).kept HG9.out (.inl (by omega))).reads).mono ?_
    rintro e w10 ⟨rfl, m10, hw10⟩
    have hb10 := Below.drewOf hw10; clear hw10
    rw [decide_eq_true rfl]
    have HB10 := Lib.hid (Below.next HB9.out hb10)
    have hs10 := hb10.size
    have AJ10 := Lib.hid hb10; clear hb10
    have pxaS0_10 := box_at BXaS0.out HB10.out
    clear pxaS0_9
    have pxaS1_10 := box_at BXaS1.out HB10.out
    clear pxaS1_9
    have pxaS2_10 := box_at BXaS2.out HB10.out
    clear pxaS2_9
    have pxaS3_10 := box_at BXaS3.out HB10.out
    clear pxaS3_9
    have pxaS4_10 := box_at BXaS4.out HB10.out
    clear pxaS4_9
    have pxaS5_10 := box_at BXaS5.out HB10.out
    clear pxaS5_9
    have pxaS6_10 := box_at BXaS6.out HB10.out
    clear pxaS6_9
    have pxaS7_10 := box_at BXaS7.out HB10.out
    clear pxaS7_9
    have pxaS8_10 := box_at BXaS8.out HB10.out
    clear pxaS8_9
    have pxaS9_10 := box_at BXaS9.out HB10.out
    clear pxaS9_9
    have pxaS10_10 := box_at BXaS10.out HB10.out
    clear pxaS10_9
    have pxaS11_10 := box_at BXaS11.out HB10.out
    clear pxaS11_9
    have pxaS12_10 := box_at BXaS12.out HB10.out
    clear pxaS12_9
    have pxxaS0_10 := box_at pxxaS0_9 AJ10.out
    clear pxxaS0_9
    have pxxaS1_10 := box_at pxxaS1_9 AJ10.out
    clear pxxaS1_9
    have pxxaS2_10 := box_at pxxaS2_9 AJ10.out
    clear pxxaS2_9
    have pxxaS3_10 := box_at pxxaS3_9 AJ10.out
    clear pxxaS3_9
    have pxxaS4_10 := box_at pxxaS4_9 AJ10.out
    clear pxxaS4_9
    have pxxaS5_10 := box_at pxxaS5_9 AJ10.out
    clear pxxaS5_9
    have pxxaS6_10 := box_at pxxaS6_9 AJ10.out
    clear pxxaS6_9
    have pxxaS7_10 := box_at pxxaS7_9 AJ10.out
    clear pxxaS7_9
    have pxxaS8_10 := box_at pxxaS8_9 AJ10.out
    clear pxxaS8_9
    have pxxaS9_10 := box_at pxxaS9_9 AJ10.out
    clear pxxaS9_9
    have pxxaS10_10 := box_at pxxaS10_9 AJ10.out
    clear pxxaS10_9
    have pxxaS11_10 := box_at pxxaS11_9 AJ10.out
    clear pxxaS11_9
    have pxxaS12_10 := box_at pxxaS12_9 AJ10.out
    clear pxxaS12_9
    have LG0 : Hid (1 + (stgR laS).length ≤ 9223372036854775806) := by have := stgR_length laS; unfold Hid; omega
    go_wp2_with fail
    refine (laws_markIntS_in _ _ _ 1 _ _ ((((Ogot0.out.next AJ7.out).next AJ8.out).kept HG9.out (.inr (by omega))).next AJ10.out) (by omega) (by exact LG0.out)).mono ?_
    rintro e w11 ⟨rfl, hX, hG11⟩
    have Ogot0m := Lib.hid hX; clear hX
    have hs11 := hG11.size
    have HB11 := Lib.hid (HB10.out.trans (hG11.below (B := W.heap.size) (by omega) (by omega)))
    have HG11 := Lib.hid hG11; clear hG11
    have pxaS0_11 := box_at BXaS0.out HB11.out
    clear pxaS0_10
    have pxaS1_11 := box_at BXaS1.out HB11.out
    clear pxaS1_10
    have pxaS2_11 := box_at BXaS2.out HB11.out
    clear pxaS2_10
    have pxaS3_11 := box_at BXaS3.out HB11.out
    clear pxaS3_10
    have pxaS4_11 := box_at BXaS4.out HB11.out
    clear pxaS4_10
    have pxaS5_11 := box_at BXaS5.out HB11.out
    clear pxaS5_10
    have pxaS6_11 := box_at BXaS6.out HB11.out
    clear pxaS6_10
    have pxaS7_11 := box_at BXaS7.out HB11.out
    clear pxaS7_10
    have pxaS8_11 := box_at BXaS8.out HB11.out
    clear pxaS8_10
    have pxaS9_11 := box_at BXaS9.out HB11.out
    clear pxaS9_10
    have pxaS10_11 := box_at BXaS10.out HB11.out
    clear pxaS10_10
    have pxaS11_11 := box_at BXaS11.out HB11.out
    clear pxaS11_10
    have pxaS12_11 := box_at BXaS12.out HB11.out
    clear pxaS12_10
    have pxxaS0_11 := within_at HG11.out pxxaS0_10 (by omega)
    clear pxxaS0_10
    have pxxaS1_11 := within_at HG11.out pxxaS1_10 (by omega)
    clear pxxaS1_10
    have pxxaS2_11 := within_at HG11.out pxxaS2_10 (by omega)
    clear pxxaS2_10
    have pxxaS3_11 := within_at HG11.out pxxaS3_10 (by omega)
    clear pxxaS3_10
    have pxxaS4_11 := within_at HG11.out pxxaS4_10 (by omega)
    clear pxxaS4_10
    have pxxaS5_11 := within_at HG11.out pxxaS5_10 (by omega)
    clear pxxaS5_10
    have pxxaS6_11 := within_at HG11.out pxxaS6_10 (by omega)
    clear pxxaS6_10
    have pxxaS7_11 := within_at HG11.out pxxaS7_10 (by omega)
    clear pxxaS7_10
    have pxxaS8_11 := within_at HG11.out pxxaS8_10 (by omega)
    clear pxxaS8_10
    have pxxaS9_11 := within_at HG11.out pxxaS9_10 (by omega)
    clear pxxaS9_10
    have pxxaS10_11 := within_at HG11.out pxxaS10_10 (by omega)
    clear pxxaS10_10
    have pxxaS11_11 := within_at HG11.out pxxaS11_10 (by omega)
    clear pxxaS11_10
    have pxxaS12_11 := within_at HG11.out pxxaS12_10 (by omega)
    clear pxxaS12_10
    go_wp2_with fail
    refine (laws_heldIntS_yes _ 1 _ _ Ogot0m.out.reads (by simp only [marks_length]; exact LG0.out) (fun j hj => nth_marks (by simpa only [marks_length] using hj))).mono ?_
    rintro e w12 ⟨rfl, m12, hw12⟩
    have hb12 := Below.drewOf hw12; clear hw12
    rw [marks_length]
    have HB12 := Lib.hid (Below.next HB11.out hb12)
    have hs12 := hb12.size
    have AJ12 := Lib.hid hb12; clear hb12
    have pxaS0_12 := box_at BXaS0.out HB12.out
    clear pxaS0_11
    have pxaS1_12 := box_at BXaS1.out HB12.out
    clear pxaS1_11
    have pxaS2_12 := box_at BXaS2.out HB12.out
    clear pxaS2_11
    have pxaS3_12 := box_at BXaS3.out HB12.out
    clear pxaS3_11
    have pxaS4_12 := box_at BXaS4.out HB12.out
    clear pxaS4_11
    have pxaS5_12 := box_at BXaS5.out HB12.out
    clear pxaS5_11
    have pxaS6_12 := box_at BXaS6.out HB12.out
    clear pxaS6_11
    have pxaS7_12 := box_at BXaS7.out HB12.out
    clear pxaS7_11
    have pxaS8_12 := box_at BXaS8.out HB12.out
    clear pxaS8_11
    have pxaS9_12 := box_at BXaS9.out HB12.out
    clear pxaS9_11
    have pxaS10_12 := box_at BXaS10.out HB12.out
    clear pxaS10_11
    have pxaS11_12 := box_at BXaS11.out HB12.out
    clear pxaS11_11
    have pxaS12_12 := box_at BXaS12.out HB12.out
    clear pxaS12_11
    have pxxaS0_12 := box_at pxxaS0_11 AJ12.out
    clear pxxaS0_11
    have pxxaS1_12 := box_at pxxaS1_11 AJ12.out
    clear pxxaS1_11
    have pxxaS2_12 := box_at pxxaS2_11 AJ12.out
    clear pxxaS2_11
    have pxxaS3_12 := box_at pxxaS3_11 AJ12.out
    clear pxxaS3_11
    have pxxaS4_12 := box_at pxxaS4_11 AJ12.out
    clear pxxaS4_11
    have pxxaS5_12 := box_at pxxaS5_11 AJ12.out
    clear pxxaS5_11
    have pxxaS6_12 := box_at pxxaS6_11 AJ12.out
    clear pxxaS6_11
    have pxxaS7_12 := box_at pxxaS7_11 AJ12.out
    clear pxxaS7_11
    have pxxaS8_12 := box_at pxxaS8_11 AJ12.out
    clear pxxaS8_11
    have pxxaS9_12 := box_at pxxaS9_11 AJ12.out
    clear pxxaS9_11
    have pxxaS10_12 := box_at pxxaS10_11 AJ12.out
    clear pxxaS10_11
    have pxxaS11_12 := box_at pxxaS11_11 AJ12.out
    clear pxxaS11_11
    have pxxaS12_12 := box_at pxxaS12_11 AJ12.out
    clear pxxaS12_11
    go_wp2_with fail
    refine (laws_toStage _ laS _ ((kS rStage).rd_below HaS.out HB12.out) HZaS.out).mono ?_
    rintro e w13 ⟨zaS, rfl, hX, hb13⟩
    have OzaS := Lib.hid (hX); clear hX
    obtain ⟨zaS_a1, zaS_n1, zaS_c1, zaS_a2, zaS_n2, zaS_c2, zaS_a3, zaS_n3, zaS_c3, zaS_a4, zaS_n4, zaS_c4, zaS_a5, zaS_n5, zaS_c5, zaS_a6, zaS_n6, zaS_c6, zaS_a7, zaS_n7, zaS_c7, zaS_a8, zaS_n8, zaS_c8, zaS_a9, zaS_n9, zaS_c9, zaS_a10, zaS_n10, zaS_c10, zaS_a11, zaS_n11, zaS_c11, zaS_a12, zaS_n12, zaS_c12, rfl, hrest⟩ := rdStage.1 ((kS rStage).own_rd OzaS.out)
    clear hrest
    have HB13 := Lib.hid (Below.next HB12.out hb13)
    have hs13 := hb13.size
    have AJ13 := Lib.hid hb13; clear hb13
    have pxaS0_13 := box_at BXaS0.out HB13.out
    clear pxaS0_12
    have pxaS1_13 := box_at BXaS1.out HB13.out
    clear pxaS1_12
    have pxaS2_13 := box_at BXaS2.out HB13.out
    clear pxaS2_12
    have pxaS3_13 := box_at BXaS3.out HB13.out
    clear pxaS3_12
    have pxaS4_13 := box_at BXaS4.out HB13.out
    clear pxaS4_12
    have pxaS5_13 := box_at BXaS5.out HB13.out
    clear pxaS5_12
    have pxaS6_13 := box_at BXaS6.out HB13.out
    clear pxaS6_12
    have pxaS7_13 := box_at BXaS7.out HB13.out
    clear pxaS7_12
    have pxaS8_13 := box_at BXaS8.out HB13.out
    clear pxaS8_12
    have pxaS9_13 := box_at BXaS9.out HB13.out
    clear pxaS9_12
    have pxaS10_13 := box_at BXaS10.out HB13.out
    clear pxaS10_12
    have pxaS11_13 := box_at BXaS11.out HB13.out
    clear pxaS11_12
    have pxaS12_13 := box_at BXaS12.out HB13.out
    clear pxaS12_12
    have pxxaS0_13 := box_at pxxaS0_12 AJ13.out
    clear pxxaS0_12
    have pxxaS1_13 := box_at pxxaS1_12 AJ13.out
    clear pxxaS1_12
    have pxxaS2_13 := box_at pxxaS2_12 AJ13.out
    clear pxxaS2_12
    have pxxaS3_13 := box_at pxxaS3_12 AJ13.out
    clear pxxaS3_12
    have pxxaS4_13 := box_at pxxaS4_12 AJ13.out
    clear pxxaS4_12
    have pxxaS5_13 := box_at pxxaS5_12 AJ13.out
    clear pxxaS5_12
    have pxxaS6_13 := box_at pxxaS6_12 AJ13.out
    clear pxxaS6_12
    have pxxaS7_13 := box_at pxxaS7_12 AJ13.out
    clear pxxaS7_12
    have pxxaS8_13 := box_at pxxaS8_12 AJ13.out
    clear pxxaS8_12
    have pxxaS9_13 := box_at pxxaS9_12 AJ13.out
    clear pxxaS9_12
    have pxxaS10_13 := box_at pxxaS10_12 AJ13.out
    clear pxxaS10_12
    have pxxaS11_13 := box_at pxxaS11_12 AJ13.out
    clear pxxaS11_12
    have pxxaS12_13 := box_at pxxaS12_12 AJ13.out
    clear pxxaS12_12
    go_wp2_with fail
    refine (impl_StageRecord _ laS _ HYaS.out ((kS rStage).own_rd OzaS.out)).mono ?_
    rintro e w14 ⟨again0, rfl, hXagain0, hb14⟩
    have Oagain0 := Lib.hid hXagain0; clear hXagain0
    have HB14 := Lib.hid (Below.next HB13.out hb14)
    have hs14 := hb14.size
    have AJ14 := Lib.hid hb14; clear hb14
    have pxaS0_14 := box_at BXaS0.out HB14.out
    clear pxaS0_13
    have pxaS1_14 := box_at BXaS1.out HB14.out
    clear pxaS1_13
    have pxaS2_14 := box_at BXaS2.out HB14.out
    clear pxaS2_13
    have pxaS3_14 := box_at BXaS3.out HB14.out
    clear pxaS3_13
    have pxaS4_14 := box_at BXaS4.out HB14.out
    clear pxaS4_13
    have pxaS5_14 := box_at BXaS5.out HB14.out
    clear pxaS5_13
    have pxaS6_14 := box_at BXaS6.out HB14.out
    clear pxaS6_13
    have pxaS7_14 := box_at BXaS7.out HB14.out
    clear pxaS7_13
    have pxaS8_14 := box_at BXaS8.out HB14.out
    clear pxaS8_13
    have pxaS9_14 := box_at BXaS9.out HB14.out
    clear pxaS9_13
    have pxaS10_14 := box_at BXaS10.out HB14.out
    clear pxaS10_13
    have pxaS11_14 := box_at BXaS11.out HB14.out
    clear pxaS11_13
    have pxaS12_14 := box_at BXaS12.out HB14.out
    clear pxaS12_13
    have pxxaS0_14 := box_at pxxaS0_13 AJ14.out
    clear pxxaS0_13
    have pxxaS1_14 := box_at pxxaS1_13 AJ14.out
    clear pxxaS1_13
    have pxxaS2_14 := box_at pxxaS2_13 AJ14.out
    clear pxxaS2_13
    have pxxaS3_14 := box_at pxxaS3_13 AJ14.out
    clear pxxaS3_13
    have pxxaS4_14 := box_at pxxaS4_13 AJ14.out
    clear pxxaS4_13
    have pxxaS5_14 := box_at pxxaS5_13 AJ14.out
    clear pxxaS5_13
    have pxxaS6_14 := box_at pxxaS6_13 AJ14.out
    clear pxxaS6_13
    have pxxaS7_14 := box_at pxxaS7_13 AJ14.out
    clear pxxaS7_13
    have pxxaS8_14 := box_at pxxaS8_13 AJ14.out
    clear pxxaS8_13
    have pxxaS9_14 := box_at pxxaS9_13 AJ14.out
    clear pxxaS9_13
    have pxxaS10_14 := box_at pxxaS10_13 AJ14.out
    clear pxxaS10_13
    have pxxaS11_14 := box_at pxxaS11_13 AJ14.out
    clear pxxaS11_13
    have pxxaS12_14 := box_at pxxaS12_13 AJ14.out
    clear pxxaS12_13
    go_wp2_with fail
    refine (laws_eqIntS _ _ _ _ _ Oagain0.out.reads (((((((((((Owant0.out.next AJ4.out).next AJ5.out).next AJ6.out).next AJ7.out).next AJ8.out).kept HG9.out (.inl (by omega))).next AJ10.out).kept HG11.out (.inl (by omega))).next AJ12.out).next AJ13.out).next AJ14.out).reads).mono ?_
    rintro e w15 ⟨rfl, m15, hw15⟩
    have hb15 := Below.drewOf hw15; clear hw15
    rw [decide_eq_true rfl]
    have HB15 := Lib.hid (Below.next HB14.out hb15)
    have hs15 := hb15.size
    have AJ15 := Lib.hid hb15; clear hb15
    have pxaS0_15 := box_at BXaS0.out HB15.out
    clear pxaS0_14
    have pxaS1_15 := box_at BXaS1.out HB15.out
    clear pxaS1_14
    have pxaS2_15 := box_at BXaS2.out HB15.out
    clear pxaS2_14
    have pxaS3_15 := box_at BXaS3.out HB15.out
    clear pxaS3_14
    have pxaS4_15 := box_at BXaS4.out HB15.out
    clear pxaS4_14
    have pxaS5_15 := box_at BXaS5.out HB15.out
    clear pxaS5_14
    have pxaS6_15 := box_at BXaS6.out HB15.out
    clear pxaS6_14
    have pxaS7_15 := box_at BXaS7.out HB15.out
    clear pxaS7_14
    have pxaS8_15 := box_at BXaS8.out HB15.out
    clear pxaS8_14
    have pxaS9_15 := box_at BXaS9.out HB15.out
    clear pxaS9_14
    have pxaS10_15 := box_at BXaS10.out HB15.out
    clear pxaS10_14
    have pxaS11_15 := box_at BXaS11.out HB15.out
    clear pxaS11_14
    have pxaS12_15 := box_at BXaS12.out HB15.out
    clear pxaS12_14
    have pxxaS0_15 := box_at pxxaS0_14 AJ15.out
    clear pxxaS0_14
    have pxxaS1_15 := box_at pxxaS1_14 AJ15.out
    clear pxxaS1_14
    have pxxaS2_15 := box_at pxxaS2_14 AJ15.out
    clear pxxaS2_14
    have pxxaS3_15 := box_at pxxaS3_14 AJ15.out
    clear pxxaS3_14
    have pxxaS4_15 := box_at pxxaS4_14 AJ15.out
    clear pxxaS4_14
    have pxxaS5_15 := box_at pxxaS5_14 AJ15.out
    clear pxxaS5_14
    have pxxaS6_15 := box_at pxxaS6_14 AJ15.out
    clear pxxaS6_14
    have pxxaS7_15 := box_at pxxaS7_14 AJ15.out
    clear pxxaS7_14
    have pxxaS8_15 := box_at pxxaS8_14 AJ15.out
    clear pxxaS8_14
    have pxxaS9_15 := box_at pxxaS9_14 AJ15.out
    clear pxxaS9_14
    have pxxaS10_15 := box_at pxxaS10_14 AJ15.out
    clear pxxaS10_14
    have pxxaS11_15 := box_at pxxaS11_14 AJ15.out
    clear pxxaS11_14
    have pxxaS12_15 := box_at pxxaS12_14 AJ15.out
    clear pxxaS12_14
    go_wp2_with fail
    refine (laws_heldIntS_yes _ 1 _ _ ((((Ogot0m.out.next AJ12.out).next AJ13.out).next AJ14.out).next AJ15.out).reads (by simp only [marks_length]; exact LG0.out) (fun j hj => nth_marks (by simpa only [marks_length] using hj))).mono ?_
    rintro e w16 ⟨rfl, m16, hw16⟩
    have hb16 := Below.drewOf hw16; clear hw16
    rw [marks_length]
    have HB16 := Lib.hid (Below.next HB15.out hb16)
    have hs16 := hb16.size
    have AJ16 := Lib.hid hb16; clear hb16
    have pxaS0_16 := box_at BXaS0.out HB16.out
    clear pxaS0_15
    have pxaS1_16 := box_at BXaS1.out HB16.out
    clear pxaS1_15
    have pxaS2_16 := box_at BXaS2.out HB16.out
    clear pxaS2_15
    have pxaS3_16 := box_at BXaS3.out HB16.out
    clear pxaS3_15
    have pxaS4_16 := box_at BXaS4.out HB16.out
    clear pxaS4_15
    have pxaS5_16 := box_at BXaS5.out HB16.out
    clear pxaS5_15
    have pxaS6_16 := box_at BXaS6.out HB16.out
    clear pxaS6_15
    have pxaS7_16 := box_at BXaS7.out HB16.out
    clear pxaS7_15
    have pxaS8_16 := box_at BXaS8.out HB16.out
    clear pxaS8_15
    have pxaS9_16 := box_at BXaS9.out HB16.out
    clear pxaS9_15
    have pxaS10_16 := box_at BXaS10.out HB16.out
    clear pxaS10_15
    have pxaS11_16 := box_at BXaS11.out HB16.out
    clear pxaS11_15
    have pxaS12_16 := box_at BXaS12.out HB16.out
    clear pxaS12_15
    have pxxaS0_16 := box_at pxxaS0_15 AJ16.out
    clear pxxaS0_15
    have pxxaS1_16 := box_at pxxaS1_15 AJ16.out
    clear pxxaS1_15
    have pxxaS2_16 := box_at pxxaS2_15 AJ16.out
    clear pxxaS2_15
    have pxxaS3_16 := box_at pxxaS3_15 AJ16.out
    clear pxxaS3_15
    have pxxaS4_16 := box_at pxxaS4_15 AJ16.out
    clear pxxaS4_15
    have pxxaS5_16 := box_at pxxaS5_15 AJ16.out
    clear pxxaS5_15
    have pxxaS6_16 := box_at pxxaS6_15 AJ16.out
    clear pxxaS6_15
    have pxxaS7_16 := box_at pxxaS7_15 AJ16.out
    clear pxxaS7_15
    have pxxaS8_16 := box_at pxxaS8_15 AJ16.out
    clear pxxaS8_15
    have pxxaS9_16 := box_at pxxaS9_15 AJ16.out
    clear pxxaS9_15
    have pxxaS10_16 := box_at pxxaS10_15 AJ16.out
    clear pxxaS10_15
    have pxxaS11_16 := box_at pxxaS11_15 AJ16.out
    clear pxxaS11_15
    have pxxaS12_16 := box_at pxxaS12_15 AJ16.out
    clear pxxaS12_15
    go_wp2_with fail
    go_ret
    exact ⟨rfl, HWB.out.trans (HB16.out.mono HWB.out.size)⟩
end Go.Proofs.Ytcpigedjblkcfaa

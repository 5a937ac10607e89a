/- The walks of laws, by program (genlaw5.py). -/
import Derived.Test.YtbcaknmpbkapnaaDec7
import Derived.Test.YtbcaknmpbkapnaaKSeaG
import Derived.Test.YtbcaknmpbkapnaaBl
namespace Go.Proofs.Ytbcaknmpbkapnaa
open Go.RowKit
set_option linter.unusedSimpArgs false
set_option linter.unusedVariables false

set_option maxRecDepth 100000 in
set_option maxHeartbeats 2000000 in
theorem law_StageOfRecord (v : Value) (lv : List Int) (w : World) (hv : Ints w v lv) :
    Calls Try.prog 4 #[v] w fun e w' => e = .returned (.bool true) ∧ Below w.heap.size w w' := by
  obtain ⟨adv, nv, cv, rfl⟩ := hv.shape
  have HLv := Lib.hid hv.len
  have Hv := Lib.hid hv; clear hv
  by_cases hnv : 1048576 < (nv : Int)
  · go_enter Try.func4, Try.ntmps4
    go_wp2_with fail
    go_ret
    exact ⟨rfl, Below.refl _ _⟩
  · skip
    have LGB0 : Hid (1 + (cnStage ((stD lv))) ≤ 9223372036854775806) := by have := st_cn lv; unfold Hid; omega
    obtain ⟨lR0, hR0⟩ : ∃ d, (stD lv) = d := ⟨_, rfl⟩
    have HR0 := Lib.hid hR0
    rw [hR0] at LGB0
    clear hR0
    go_enter Try.func4, Try.ntmps4
    go_wp2_with fail
    refine (laws_toIntS _ lv _ (Hv.out.below (Below.refl _ _)) (by rw [HLv.out]; omega)).mono ?_
    rintro e w1 ⟨sv, rfl, hX, hb1⟩
    have Osv := Lib.hid (InI.of_own hX); clear hX
    have HB1 := Lib.hid (Below.next (Below.refl _ _) hb1)
    have hs1 := hb1.size
    have AJ1 := Lib.hid hb1; clear hb1
    go_wp2_with fail
    refine (spec_StageOfRecord _ lv _ (by rw [HLv.out]; omega) Osv.out.reads).mono ?_
    rintro e w2 ⟨want0, rfl, hXwant0, hb2⟩
    rw [HR0.out] at hXwant0
    have Owant0 := Lib.hid hXwant0; clear hXwant0
    obtain ⟨want0_a1, want0_n1, want0_c1, want0_a2, want0_n2, want0_c2, want0_a3, want0_n3, want0_c3, want0_a4, want0_n4, want0_c4, want0_a5, want0_n5, want0_c5, want0_a6, want0_n6, want0_c6, want0_a7, want0_n7, want0_c7, want0_a8, want0_n8, want0_c8, want0_a9, want0_n9, want0_c9, want0_a10, want0_n10, want0_c10, want0_a11, want0_n11, want0_c11, want0_a12, want0_n12, want0_c12, rfl, hrest⟩ := rdStage.1 (kStageG.own_rd Owant0.out)
    clear hrest
    have HB2 := Lib.hid (Below.next HB1.out hb2)
    have hs2 := hb2.size
    have AJ2 := Lib.hid hb2; clear hb2
    go_wp2_with fail
    obtain ⟨w3, hw3⟩ : ∃ u, u = w2.alloc (.cells #[.int .i64 lR0.argument, .slice want0_a1 want0_n1 want0_c1, .slice want0_a2 want0_n2 want0_c2, .slice want0_a3 want0_n3 want0_c3, .slice want0_a4 want0_n4 want0_c4, .slice want0_a5 want0_n5 want0_c5, .slice want0_a6 want0_n6 want0_c6, .slice want0_a7 want0_n7 want0_c7, .slice want0_a8 want0_n8 want0_c8, .slice want0_a9 want0_n9 want0_c9, .slice want0_a10 want0_n10 want0_c10, .slice want0_a11 want0_n11 want0_c11, .slice want0_a12 want0_n12 want0_c12] 42) := ⟨_, rfl⟩
    rw [← hw3]
    have hb3 : Below w2.heap.size w2 w3 := by rw [hw3]; exact (Below.refl _ _).alloc (Nat.le_refl _) _
    have hlt3 : w2.heap.size < w3.heap.size := by rw [hw3]; simp
    have pxwant00_3 : w3.cell? ⟨w2.heap.size, 0, none⟩ = some (.int .i64 lR0.argument) := by rw [hw3]; simp [go_sem]
    have pxwant01_3 : w3.cell? ⟨w2.heap.size, 1, none⟩ = some (.slice want0_a1 want0_n1 want0_c1) := by rw [hw3]; simp [go_sem]
    have pxwant02_3 : w3.cell? ⟨w2.heap.size, 2, none⟩ = some (.slice want0_a2 want0_n2 want0_c2) := by rw [hw3]; simp [go_sem]
    have pxwant03_3 : w3.cell? ⟨w2.heap.size, 3, none⟩ = some (.slice want0_a3 want0_n3 want0_c3) := by rw [hw3]; simp [go_sem]
    have pxwant04_3 : w3.cell? ⟨w2.heap.size, 4, none⟩ = some (.slice want0_a4 want0_n4 want0_c4) := by rw [hw3]; simp [go_sem]
    have pxwant05_3 : w3.cell? ⟨w2.heap.size, 5, none⟩ = some (.slice want0_a5 want0_n5 want0_c5) := by rw [hw3]; simp [go_sem]
    have pxwant06_3 : w3.cell? ⟨w2.heap.size, 6, none⟩ = some (.slice want0_a6 want0_n6 want0_c6) := by rw [hw3]; simp [go_sem]
    have pxwant07_3 : w3.cell? ⟨w2.heap.size, 7, none⟩ = some (.slice want0_a7 want0_n7 want0_c7) := by rw [hw3]; simp [go_sem]
    have pxwant08_3 : w3.cell? ⟨w2.heap.size, 8, none⟩ = some (.slice want0_a8 want0_n8 want0_c8) := by rw [hw3]; simp [go_sem]
    have pxwant09_3 : w3.cell? ⟨w2.heap.size, 9, none⟩ = some (.slice want0_a9 want0_n9 want0_c9) := by rw [hw3]; simp [go_sem]
    have pxwant010_3 : w3.cell? ⟨w2.heap.size, 10, none⟩ = some (.slice want0_a10 want0_n10 want0_c10) := by rw [hw3]; simp [go_sem]
    have pxwant011_3 : w3.cell? ⟨w2.heap.size, 11, none⟩ = some (.slice want0_a11 want0_n11 want0_c11) := by rw [hw3]; simp [go_sem]
    have pxwant012_3 : w3.cell? ⟨w2.heap.size, 12, none⟩ = some (.slice want0_a12 want0_n12 want0_c12) := by rw [hw3]; simp [go_sem]
    clear hw3
    have HB3 := Lib.hid (Below.next HB2.out hb3)
    have hs3 := hb3.size
    have AJ3 := Lib.hid hb3; clear hb3
    refine (laws_toIntS _ lv _ (Hv.out.below HB3.out) (by rw [HLv.out]; omega)).mono ?_
    rintro e w4 ⟨xv, rfl, hX, hb4⟩
    have Oxv := Lib.hid (InI.of_own hX); clear hX
    have HB4 := Lib.hid (Below.next HB3.out hb4)
    have hs4 := hb4.size
    have AJ4 := Lib.hid hb4; clear hb4
    have pxwant00_4 := box_at pxwant00_3 AJ4.out
    clear pxwant00_3
    have pxwant01_4 := box_at pxwant01_3 AJ4.out
    clear pxwant01_3
    have pxwant02_4 := box_at pxwant02_3 AJ4.out
    clear pxwant02_3
    have pxwant03_4 := box_at pxwant03_3 AJ4.out
    clear pxwant03_3
    have pxwant04_4 := box_at pxwant04_3 AJ4.out
    clear pxwant04_3
    have pxwant05_4 := box_at pxwant05_3 AJ4.out
    clear pxwant05_3
    have pxwant06_4 := box_at pxwant06_3 AJ4.out
    clear pxwant06_3
    have pxwant07_4 := box_at pxwant07_3 AJ4.out
    clear pxwant07_3
    have pxwant08_4 := box_at pxwant08_3 AJ4.out
    clear pxwant08_3
    have pxwant09_4 := box_at pxwant09_3 AJ4.out
    clear pxwant09_3
    have pxwant010_4 := box_at pxwant010_3 AJ4.out
    clear pxwant010_3
    have pxwant011_4 := box_at pxwant011_3 AJ4.out
    clear pxwant011_3
    have pxwant012_4 := box_at pxwant012_3 AJ4.out
    clear pxwant012_3
    go_wp2_with fail
    refine (impl_StageOfRecord _ lv _ (by rw [HLv.out]; omega) Oxv.out.reads).mono ?_
    rintro e w5 ⟨got0, rfl, hXgot0, hb5⟩
    rw [HR0.out] at hXgot0
    have Ogot0 := Lib.hid hXgot0; clear hXgot0
    obtain ⟨got0_a1, got0_n1, got0_c1, got0_a2, got0_n2, got0_c2, got0_a3, got0_n3, got0_c3, got0_a4, got0_n4, got0_c4, got0_a5, got0_n5, got0_c5, got0_a6, got0_n6, got0_c6, got0_a7, got0_n7, got0_c7, got0_a8, got0_n8, got0_c8, got0_a9, got0_n9, got0_c9, got0_a10, got0_n10, got0_c10, got0_a11, got0_n11, got0_c11, got0_a12, got0_n12, got0_c12, rfl, hrest⟩ := rdStage.1 (kStageG.own_rd Ogot0.out)
    clear hrest
    have HB5 := Lib.hid (Below.next HB4.out hb5)
    have hs5 := hb5.size
    have AJ5 := Lib.hid hb5; clear hb5
    have pxwant00_5 := box_at pxwant00_4 AJ5.out
    clear pxwant00_4
    have pxwant01_5 := box_at pxwant01_4 AJ5.out
    clear pxwant01_4
    have pxwant02_5 := box_at pxwant02_4 AJ5.out
    clear pxwant02_4
    have pxwant03_5 := box_at pxwant03_4 AJ5.out
    clear pxwant03_4
    have pxwant04_5 := box_at pxwant04_4 AJ5.out
    clear pxwant04_4
    have pxwant05_5 := box_at pxwant05_4 AJ5.out
    clear pxwant05_4
    have pxwant06_5 := box_at pxwant06_4 AJ5.out
    clear pxwant06_4
    have pxwant07_5 := box_at pxwant07_4 AJ5.out
    clear pxwant07_4
    have pxwant08_5 := box_at pxwant08_4 AJ5.out
    clear pxwant08_4
    have pxwant09_5 := box_at pxwant09_4 AJ5.out
    clear pxwant09_4
    have pxwant010_5 := box_at pxwant010_4 AJ5.out
    clear pxwant010_4
    have pxwant011_5 := box_at pxwant011_4 AJ5.out
    clear pxwant011_4
    have pxwant012_5 := box_at pxwant012_4 AJ5.out
    clear pxwant012_4
    have zl0 : w2.heap.size < w5.heap.size := World.block_lt_of_cell? _ _ pxwant00_5
    go_wp2_with fail
    clear zl0
    obtain ⟨w6, hw6⟩ : ∃ u, u = w5.alloc (.cells #[.int .i64 lR0.argument, .slice got0_a1 got0_n1 got0_c1, .slice got0_a2 got0_n2 got0_c2, .slice got0_a3 got0_n3 got0_c3, .slice got0_a4 got0_n4 got0_c4, .slice got0_a5 got0_n5 got0_c5, .slice got0_a6 got0_n6 got0_c6, .slice got0_a7 got0_n7 got0_c7, .slice got0_a8 got0_n8 got0_c8, .slice got0_a9 got0_n9 got0_c9, .slice got0_a10 got0_n10 got0_c10, .slice got0_a11 got0_n11 got0_c11, .slice got0_a12 got0_n12 got0_c12] 42) := ⟨_, rfl⟩
    rw [← hw6]
    have hb6 : Below w5.heap.size w5 w6 := by rw [hw6]; exact (Below.refl _ _).alloc (Nat.le_refl _) _
    have hlt6 : w5.heap.size < w6.heap.size := by rw [hw6]; simp
    have pxgot00_6 : w6.cell? ⟨w5.heap.size, 0, none⟩ = some (.int .i64 lR0.argument) := by rw [hw6]; simp [go_sem]
    have pxgot01_6 : w6.cell? ⟨w5.heap.size, 1, none⟩ = some (.slice got0_a1 got0_n1 got0_c1) := by rw [hw6]; simp [go_sem]
    have pxgot02_6 : w6.cell? ⟨w5.heap.size, 2, none⟩ = some (.slice got0_a2 got0_n2 got0_c2) := by rw [hw6]; simp [go_sem]
    have pxgot03_6 : w6.cell? ⟨w5.heap.size, 3, none⟩ = some (.slice got0_a3 got0_n3 got0_c3) := by rw [hw6]; simp [go_sem]
    have pxgot04_6 : w6.cell? ⟨w5.heap.size, 4, none⟩ = some (.slice got0_a4 got0_n4 got0_c4) := by rw [hw6]; simp [go_sem]
    have pxgot05_6 : w6.cell? ⟨w5.heap.size, 5, none⟩ = some (.slice got0_a5 got0_n5 got0_c5) := by rw [hw6]; simp [go_sem]
    have pxgot06_6 : w6.cell? ⟨w5.heap.size, 6, none⟩ = some (.slice got0_a6 got0_n6 got0_c6) := by rw [hw6]; simp [go_sem]
    have pxgot07_6 : w6.cell? ⟨w5.heap.size, 7, none⟩ = some (.slice got0_a7 got0_n7 got0_c7) := by rw [hw6]; simp [go_sem]
    have pxgot08_6 : w6.cell? ⟨w5.heap.size, 8, none⟩ = some (.slice got0_a8 got0_n8 got0_c8) := by rw [hw6]; simp [go_sem]
    have pxgot09_6 : w6.cell? ⟨w5.heap.size, 9, none⟩ = some (.slice got0_a9 got0_n9 got0_c9) := by rw [hw6]; simp [go_sem]
    have pxgot010_6 : w6.cell? ⟨w5.heap.size, 10, none⟩ = some (.slice got0_a10 got0_n10 got0_c10) := by rw [hw6]; simp [go_sem]
    have pxgot011_6 : w6.cell? ⟨w5.heap.size, 11, none⟩ = some (.slice got0_a11 got0_n11 got0_c11) := by rw [hw6]; simp [go_sem]
    have pxgot012_6 : w6.cell? ⟨w5.heap.size, 12, none⟩ = some (.slice got0_a12 got0_n12 got0_c12) := by rw [hw6]; simp [go_sem]
    clear hw6
    have HB6 := Lib.hid (Below.next HB5.out hb6)
    have hs6 := hb6.size
    have AJ6 := Lib.hid hb6; clear hb6
    have pxwant00_6 := box_at pxwant00_5 AJ6.out
    clear pxwant00_5
    have pxwant01_6 := box_at pxwant01_5 AJ6.out
    clear pxwant01_5
    have pxwant02_6 := box_at pxwant02_5 AJ6.out
    clear pxwant02_5
    have pxwant03_6 := box_at pxwant03_5 AJ6.out
    clear pxwant03_5
    have pxwant04_6 := box_at pxwant04_5 AJ6.out
    clear pxwant04_5
    have pxwant05_6 := box_at pxwant05_5 AJ6.out
    clear pxwant05_5
    have pxwant06_6 := box_at pxwant06_5 AJ6.out
    clear pxwant06_5
    have pxwant07_6 := box_at pxwant07_5 AJ6.out
    clear pxwant07_5
    have pxwant08_6 := box_at pxwant08_5 AJ6.out
    clear pxwant08_5
    have pxwant09_6 := box_at pxwant09_5 AJ6.out
    clear pxwant09_5
    have pxwant010_6 := box_at pxwant010_5 AJ6.out
    clear pxwant010_5
    have pxwant011_6 := box_at pxwant011_5 AJ6.out
    clear pxwant011_5
    have pxwant012_6 := box_at pxwant012_5 AJ6.out
    clear pxwant012_5
    refine (laws_eqStage _ _ _ _ _ (kStageG.own_rd (Kind.next (K := kStageG) Ogot0.out AJ6.out)) (kStageG.own_rd (Kind.next (K := kStageG) (Kind.next (K := kStageG) (Kind.next (K := kStageG) (Kind.next (K := kStageG) Owant0.out AJ3.out) AJ4.out) AJ5.out) AJ6.out))).mono ?_
    rintro e w7 ⟨rfl, hb7⟩
    rw [decide_eq_true rfl]
    have HB7 := Lib.hid (Below.next HB6.out hb7)
    have hs7 := hb7.size
    have AJ7 := Lib.hid hb7; clear hb7
    have pxwant00_7 := box_at pxwant00_6 AJ7.out
    clear pxwant00_6
    have pxwant01_7 := box_at pxwant01_6 AJ7.out
    clear pxwant01_6
    have pxwant02_7 := box_at pxwant02_6 AJ7.out
    clear pxwant02_6
    have pxwant03_7 := box_at pxwant03_6 AJ7.out
    clear pxwant03_6
    have pxwant04_7 := box_at pxwant04_6 AJ7.out
    clear pxwant04_6
    have pxwant05_7 := box_at pxwant05_6 AJ7.out
    clear pxwant05_6
    have pxwant06_7 := box_at pxwant06_6 AJ7.out
    clear pxwant06_6
    have pxwant07_7 := box_at pxwant07_6 AJ7.out
    clear pxwant07_6
    have pxwant08_7 := box_at pxwant08_6 AJ7.out
    clear pxwant08_6
    have pxwant09_7 := box_at pxwant09_6 AJ7.out
    clear pxwant09_6
    have pxwant010_7 := box_at pxwant010_6 AJ7.out
    clear pxwant010_6
    have pxwant011_7 := box_at pxwant011_6 AJ7.out
    clear pxwant011_6
    have pxwant012_7 := box_at pxwant012_6 AJ7.out
    clear pxwant012_6
    have pxgot00_7 := box_at pxgot00_6 AJ7.out
    clear pxgot00_6
    have pxgot01_7 := box_at pxgot01_6 AJ7.out
    clear pxgot01_6
    have pxgot02_7 := box_at pxgot02_6 AJ7.out
    clear pxgot02_6
    have pxgot03_7 := box_at pxgot03_6 AJ7.out
    clear pxgot03_6
    have pxgot04_7 := box_at pxgot04_6 AJ7.out
    clear pxgot04_6
    have pxgot05_7 := box_at pxgot05_6 AJ7.out
    clear pxgot05_6
    have pxgot06_7 := box_at pxgot06_6 AJ7.out
    clear pxgot06_6
    have pxgot07_7 := box_at pxgot07_6 AJ7.out
    clear pxgot07_6
    have pxgot08_7 := box_at pxgot08_6 AJ7.out
    clear pxgot08_6
    have pxgot09_7 := box_at pxgot09_6 AJ7.out
    clear pxgot09_6
    have pxgot010_7 := box_at pxgot010_6 AJ7.out
    clear pxgot010_6
    have pxgot011_7 := box_at pxgot011_6 AJ7.out
    clear pxgot011_6
    have pxgot012_7 := box_at pxgot012_6 AJ7.out
    clear pxgot012_6
    go_wp2_with fail
    refine (laws_toIntS _ lv _ (Hv.out.below HB7.out) (by rw [HLv.out]; omega)).mono ?_
    rintro e w8 ⟨yv, rfl, hX, hb8⟩
    have Oyv := Lib.hid (InI.of_own hX); clear hX
    have HB8 := Lib.hid (Below.next HB7.out hb8)
    have hs8 := hb8.size
    have AJ8 := Lib.hid hb8; clear hb8
    have pxwant00_8 := box_at pxwant00_7 AJ8.out
    clear pxwant00_7
    have pxwant01_8 := box_at pxwant01_7 AJ8.out
    clear pxwant01_7
    have pxwant02_8 := box_at pxwant02_7 AJ8.out
    clear pxwant02_7
    have pxwant03_8 := box_at pxwant03_7 AJ8.out
    clear pxwant03_7
    have pxwant04_8 := box_at pxwant04_7 AJ8.out
    clear pxwant04_7
    have pxwant05_8 := box_at pxwant05_7 AJ8.out
    clear pxwant05_7
    have pxwant06_8 := box_at pxwant06_7 AJ8.out
    clear pxwant06_7
    have pxwant07_8 := box_at pxwant07_7 AJ8.out
    clear pxwant07_7
    have pxwant08_8 := box_at pxwant08_7 AJ8.out
    clear pxwant08_7
    have pxwant09_8 := box_at pxwant09_7 AJ8.out
    clear pxwant09_7
    have pxwant010_8 := box_at pxwant010_7 AJ8.out
    clear pxwant010_7
    have pxwant011_8 := box_at pxwant011_7 AJ8.out
    clear pxwant011_7
    have pxwant012_8 := box_at pxwant012_7 AJ8.out
    clear pxwant012_7
    have pxgot00_8 := box_at pxgot00_7 AJ8.out
    clear pxgot00_7
    have pxgot01_8 := box_at pxgot01_7 AJ8.out
    clear pxgot01_7
    have pxgot02_8 := box_at pxgot02_7 AJ8.out
    clear pxgot02_7
    have pxgot03_8 := box_at pxgot03_7 AJ8.out
    clear pxgot03_7
    have pxgot04_8 := box_at pxgot04_7 AJ8.out
    clear pxgot04_7
    have pxgot05_8 := box_at pxgot05_7 AJ8.out
    clear pxgot05_7
    have pxgot06_8 := box_at pxgot06_7 AJ8.out
    clear pxgot06_7
    have pxgot07_8 := box_at pxgot07_7 AJ8.out
    clear pxgot07_7
    have pxgot08_8 := box_at pxgot08_7 AJ8.out
    clear pxgot08_7
    have pxgot09_8 := box_at pxgot09_7 AJ8.out
    clear pxgot09_7
    have pxgot010_8 := box_at pxgot010_7 AJ8.out
    clear pxgot010_7
    have pxgot011_8 := box_at pxgot011_7 AJ8.out
    clear pxgot011_7
    have pxgot012_8 := box_at pxgot012_7 AJ8.out
    clear pxgot012_7
    go_wp2_with fail
    refine (laws_eqIntS _ _ _ _ _ ((((Oxv.out.next AJ5.out).next AJ6.out).next AJ7.out).next AJ8.out).reads Oyv.out.reads).mono ?_
    rintro e w9 ⟨rfl, m9, hw9⟩
    have hb9 := Below.drewOf hw9; clear hw9
    rw [decide_eq_true rfl]
    have HB9 := Lib.hid (Below.next HB8.out hb9)
    have hs9 := hb9.size
    have AJ9 := Lib.hid hb9; clear hb9
    have pxwant00_9 := box_at pxwant00_8 AJ9.out
    clear pxwant00_8
    have pxwant01_9 := box_at pxwant01_8 AJ9.out
    clear pxwant01_8
    have pxwant02_9 := box_at pxwant02_8 AJ9.out
    clear pxwant02_8
    have pxwant03_9 := box_at pxwant03_8 AJ9.out
    clear pxwant03_8
    have pxwant04_9 := box_at pxwant04_8 AJ9.out
    clear pxwant04_8
    have pxwant05_9 := box_at pxwant05_8 AJ9.out
    clear pxwant05_8
    have pxwant06_9 := box_at pxwant06_8 AJ9.out
    clear pxwant06_8
    have pxwant07_9 := box_at pxwant07_8 AJ9.out
    clear pxwant07_8
    have pxwant08_9 := box_at pxwant08_8 AJ9.out
    clear pxwant08_8
    have pxwant09_9 := box_at pxwant09_8 AJ9.out
    clear pxwant09_8
    have pxwant010_9 := box_at pxwant010_8 AJ9.out
    clear pxwant010_8
    have pxwant011_9 := box_at pxwant011_8 AJ9.out
    clear pxwant011_8
    have pxwant012_9 := box_at pxwant012_8 AJ9.out
    clear pxwant012_8
    have pxgot00_9 := box_at pxgot00_8 AJ9.out
    clear pxgot00_8
    have pxgot01_9 := box_at pxgot01_8 AJ9.out
    clear pxgot01_8
    have pxgot02_9 := box_at pxgot02_8 AJ9.out
    clear pxgot02_8
    have pxgot03_9 := box_at pxgot03_8 AJ9.out
    clear pxgot03_8
    have pxgot04_9 := box_at pxgot04_8 AJ9.out
    clear pxgot04_8
    have pxgot05_9 := box_at pxgot05_8 AJ9.out
    clear pxgot05_8
    have pxgot06_9 := box_at pxgot06_8 AJ9.out
    clear pxgot06_8
    have pxgot07_9 := box_at pxgot07_8 AJ9.out
    clear pxgot07_8
    have pxgot08_9 := box_at pxgot08_8 AJ9.out
    clear pxgot08_8
    have pxgot09_9 := box_at pxgot09_8 AJ9.out
    clear pxgot09_8
    have pxgot010_9 := box_at pxgot010_8 AJ9.out
    clear pxgot010_8
    have pxgot011_9 := box_at pxgot011_8 AJ9.out
    clear pxgot011_8
    have pxgot012_9 := box_at pxgot012_8 AJ9.out
    clear pxgot012_8
    go_wp2_with fail
    refine (laws_markIntS_in _ _ _ 1 _ _ (((((Oxv.out.next AJ5.out).next AJ6.out).next AJ7.out).next AJ8.out).next AJ9.out) (by omega) (by have := HLv.out; omega)).mono ?_
    rintro e w10 ⟨rfl, hX, hG10⟩
    have Oxvm := Lib.hid hX; clear hX
    have hs10 := hG10.size
    have HB10 := Lib.hid (HB9.out.trans (hG10.below (B := w.heap.size) (by omega) (by omega)))
    have HG10 := Lib.hid hG10; clear hG10
    have pxwant00_10 := within_at HG10.out pxwant00_9 (by omega)
    clear pxwant00_9
    have pxwant01_10 := within_at HG10.out pxwant01_9 (by omega)
    clear pxwant01_9
    have pxwant02_10 := within_at HG10.out pxwant02_9 (by omega)
    clear pxwant02_9
    have pxwant03_10 := within_at HG10.out pxwant03_9 (by omega)
    clear pxwant03_9
    have pxwant04_10 := within_at HG10.out pxwant04_9 (by omega)
    clear pxwant04_9
    have pxwant05_10 := within_at HG10.out pxwant05_9 (by omega)
    clear pxwant05_9
    have pxwant06_10 := within_at HG10.out pxwant06_9 (by omega)
    clear pxwant06_9
    have pxwant07_10 := within_at HG10.out pxwant07_9 (by omega)
    clear pxwant07_9
    have pxwant08_10 := within_at HG10.out pxwant08_9 (by omega)
    clear pxwant08_9
    have pxwant09_10 := within_at HG10.out pxwant09_9 (by omega)
    clear pxwant09_9
    have pxwant010_10 := within_at HG10.out pxwant010_9 (by omega)
    clear pxwant010_9
    have pxwant011_10 := within_at HG10.out pxwant011_9 (by omega)
    clear pxwant011_9
    have pxwant012_10 := within_at HG10.out pxwant012_9 (by omega)
    clear pxwant012_9
    have pxgot00_10 := within_at HG10.out pxgot00_9 (by omega)
    clear pxgot00_9
    have pxgot01_10 := within_at HG10.out pxgot01_9 (by omega)
    clear pxgot01_9
    have pxgot02_10 := within_at HG10.out pxgot02_9 (by omega)
    clear pxgot02_9
    have pxgot03_10 := within_at HG10.out pxgot03_9 (by omega)
    clear pxgot03_9
    have pxgot04_10 := within_at HG10.out pxgot04_9 (by omega)
    clear pxgot04_9
    have pxgot05_10 := within_at HG10.out pxgot05_9 (by omega)
    clear pxgot05_9
    have pxgot06_10 := within_at HG10.out pxgot06_9 (by omega)
    clear pxgot06_9
    have pxgot07_10 := within_at HG10.out pxgot07_9 (by omega)
    clear pxgot07_9
    have pxgot08_10 := within_at HG10.out pxgot08_9 (by omega)
    clear pxgot08_9
    have pxgot09_10 := within_at HG10.out pxgot09_9 (by omega)
    clear pxgot09_9
    have pxgot010_10 := within_at HG10.out pxgot010_9 (by omega)
    clear pxgot010_9
    have pxgot011_10 := within_at HG10.out pxgot011_9 (by omega)
    clear pxgot011_9
    have pxgot012_10 := within_at HG10.out pxgot012_9 (by omega)
    clear pxgot012_9
    go_wp2_with fail
    refine (laws_eqStage _ _ _ _ _ (kStageG.own_rd (Kind.kept (K := kStageG) (Kind.next (K := kStageG) (Kind.next (K := kStageG) (Kind.next (K := kStageG) (Kind.next (K := kStageG) Ogot0.out AJ6.out) AJ7.out) AJ8.out) AJ9.out) HG10.out (.inr (by omega)))) (kStageG.own_rd (Kind.kept (K := kStageG) (Kind.next (K := kStageG) (Kind.next (K := kStageG) (Kind.next (K := kStageG) (Kind.next (K := kStageG) (Kind.next (K := kStageG) (Kind.next (K := kStageG) (Kind.next (K := kStageG) Owant0.out AJ3.out) AJ4.out) AJ5.out) AJ6.out) AJ7.out) AJ8.out) AJ9.out) HG10.out (.inl (by omega))))).mono ?_
    rintro e w11 ⟨rfl, hb11⟩
    rw [decide_eq_true rfl]
    have HB11 := Lib.hid (Below.next HB10.out hb11)
    have hs11 := hb11.size
    have AJ11 := Lib.hid hb11; clear hb11
    have pxwant00_11 := box_at pxwant00_10 AJ11.out
    clear pxwant00_10
    have pxwant01_11 := box_at pxwant01_10 AJ11.out
    clear pxwant01_10
    have pxwant02_11 := box_at pxwant02_10 AJ11.out
    clear pxwant02_10
    have pxwant03_11 := box_at pxwant03_10 AJ11.out
    clear pxwant03_10
    have pxwant04_11 := box_at pxwant04_10 AJ11.out
    clear pxwant04_10
    have pxwant05_11 := box_at pxwant05_10 AJ11.out
    clear pxwant05_10
    have pxwant06_11 := box_at pxwant06_10 AJ11.out
    clear pxwant06_10
    have pxwant07_11 := box_at pxwant07_10 AJ11.out
    clear pxwant07_10
    have pxwant08_11 := box_at pxwant08_10 AJ11.out
    clear pxwant08_10
    have pxwant09_11 := box_at pxwant09_10 AJ11.out
    clear pxwant09_10
    have pxwant010_11 := box_at pxwant010_10 AJ11.out
    clear pxwant010_10
    have pxwant011_11 := box_at pxwant011_10 AJ11.out
    clear pxwant011_10
    have pxwant012_11 := box_at pxwant012_10 AJ11.out
    clear pxwant012_10
    have pxgot00_11 := box_at pxgot00_10 AJ11.out
    clear pxgot00_10
    have pxgot01_11 := box_at pxgot01_10 AJ11.out
    clear pxgot01_10
    have pxgot02_11 := box_at pxgot02_10 AJ11.out
    clear pxgot02_10
    have pxgot03_11 := box_at pxgot03_10 AJ11.out
    clear pxgot03_10
    have pxgot04_11 := box_at pxgot04_10 AJ11.out
    clear pxgot04_10
    have pxgot05_11 := box_at pxgot05_10 AJ11.out
    clear pxgot05_10
    have pxgot06_11 := box_at pxgot06_10 AJ11.out
    clear pxgot06_10
    have pxgot07_11 := box_at pxgot07_10 AJ11.out
    clear pxgot07_10
    have pxgot08_11 := box_at pxgot08_10 AJ11.out
    clear pxgot08_10
    have pxgot09_11 := box_at pxgot09_10 AJ11.out
    clear pxgot09_10
    have pxgot010_11 := box_at pxgot010_10 AJ11.out
    clear pxgot010_10
    have pxgot011_11 := box_at pxgot011_10 AJ11.out
    clear pxgot011_10
    have pxgot012_11 := box_at pxgot012_10 AJ11.out
    clear pxgot012_10
    have LG0 : Hid (1 + (cnStage (lR0)) ≤ 9223372036854775806) := LGB0
    go_wp2_with fail
    refine (laws_markStageG _ _ _ 1 _ _ (Kind.next (K := kStageG) (Kind.kept (K := kStageG) (Kind.next (K := kStageG) (Kind.next (K := kStageG) (Kind.next (K := kStageG) (Kind.next (K := kStageG) Ogot0.out AJ6.out) AJ7.out) AJ8.out) AJ9.out) HG10.out (.inr (by omega))) AJ11.out) (by exact LG0.out) (by omega)).mono ?_
    rintro e w12 ⟨rfl, hX, hG12⟩
    have Ogot0m := Lib.hid hX; clear hX
    have hs12 := hG12.size
    have HB12 := Lib.hid (HB11.out.trans (hG12.below (B := w.heap.size) (by omega) (by omega)))
    have HG12 := Lib.hid hG12; clear hG12
    have pxwant00_12 := within_at HG12.out pxwant00_11 (by omega)
    clear pxwant00_11
    have pxwant01_12 := within_at HG12.out pxwant01_11 (by omega)
    clear pxwant01_11
    have pxwant02_12 := within_at HG12.out pxwant02_11 (by omega)
    clear pxwant02_11
    have pxwant03_12 := within_at HG12.out pxwant03_11 (by omega)
    clear pxwant03_11
    have pxwant04_12 := within_at HG12.out pxwant04_11 (by omega)
    clear pxwant04_11
    have pxwant05_12 := within_at HG12.out pxwant05_11 (by omega)
    clear pxwant05_11
    have pxwant06_12 := within_at HG12.out pxwant06_11 (by omega)
    clear pxwant06_11
    have pxwant07_12 := within_at HG12.out pxwant07_11 (by omega)
    clear pxwant07_11
    have pxwant08_12 := within_at HG12.out pxwant08_11 (by omega)
    clear pxwant08_11
    have pxwant09_12 := within_at HG12.out pxwant09_11 (by omega)
    clear pxwant09_11
    have pxwant010_12 := within_at HG12.out pxwant010_11 (by omega)
    clear pxwant010_11
    have pxwant011_12 := within_at HG12.out pxwant011_11 (by omega)
    clear pxwant011_11
    have pxwant012_12 := within_at HG12.out pxwant012_11 (by omega)
    clear pxwant012_11
    have pxgot00_12 := within_at HG12.out pxgot00_11 (by omega)
    clear pxgot00_11
    have pxgot01_12 := within_at HG12.out pxgot01_11 (by omega)
    clear pxgot01_11
    have pxgot02_12 := within_at HG12.out pxgot02_11 (by omega)
    clear pxgot02_11
    have pxgot03_12 := within_at HG12.out pxgot03_11 (by omega)
    clear pxgot03_11
    have pxgot04_12 := within_at HG12.out pxgot04_11 (by omega)
    clear pxgot04_11
    have pxgot05_12 := within_at HG12.out pxgot05_11 (by omega)
    clear pxgot05_11
    have pxgot06_12 := within_at HG12.out pxgot06_11 (by omega)
    clear pxgot06_11
    have pxgot07_12 := within_at HG12.out pxgot07_11 (by omega)
    clear pxgot07_11
    have pxgot08_12 := within_at HG12.out pxgot08_11 (by omega)
    clear pxgot08_11
    have pxgot09_12 := within_at HG12.out pxgot09_11 (by omega)
    clear pxgot09_11
    have pxgot010_12 := within_at HG12.out pxgot010_11 (by omega)
    clear pxgot010_11
    have pxgot011_12 := within_at HG12.out pxgot011_11 (by omega)
    clear pxgot011_11
    have pxgot012_12 := within_at HG12.out pxgot012_11 (by omega)
    clear pxgot012_11
    go_wp2_with fail
    refine (laws_heldStage _ 1 _ _ (kStageG.own_rd Ogot0m.out) (by exact LG0.out)).mono ?_
    rintro e w13 ⟨rfl, hb13⟩
    have HB13 := Lib.hid (Below.next HB12.out hb13)
    have hs13 := hb13.size
    have AJ13 := Lib.hid hb13; clear hb13
    have pxwant00_13 := box_at pxwant00_12 AJ13.out
    clear pxwant00_12
    have pxwant01_13 := box_at pxwant01_12 AJ13.out
    clear pxwant01_12
    have pxwant02_13 := box_at pxwant02_12 AJ13.out
    clear pxwant02_12
    have pxwant03_13 := box_at pxwant03_12 AJ13.out
    clear pxwant03_12
    have pxwant04_13 := box_at pxwant04_12 AJ13.out
    clear pxwant04_12
    have pxwant05_13 := box_at pxwant05_12 AJ13.out
    clear pxwant05_12
    have pxwant06_13 := box_at pxwant06_12 AJ13.out
    clear pxwant06_12
    have pxwant07_13 := box_at pxwant07_12 AJ13.out
    clear pxwant07_12
    have pxwant08_13 := box_at pxwant08_12 AJ13.out
    clear pxwant08_12
    have pxwant09_13 := box_at pxwant09_12 AJ13.out
    clear pxwant09_12
    have pxwant010_13 := box_at pxwant010_12 AJ13.out
    clear pxwant010_12
    have pxwant011_13 := box_at pxwant011_12 AJ13.out
    clear pxwant011_12
    have pxwant012_13 := box_at pxwant012_12 AJ13.out
    clear pxwant012_12
    have pxgot00_13 := box_at pxgot00_12 AJ13.out
    clear pxgot00_12
    have pxgot01_13 := box_at pxgot01_12 AJ13.out
    clear pxgot01_12
    have pxgot02_13 := box_at pxgot02_12 AJ13.out
    clear pxgot02_12
    have pxgot03_13 := box_at pxgot03_12 AJ13.out
    clear pxgot03_12
    have pxgot04_13 := box_at pxgot04_12 AJ13.out
    clear pxgot04_12
    have pxgot05_13 := box_at pxgot05_12 AJ13.out
    clear pxgot05_12
    have pxgot06_13 := box_at pxgot06_12 AJ13.out
    clear pxgot06_12
    have pxgot07_13 := box_at pxgot07_12 AJ13.out
    clear pxgot07_12
    have pxgot08_13 := box_at pxgot08_12 AJ13.out
    clear pxgot08_12
    have pxgot09_13 := box_at pxgot09_12 AJ13.out
    clear pxgot09_12
    have pxgot010_13 := box_at pxgot010_12 AJ13.out
    clear pxgot010_12
    have pxgot011_13 := box_at pxgot011_12 AJ13.out
    clear pxgot011_12
    have pxgot012_13 := box_at pxgot012_12 AJ13.out
    clear pxgot012_12
    go_wp2_with fail
    refine (laws_toIntS _ lv _ (Hv.out.below HB13.out) (by rw [HLv.out]; omega)).mono ?_
    rintro e w14 ⟨zv, rfl, hX, hb14⟩
    have Ozv := Lib.hid (InI.of_own hX); clear hX
    have HB14 := Lib.hid (Below.next HB13.out hb14)
    have hs14 := hb14.size
    have AJ14 := Lib.hid hb14; clear hb14
    have pxwant00_14 := box_at pxwant00_13 AJ14.out
    clear pxwant00_13
    have pxwant01_14 := box_at pxwant01_13 AJ14.out
    clear pxwant01_13
    have pxwant02_14 := box_at pxwant02_13 AJ14.out
    clear pxwant02_13
    have pxwant03_14 := box_at pxwant03_13 AJ14.out
    clear pxwant03_13
    have pxwant04_14 := box_at pxwant04_13 AJ14.out
    clear pxwant04_13
    have pxwant05_14 := box_at pxwant05_13 AJ14.out
    clear pxwant05_13
    have pxwant06_14 := box_at pxwant06_13 AJ14.out
    clear pxwant06_13
    have pxwant07_14 := box_at pxwant07_13 AJ14.out
    clear pxwant07_13
    have pxwant08_14 := box_at pxwant08_13 AJ14.out
    clear pxwant08_13
    have pxwant09_14 := box_at pxwant09_13 AJ14.out
    clear pxwant09_13
    have pxwant010_14 := box_at pxwant010_13 AJ14.out
    clear pxwant010_13
    have pxwant011_14 := box_at pxwant011_13 AJ14.out
    clear pxwant011_13
    have pxwant012_14 := box_at pxwant012_13 AJ14.out
    clear pxwant012_13
    have pxgot00_14 := box_at pxgot00_13 AJ14.out
    clear pxgot00_13
    have pxgot01_14 := box_at pxgot01_13 AJ14.out
    clear pxgot01_13
    have pxgot02_14 := box_at pxgot02_13 AJ14.out
    clear pxgot02_13
    have pxgot03_14 := box_at pxgot03_13 AJ14.out
    clear pxgot03_13
    have pxgot04_14 := box_at pxgot04_13 AJ14.out
    clear pxgot04_13
    have pxgot05_14 := box_at pxgot05_13 AJ14.out
    clear pxgot05_13
    have pxgot06_14 := box_at pxgot06_13 AJ14.out
    clear pxgot06_13
    have pxgot07_14 := box_at pxgot07_13 AJ14.out
    clear pxgot07_13
    have pxgot08_14 := box_at pxgot08_13 AJ14.out
    clear pxgot08_13
    have pxgot09_14 := box_at pxgot09_13 AJ14.out
    clear pxgot09_13
    have pxgot010_14 := box_at pxgot010_13 AJ14.out
    clear pxgot010_13
    have pxgot011_14 := box_at pxgot011_13 AJ14.out
    clear pxgot011_13
    have pxgot012_14 := box_at pxgot012_13 AJ14.out
    clear pxgot012_13
    go_wp2_with fail
    refine (impl_StageOfRecord _ lv _ (by rw [HLv.out]; omega) Ozv.out.reads).mono ?_
    rintro e w15 ⟨again0, rfl, hXagain0, hb15⟩
    rw [HR0.out] at hXagain0
    have Oagain0 := Lib.hid hXagain0; clear hXagain0
    obtain ⟨again0_a1, again0_n1, again0_c1, again0_a2, again0_n2, again0_c2, again0_a3, again0_n3, again0_c3, again0_a4, again0_n4, again0_c4, again0_a5, again0_n5, again0_c5, again0_a6, again0_n6, again0_c6, again0_a7, again0_n7, again0_c7, again0_a8, again0_n8, again0_c8, again0_a9, again0_n9, again0_c9, again0_a10, again0_n10, again0_c10, again0_a11, again0_n11, again0_c11, again0_a12, again0_n12, again0_c12, rfl, hrest⟩ := rdStage.1 (kStageG.own_rd Oagain0.out)
    clear hrest
    have HB15 := Lib.hid (Below.next HB14.out hb15)
    have hs15 := hb15.size
    have AJ15 := Lib.hid hb15; clear hb15
    have pxwant00_15 := box_at pxwant00_14 AJ15.out
    clear pxwant00_14
    have pxwant01_15 := box_at pxwant01_14 AJ15.out
    clear pxwant01_14
    have pxwant02_15 := box_at pxwant02_14 AJ15.out
    clear pxwant02_14
    have pxwant03_15 := box_at pxwant03_14 AJ15.out
    clear pxwant03_14
    have pxwant04_15 := box_at pxwant04_14 AJ15.out
    clear pxwant04_14
    have pxwant05_15 := box_at pxwant05_14 AJ15.out
    clear pxwant05_14
    have pxwant06_15 := box_at pxwant06_14 AJ15.out
    clear pxwant06_14
    have pxwant07_15 := box_at pxwant07_14 AJ15.out
    clear pxwant07_14
    have pxwant08_15 := box_at pxwant08_14 AJ15.out
    clear pxwant08_14
    have pxwant09_15 := box_at pxwant09_14 AJ15.out
    clear pxwant09_14
    have pxwant010_15 := box_at pxwant010_14 AJ15.out
    clear pxwant010_14
    have pxwant011_15 := box_at pxwant011_14 AJ15.out
    clear pxwant011_14
    have pxwant012_15 := box_at pxwant012_14 AJ15.out
    clear pxwant012_14
    have pxgot00_15 := box_at pxgot00_14 AJ15.out
    clear pxgot00_14
    have pxgot01_15 := box_at pxgot01_14 AJ15.out
    clear pxgot01_14
    have pxgot02_15 := box_at pxgot02_14 AJ15.out
    clear pxgot02_14
    have pxgot03_15 := box_at pxgot03_14 AJ15.out
    clear pxgot03_14
    have pxgot04_15 := box_at pxgot04_14 AJ15.out
    clear pxgot04_14
    have pxgot05_15 := box_at pxgot05_14 AJ15.out
    clear pxgot05_14
    have pxgot06_15 := box_at pxgot06_14 AJ15.out
    clear pxgot06_14
    have pxgot07_15 := box_at pxgot07_14 AJ15.out
    clear pxgot07_14
    have pxgot08_15 := box_at pxgot08_14 AJ15.out
    clear pxgot08_14
    have pxgot09_15 := box_at pxgot09_14 AJ15.out
    clear pxgot09_14
    have pxgot010_15 := box_at pxgot010_14 AJ15.out
    clear pxgot010_14
    have pxgot011_15 := box_at pxgot011_14 AJ15.out
    clear pxgot011_14
    have pxgot012_15 := box_at pxgot012_14 AJ15.out
    clear pxgot012_14
    have zl0 : w2.heap.size < w15.heap.size := World.block_lt_of_cell? _ _ pxwant00_15
    have zl1 : w5.heap.size < w15.heap.size := World.block_lt_of_cell? _ _ pxgot00_15
    go_wp2_with fail
    clear zl0 zl1
    obtain ⟨w16, hw16⟩ : ∃ u, u = w15.alloc (.cells #[.int .i64 lR0.argument, .slice again0_a1 again0_n1 again0_c1, .slice again0_a2 again0_n2 again0_c2, .slice again0_a3 again0_n3 again0_c3, .slice again0_a4 again0_n4 again0_c4, .slice again0_a5 again0_n5 again0_c5, .slice again0_a6 again0_n6 again0_c6, .slice again0_a7 again0_n7 again0_c7, .slice again0_a8 again0_n8 again0_c8, .slice again0_a9 again0_n9 again0_c9, .slice again0_a10 again0_n10 again0_c10, .slice again0_a11 again0_n11 again0_c11, .slice again0_a12 again0_n12 again0_c12] 42) := ⟨_, rfl⟩
    rw [← hw16]
    have hb16 : Below w15.heap.size w15 w16 := by rw [hw16]; exact (Below.refl _ _).alloc (Nat.le_refl _) _
    have hlt16 : w15.heap.size < w16.heap.size := by rw [hw16]; simp
    have pxagain00_16 : w16.cell? ⟨w15.heap.size, 0, none⟩ = some (.int .i64 lR0.argument) := by rw [hw16]; simp [go_sem]
    have pxagain01_16 : w16.cell? ⟨w15.heap.size, 1, none⟩ = some (.slice again0_a1 again0_n1 again0_c1) := by rw [hw16]; simp [go_sem]
    have pxagain02_16 : w16.cell? ⟨w15.heap.size, 2, none⟩ = some (.slice again0_a2 again0_n2 again0_c2) := by rw [hw16]; simp [go_sem]
    have pxagain03_16 : w16.cell? ⟨w15.heap.size, 3, none⟩ = some (.slice again0_a3 again0_n3 again0_c3) := by rw [hw16]; simp [go_sem]
    have pxagain04_16 : w16.cell? ⟨w15.heap.size, 4, none⟩ = some (.slice again0_a4 again0_n4 again0_c4) := by rw [hw16]; simp [go_sem]
    have pxagain05_16 : w16.cell? ⟨w15.heap.size, 5, none⟩ = some (.slice again0_a5 again0_n5 again0_c5) := by rw [hw16]; simp [go_sem]
    have pxagain06_16 : w16.cell? ⟨w15.heap.size, 6, none⟩ = some (.slice again0_a6 again0_n6 again0_c6) := by rw [hw16]; simp [go_sem]
    have pxagain07_16 : w16.cell? ⟨w15.heap.size, 7, none⟩ = some (.slice again0_a7 again0_n7 again0_c7) := by rw [hw16]; simp [go_sem]
    have pxagain08_16 : w16.cell? ⟨w15.heap.size, 8, none⟩ = some (.slice again0_a8 again0_n8 again0_c8) := by rw [hw16]; simp [go_sem]
    have pxagain09_16 : w16.cell? ⟨w15.heap.size, 9, none⟩ = some (.slice again0_a9 again0_n9 again0_c9) := by rw [hw16]; simp [go_sem]
    have pxagain010_16 : w16.cell? ⟨w15.heap.size, 10, none⟩ = some (.slice again0_a10 again0_n10 again0_c10) := by rw [hw16]; simp [go_sem]
    have pxagain011_16 : w16.cell? ⟨w15.heap.size, 11, none⟩ = some (.slice again0_a11 again0_n11 again0_c11) := by rw [hw16]; simp [go_sem]
    have pxagain012_16 : w16.cell? ⟨w15.heap.size, 12, none⟩ = some (.slice again0_a12 again0_n12 again0_c12) := by rw [hw16]; simp [go_sem]
    clear hw16
    have HB16 := Lib.hid (Below.next HB15.out hb16)
    have hs16 := hb16.size
    have AJ16 := Lib.hid hb16; clear hb16
    have pxwant00_16 := box_at pxwant00_15 AJ16.out
    clear pxwant00_15
    have pxwant01_16 := box_at pxwant01_15 AJ16.out
    clear pxwant01_15
    have pxwant02_16 := box_at pxwant02_15 AJ16.out
    clear pxwant02_15
    have pxwant03_16 := box_at pxwant03_15 AJ16.out
    clear pxwant03_15
    have pxwant04_16 := box_at pxwant04_15 AJ16.out
    clear pxwant04_15
    have pxwant05_16 := box_at pxwant05_15 AJ16.out
    clear pxwant05_15
    have pxwant06_16 := box_at pxwant06_15 AJ16.out
    clear pxwant06_15
    have pxwant07_16 := box_at pxwant07_15 AJ16.out
    clear pxwant07_15
    have pxwant08_16 := box_at pxwant08_15 AJ16.out
    clear pxwant08_15
    have pxwant09_16 := box_at pxwant09_15 AJ16.out
    clear pxwant09_15
    have pxwant010_16 := box_at pxwant010_15 AJ16.out
    clear pxwant010_15
    have pxwant011_16 := box_at pxwant011_15 AJ16.out
    clear pxwant011_15
    have pxwant012_16 := box_at pxwant012_15 AJ16.out
    clear pxwant012_15
    have pxgot00_16 := box_at pxgot00_15 AJ16.out
    clear pxgot00_15
    have pxgot01_16 := box_at pxgot01_15 AJ16.out
    clear pxgot01_15
    have pxgot02_16 := box_at pxgot02_15 AJ16.out
    clear pxgot02_15
    have pxgot03_16 := box_at pxgot03_15 AJ16.out
    clear pxgot03_15
    have pxgot04_16 := box_at pxgot04_15 AJ16.out
    clear pxgot04_15
    have pxgot05_16 := box_at pxgot05_15 AJ16.out
    clear pxgot05_15
    have pxgot06_16 := box_at pxgot06_15 AJ16.out
    clear pxgot06_15
    have pxgot07_16 := box_at pxgot07_15 AJ16.out
    clear pxgot07_15
    have pxgot08_16 := box_at pxgot08_15 AJ16.out
    clear pxgot08_15
    have pxgot09_16 := box_at pxgot09_15 AJ16.out
    clear pxgot09_15
    have pxgot010_16 := box_at pxgot010_15 AJ16.out
    clear pxgot010_15
    have pxgot011_16 := box_at pxgot011_15 AJ16.out
    clear pxgot011_15
    have pxgot012_16 := box_at pxgot012_15 AJ16.out
    clear pxgot012_15
    refine (laws_eqStage _ _ _ _ _ (kStageG.own_rd (Kind.next (K := kStageG) Oagain0.out AJ16.out)) (kStageG.own_rd (Kind.next (K := kStageG) (Kind.next (K := kStageG) (Kind.next (K := kStageG) (Kind.next (K := kStageG) (Kind.kept (K := kStageG) (Kind.next (K := kStageG) (Kind.kept (K := kStageG) (Kind.next (K := kStageG) (Kind.next (K := kStageG) (Kind.next (K := kStageG) (Kind.next (K := kStageG) (Kind.next (K := kStageG) (Kind.next (K := kStageG) (Kind.next (K := kStageG) Owant0.out AJ3.out) AJ4.out) AJ5.out) AJ6.out) AJ7.out) AJ8.out) AJ9.out) HG10.out (.inl (by omega))) AJ11.out) HG12.out (.inl (by omega))) AJ13.out) AJ14.out) AJ15.out) AJ16.out))).mono ?_
    rintro e w17 ⟨rfl, hb17⟩
    rw [decide_eq_true rfl]
    have HB17 := Lib.hid (Below.next HB16.out hb17)
    have hs17 := hb17.size
    have AJ17 := Lib.hid hb17; clear hb17
    have pxwant00_17 := box_at pxwant00_16 AJ17.out
    clear pxwant00_16
    have pxwant01_17 := box_at pxwant01_16 AJ17.out
    clear pxwant01_16
    have pxwant02_17 := box_at pxwant02_16 AJ17.out
    clear pxwant02_16
    have pxwant03_17 := box_at pxwant03_16 AJ17.out
    clear pxwant03_16
    have pxwant04_17 := box_at pxwant04_16 AJ17.out
    clear pxwant04_16
    have pxwant05_17 := box_at pxwant05_16 AJ17.out
    clear pxwant05_16
    have pxwant06_17 := box_at pxwant06_16 AJ17.out
    clear pxwant06_16
    have pxwant07_17 := box_at pxwant07_16 AJ17.out
    clear pxwant07_16
    have pxwant08_17 := box_at pxwant08_16 AJ17.out
    clear pxwant08_16
    have pxwant09_17 := box_at pxwant09_16 AJ17.out
    clear pxwant09_16
    have pxwant010_17 := box_at pxwant010_16 AJ17.out
    clear pxwant010_16
    have pxwant011_17 := box_at pxwant011_16 AJ17.out
    clear pxwant011_16
    have pxwant012_17 := box_at pxwant012_16 AJ17.out
    clear pxwant012_16
    have pxgot00_17 := box_at pxgot00_16 AJ17.out
    clear pxgot00_16
    have pxgot01_17 := box_at pxgot01_16 AJ17.out
    clear pxgot01_16
    have pxgot02_17 := box_at pxgot02_16 AJ17.out
    clear pxgot02_16
    have pxgot03_17 := box_at pxgot03_16 AJ17.out
    clear pxgot03_16
    have pxgot04_17 := box_at pxgot04_16 AJ17.out
    clear pxgot04_16
    have pxgot05_17 := box_at pxgot05_16 AJ17.out
    clear pxgot05_16
    have pxgot06_17 := box_at pxgot06_16 AJ17.out
    clear pxgot06_16
    have pxgot07_17 := box_at pxgot07_16 AJ17.out
    clear pxgot07_16
    have pxgot08_17 := box_at pxgot08_16 AJ17.out
    clear pxgot08_16
    have pxgot09_17 := box_at pxgot09_16 AJ17.out
    clear pxgot09_16
    have pxgot010_17 := box_at pxgot010_16 AJ17.out
    clear pxgot010_16
    have pxgot011_17 := box_at pxgot011_16 AJ17.out
    clear pxgot011_16
    have pxgot012_17 := box_at pxgot012_16 AJ17.out
    clear pxgot012_16
    have pxagain00_17 := box_at pxagain00_16 AJ17.out
    clear pxagain00_16
    have pxagain01_17 := box_at pxagain01_16 AJ17.out
    clear pxagain01_16
    have pxagain02_17 := box_at pxagain02_16 AJ17.out
    clear pxagain02_16
    have pxagain03_17 := box_at pxagain03_16 AJ17.out
    clear pxagain03_16
    have pxagain04_17 := box_at pxagain04_16 AJ17.out
    clear pxagain04_16
    have pxagain05_17 := box_at pxagain05_16 AJ17.out
    clear pxagain05_16
    have pxagain06_17 := box_at pxagain06_16 AJ17.out
    clear pxagain06_16
    have pxagain07_17 := box_at pxagain07_16 AJ17.out
    clear pxagain07_16
    have pxagain08_17 := box_at pxagain08_16 AJ17.out
    clear pxagain08_16
    have pxagain09_17 := box_at pxagain09_16 AJ17.out
    clear pxagain09_16
    have pxagain010_17 := box_at pxagain010_16 AJ17.out
    clear pxagain010_16
    have pxagain011_17 := box_at pxagain011_16 AJ17.out
    clear pxagain011_16
    have pxagain012_17 := box_at pxagain012_16 AJ17.out
    clear pxagain012_16
    go_wp2_with fail
    refine (laws_heldStage _ 1 _ _ (kStageG.own_rd (Kind.next (K := kStageG) (Kind.next (K := kStageG) (Kind.next (K := kStageG) (Kind.next (K := kStageG) (Kind.next (K := kStageG) Ogot0m.out AJ13.out) AJ14.out) AJ15.out) AJ16.out) AJ17.out)) (by exact LG0.out)).mono ?_
    rintro e w18 ⟨rfl, hb18⟩
    have HB18 := Lib.hid (Below.next HB17.out hb18)
    have hs18 := hb18.size
    have AJ18 := Lib.hid hb18; clear hb18
    have pxwant00_18 := box_at pxwant00_17 AJ18.out
    clear pxwant00_17
    have pxwant01_18 := box_at pxwant01_17 AJ18.out
    clear pxwant01_17
    have pxwant02_18 := box_at pxwant02_17 AJ18.out
    clear pxwant02_17
    have pxwant03_18 := box_at pxwant03_17 AJ18.out
    clear pxwant03_17
    have pxwant04_18 := box_at pxwant04_17 AJ18.out
    clear pxwant04_17
    have pxwant05_18 := box_at pxwant05_17 AJ18.out
    clear pxwant05_17
    have pxwant06_18 := box_at pxwant06_17 AJ18.out
    clear pxwant06_17
    have pxwant07_18 := box_at pxwant07_17 AJ18.out
    clear pxwant07_17
    have pxwant08_18 := box_at pxwant08_17 AJ18.out
    clear pxwant08_17
    have pxwant09_18 := box_at pxwant09_17 AJ18.out
    clear pxwant09_17
    have pxwant010_18 := box_at pxwant010_17 AJ18.out
    clear pxwant010_17
    have pxwant011_18 := box_at pxwant011_17 AJ18.out
    clear pxwant011_17
    have pxwant012_18 := box_at pxwant012_17 AJ18.out
    clear pxwant012_17
    have pxgot00_18 := box_at pxgot00_17 AJ18.out
    clear pxgot00_17
    have pxgot01_18 := box_at pxgot01_17 AJ18.out
    clear pxgot01_17
    have pxgot02_18 := box_at pxgot02_17 AJ18.out
    clear pxgot02_17
    have pxgot03_18 := box_at pxgot03_17 AJ18.out
    clear pxgot03_17
    have pxgot04_18 := box_at pxgot04_17 AJ18.out
    clear pxgot04_17
    have pxgot05_18 := box_at pxgot05_17 AJ18.out
    clear pxgot05_17
    have pxgot06_18 := box_at pxgot06_17 AJ18.out
    clear pxgot06_17
    have pxgot07_18 := box_at pxgot07_17 AJ18.out
    clear pxgot07_17
    have pxgot08_18 := box_at pxgot08_17 AJ18.out
    clear pxgot08_17
    have pxgot09_18 := box_at pxgot09_17 AJ18.out
    clear pxgot09_17
    have pxgot010_18 := box_at pxgot010_17 AJ18.out
    clear pxgot010_17
    have pxgot011_18 := box_at pxgot011_17 AJ18.out
    clear pxgot011_17
    have pxgot012_18 := box_at pxgot012_17 AJ18.out
    clear pxgot012_17
    have pxagain00_18 := box_at pxagain00_17 AJ18.out
    clear pxagain00_17
    have pxagain01_18 := box_at pxagain01_17 AJ18.out
    clear pxagain01_17
    have pxagain02_18 := box_at pxagain02_17 AJ18.out
    clear pxagain02_17
    have pxagain03_18 := box_at pxagain03_17 AJ18.out
    clear pxagain03_17
    have pxagain04_18 := box_at pxagain04_17 AJ18.out
    clear pxagain04_17
    have pxagain05_18 := box_at pxagain05_17 AJ18.out
    clear pxagain05_17
    have pxagain06_18 := box_at pxagain06_17 AJ18.out
    clear pxagain06_17
    have pxagain07_18 := box_at pxagain07_17 AJ18.out
    clear pxagain07_17
    have pxagain08_18 := box_at pxagain08_17 AJ18.out
    clear pxagain08_17
    have pxagain09_18 := box_at pxagain09_17 AJ18.out
    clear pxagain09_17
    have pxagain010_18 := box_at pxagain010_17 AJ18.out
    clear pxagain010_17
    have pxagain011_18 := box_at pxagain011_17 AJ18.out
    clear pxagain011_17
    have pxagain012_18 := box_at pxagain012_17 AJ18.out
    clear pxagain012_17
    go_wp2_with fail
    go_ret
    exact ⟨rfl, HB18.out⟩
end Go.Proofs.Ytbcaknmpbkapnaa

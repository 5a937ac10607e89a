/- The walks of laws, by program (genlaw4.py). -/
import Derived.Test.YtodennbdfloccaaGreatVFind2
import Derived.Test.YtodennbdfloccaaGreatKForkEvidence
import Derived.Test.YtodennbdfloccaaGreatGrpL
namespace Go.Proofs.YtodennbdfloccaaGreat
open Go.RowKit
set_option linter.unusedSimpArgs false
set_option linter.unusedVariables false

set_option maxRecDepth 100000 in
set_option maxHeartbeats 2000000 in
theorem law_FindFork (gr : GroupD) (keys : Value) (lkeys : List Int) (heads : Value) (lheads : List HeadD) (w : World) (hkeys : Ints w keys lkeys) (hheads : (kR 44 rHead).rd w heads lheads) :
    Calls Tryz.prog 5 #[.agg #[.int .i64 gr.p, .int .i64 gr.q, .int .i64 gr.g], keys, heads] w fun e w' => e = .returned (.bool true) ∧ Below w.heap.size w w' := by
  obtain ⟨W, hW⟩ : ∃ W, W = w.alloc (.cells #[.int .i64 gr.p, .int .i64 gr.q, .int .i64 gr.g] 23) := ⟨_, rfl⟩
  have HWB : Hid (Below w.heap.size w W) := by unfold Hid; rw [hW]; (repeat (first | exact Below.refl _ _ | assumption | refine Below.drew ?_ | refine Below.alloc ?_ (by first | (simp; done) | (simp; omega)) _ | refine Below.setCell ?_ (by first | (simp; done) | (simp; omega)) _))
  have BXgr0 : Hid (W.cell? ⟨w.heap.size, 0, none⟩ = some (.int .i64 gr.p)) := by unfold Hid; rw [hW]; simp [go_sem]
  have BXgr1 : Hid (W.cell? ⟨w.heap.size, 1, none⟩ = some (.int .i64 gr.q)) := by unfold Hid; rw [hW]; simp [go_sem]
  have BXgr2 : Hid (W.cell? ⟨w.heap.size, 2, none⟩ = some (.int .i64 gr.g)) := by unfold Hid; rw [hW]; simp [go_sem]
  replace hkeys := (hkeys.below HWB.out)
  replace hheads := ((kR 44 rHead).rd_below hheads HWB.out)
  obtain ⟨adkeys, nkeys, ckeys, rfl⟩ := hkeys.shape
  have HLkeys := Lib.hid hkeys.len
  have Hkeys := Lib.hid hkeys; clear hkeys
  have Hheads := Lib.hid hheads; clear hheads
  by_cases hnkeys : 1048576 < (nkeys : Int)
  · go_enter Tryz.func5, Tryz.ntmps5
    go_wp2_with fail
    go_ret
    exact ⟨rfl, by (repeat (first | exact Below.refl _ _ | assumption | refine Below.drew ?_ | refine Below.alloc ?_ (by first | (simp; done) | (simp; omega)) _ | refine Below.setCell ?_ (by first | (simp; done) | (simp; omega)) _))⟩
  · skip
    obtain ⟨lR0, hR0⟩ : ∃ d, (ffkE gr lkeys lheads) = d := ⟨_, rfl⟩
    have HR0 := Lib.hid hR0
    clear hR0
    go_enter Tryz.func5, Tryz.ntmps5
    go_wp2_with fail
    rw [← hW]
    clear hW
    have pxgr0_0 := BXgr0.out
    have pxgr1_0 := BXgr1.out
    have pxgr2_0 := BXgr2.out
    refine (laws_szHeadS _ lheads 1048576 _ ((kR 44 rHead).rd_below Hheads.out (Below.refl _ _)) (by decide) (by decide)).mono ?_
    rintro e w1 ⟨⟨r0, rfl, hr0, hsz0⟩, hb1⟩
    replace hsz0 : 0 ≤ r0 → (szHeadS lheads : Int) ≤ 1048576 ∧ r0 ≤ 1048576 := fun h => by have := hsz0 h; omega
    have HB1 := Lib.hid (Below.next (Below.refl _ _) hb1)
    have hs1 := hb1.size
    have AJ1 := Lib.hid hb1; clear hb1
    have pxgr0_1 := box_at BXgr0.out HB1.out
    clear pxgr0_0
    have pxgr1_1 := box_at BXgr1.out HB1.out
    clear pxgr1_0
    have pxgr2_1 := box_at BXgr2.out HB1.out
    clear pxgr2_0
    by_cases hneg0 : r0 < 0
    · go_wp2_with fail
      go_ret
      exact ⟨rfl, HWB.out.trans (HB1.out.mono HWB.out.size)⟩
    · have HZheads : Hid ((szHeadS lheads : Int) ≤ 1000000000) := by have := (hsz0 (by omega)).1; unfold Hid; omega
      have hrb0 : r0 ≤ 1048576 := by have := (hsz0 (by omega)).2; omega
      clear hsz0
      go_wp2_with fail
      refine (laws_toGroup gr _).mono ?_
      rintro e w2 ⟨rfl, hb2⟩
      have HB2 := Lib.hid (Below.next HB1.out hb2)
      have hs2 := hb2.size
      have AJ2 := Lib.hid hb2; clear hb2
      have pxgr0_2 := box_at BXgr0.out HB2.out
      clear pxgr0_1
      have pxgr1_2 := box_at BXgr1.out HB2.out
      clear pxgr1_1
      have pxgr2_2 := box_at BXgr2.out HB2.out
      clear pxgr2_1
      go_wp2_with fail
      refine (laws_toIntS _ lkeys _ (Hkeys.out.below HB2.out) (by rw [HLkeys.out]; omega)).mono ?_
      rintro e w3 ⟨skeys, rfl, hX, hb3⟩
      have Oskeys := Lib.hid (InI.of_own hX); clear hX
      have HB3 := Lib.hid (Below.next HB2.out hb3)
      have hs3 := hb3.size
      have AJ3 := Lib.hid hb3; clear hb3
      have pxgr0_3 := box_at BXgr0.out HB3.out
      clear pxgr0_2
      have pxgr1_3 := box_at BXgr1.out HB3.out
      clear pxgr1_2
      have pxgr2_3 := box_at BXgr2.out HB3.out
      clear pxgr2_2
      go_wp2_with fail
      refine (laws_toHeadS _ lheads _ ((kR 44 rHead).rd_below Hheads.out HB3.out) HZheads.out).mono ?_
      rintro e w4 ⟨sheads, rfl, hX, hb4⟩
      have Osheads := Lib.hid (hX); clear hX
      have HB4 := Lib.hid (Below.next HB3.out hb4)
      have hs4 := hb4.size
      have AJ4 := Lib.hid hb4; clear hb4
      have pxgr0_4 := box_at BXgr0.out HB4.out
      clear pxgr0_3
      have pxgr1_4 := box_at BXgr1.out HB4.out
      clear pxgr1_3
      have pxgr2_4 := box_at BXgr2.out HB4.out
      clear pxgr2_3
      go_wp2_with fail
      refine (spec_FindFork gr _ lkeys _ lheads _ (Oskeys.out.next AJ4.out).reads HZheads.out ((kR 44 rHead).own_rd Osheads.out)).mono ?_
      rintro e w5 ⟨want0, rfl, hXwant0, hb5⟩
      rw [HR0.out] at hXwant0
      have Owant0 := Lib.hid hXwant0; clear hXwant0
      obtain ⟨want0_a3, want0_n3, want0_c3, want0_a4, want0_n4, want0_c4, want0_a5, want0_n5, want0_c5, want0_a9, want0_n9, want0_c9, want0_a10, want0_n10, want0_c10, want0_a11, want0_n11, want0_c11, rfl, hrest⟩ := rdForkEvidence.1 ((kS rForkEvidence).own_rd Owant0.out)
      clear hrest
      have HB5 := Lib.hid (Below.next HB4.out hb5)
      have hs5 := hb5.size
      have AJ5 := Lib.hid hb5; clear hb5
      have pxgr0_5 := box_at BXgr0.out HB5.out
      clear pxgr0_4
      have pxgr1_5 := box_at BXgr1.out HB5.out
      clear pxgr1_4
      have pxgr2_5 := box_at BXgr2.out HB5.out
      clear pxgr2_4
      have zl0 : w.heap.size < w5.heap.size := World.block_lt_of_cell? _ _ pxgr0_5
      go_wp2_with fail
      clear zl0
      obtain ⟨w6, hw6⟩ : ∃ u, u = w5.alloc (.cells #[.int .i64 lR0.first.author, .int .i64 lR0.first.size, .int .i64 lR0.first.root, .slice want0_a3 want0_n3 want0_c3, .slice want0_a4 want0_n4 want0_c4, .slice want0_a5 want0_n5 want0_c5, .int .i64 lR0.second.author, .int .i64 lR0.second.size, .int .i64 lR0.second.root, .slice want0_a9 want0_n9 want0_c9, .slice want0_a10 want0_n10 want0_c10, .slice want0_a11 want0_n11 want0_c11] 58) := ⟨_, rfl⟩
      rw [← hw6]
      have hb6 : Below w5.heap.size w5 w6 := by rw [hw6]; exact (Below.refl _ _).alloc (Nat.le_refl _) _
      have hlt6 : w5.heap.size < w6.heap.size := by rw [hw6]; simp
      have pxwant00_6 : w6.cell? ⟨w5.heap.size, 0, none⟩ = some (.int .i64 lR0.first.author) := by rw [hw6]; simp [go_sem]
      have pxwant01_6 : w6.cell? ⟨w5.heap.size, 1, none⟩ = some (.int .i64 lR0.first.size) := by rw [hw6]; simp [go_sem]
      have pxwant02_6 : w6.cell? ⟨w5.heap.size, 2, none⟩ = some (.int .i64 lR0.first.root) := by rw [hw6]; simp [go_sem]
      have pxwant03_6 : w6.cell? ⟨w5.heap.size, 3, none⟩ = some (.slice want0_a3 want0_n3 want0_c3) := by rw [hw6]; simp [go_sem]
      have pxwant04_6 : w6.cell? ⟨w5.heap.size, 4, none⟩ = some (.slice want0_a4 want0_n4 want0_c4) := by rw [hw6]; simp [go_sem]
      have pxwant05_6 : w6.cell? ⟨w5.heap.size, 5, none⟩ = some (.slice want0_a5 want0_n5 want0_c5) := by rw [hw6]; simp [go_sem]
      have pxwant06_6 : w6.cell? ⟨w5.heap.size, 6, none⟩ = some (.int .i64 lR0.second.author) := by rw [hw6]; simp [go_sem]
      have pxwant07_6 : w6.cell? ⟨w5.heap.size, 7, none⟩ = some (.int .i64 lR0.second.size) := by rw [hw6]; simp [go_sem]
      have pxwant08_6 : w6.cell? ⟨w5.heap.size, 8, none⟩ = some (.int .i64 lR0.second.root) := by rw [hw6]; simp [go_sem]
      have pxwant09_6 : w6.cell? ⟨w5.heap.size, 9, none⟩ = some (.slice want0_a9 want0_n9 want0_c9) := by rw [hw6]; simp [go_sem]
      have pxwant010_6 : w6.cell? ⟨w5.heap.size, 10, none⟩ = some (.slice want0_a10 want0_n10 want0_c10) := by rw [hw6]; simp [go_sem]
      have pxwant011_6 : w6.cell? ⟨w5.heap.size, 11, none⟩ = some (.slice want0_a11 want0_n11 want0_c11) := by rw [hw6]; simp [go_sem]
      clear hw6
      have HB6 := Lib.hid (Below.next HB5.out hb6)
      have hs6 := hb6.size
      have AJ6 := Lib.hid hb6; clear hb6
      have pxgr0_6 := box_at BXgr0.out HB6.out
      clear pxgr0_5
      have pxgr1_6 := box_at BXgr1.out HB6.out
      clear pxgr1_5
      have pxgr2_6 := box_at BXgr2.out HB6.out
      clear pxgr2_5
      refine (laws_toIntS _ lkeys _ (Hkeys.out.below HB6.out) (by rw [HLkeys.out]; omega)).mono ?_
      rintro e w7 ⟨xkeys, rfl, hX, hb7⟩
      have Oxkeys := Lib.hid (InI.of_own hX); clear hX
      have HB7 := Lib.hid (Below.next HB6.out hb7)
      have hs7 := hb7.size
      have AJ7 := Lib.hid hb7; clear hb7
      have pxgr0_7 := box_at BXgr0.out HB7.out
      clear pxgr0_6
      have pxgr1_7 := box_at BXgr1.out HB7.out
      clear pxgr1_6
      have pxgr2_7 := box_at BXgr2.out HB7.out
      clear pxgr2_6
      have pxwant00_7 := box_at pxwant00_6 AJ7.out
      clear pxwant00_6
      have pxwant01_7 := box_at pxwant01_6 AJ7.out
      clear pxwant01_6
      have pxwant02_7 := box_at pxwant02_6 AJ7.out
      clear pxwant02_6
      have pxwant03_7 := box_at pxwant03_6 AJ7.out
      clear pxwant03_6
      have pxwant04_7 := box_at pxwant04_6 AJ7.out
      clear pxwant04_6
      have pxwant05_7 := box_at pxwant05_6 AJ7.out
      clear pxwant05_6
      have pxwant06_7 := box_at pxwant06_6 AJ7.out
      clear pxwant06_6
      have pxwant07_7 := box_at pxwant07_6 AJ7.out
      clear pxwant07_6
      have pxwant08_7 := box_at pxwant08_6 AJ7.out
      clear pxwant08_6
      have pxwant09_7 := box_at pxwant09_6 AJ7.out
      clear pxwant09_6
      have pxwant010_7 := box_at pxwant010_6 AJ7.out
      clear pxwant010_6
      have pxwant011_7 := box_at pxwant011_6 AJ7.out
      clear pxwant011_6
      go_wp2_with fail
      refine (laws_toHeadS _ lheads _ ((kR 44 rHead).rd_below Hheads.out HB7.out) HZheads.out).mono ?_
      rintro e w8 ⟨xheads, rfl, hX, hb8⟩
      have Oxheads := Lib.hid (hX); clear hX
      have HB8 := Lib.hid (Below.next HB7.out hb8)
      have hs8 := hb8.size
      have AJ8 := Lib.hid hb8; clear hb8
      have pxgr0_8 := box_at BXgr0.out HB8.out
      clear pxgr0_7
      have pxgr1_8 := box_at BXgr1.out HB8.out
      clear pxgr1_7
      have pxgr2_8 := box_at BXgr2.out HB8.out
      clear pxgr2_7
      have pxwant00_8 := box_at pxwant00_7 AJ8.out
      clear pxwant00_7
      have pxwant01_8 := box_at pxwant01_7 AJ8.out
      clear pxwant01_7
      have pxwant02_8 := box_at pxwant02_7 AJ8.out
      clear pxwant02_7
      have pxwant03_8 := box_at pxwant03_7 AJ8.out
      clear pxwant03_7
      have pxwant04_8 := box_at pxwant04_7 AJ8.out
      clear pxwant04_7
      have pxwant05_8 := box_at pxwant05_7 AJ8.out
      clear pxwant05_7
      have pxwant06_8 := box_at pxwant06_7 AJ8.out
      clear pxwant06_7
      have pxwant07_8 := box_at pxwant07_7 AJ8.out
      clear pxwant07_7
      have pxwant08_8 := box_at pxwant08_7 AJ8.out
      clear pxwant08_7
      have pxwant09_8 := box_at pxwant09_7 AJ8.out
      clear pxwant09_7
      have pxwant010_8 := box_at pxwant010_7 AJ8.out
      clear pxwant010_7
      have pxwant011_8 := box_at pxwant011_7 AJ8.out
      clear pxwant011_7
      go_wp2_with fail
      refine (laws_toGroup gr _).mono ?_
      rintro e w9 ⟨rfl, hb9⟩
      have HB9 := Lib.hid (Below.next HB8.out hb9)
      have hs9 := hb9.size
      have AJ9 := Lib.hid hb9; clear hb9
      have pxgr0_9 := box_at BXgr0.out HB9.out
      clear pxgr0_8
      have pxgr1_9 := box_at BXgr1.out HB9.out
      clear pxgr1_8
      have pxgr2_9 := box_at BXgr2.out HB9.out
      clear pxgr2_8
      have pxwant00_9 := box_at pxwant00_8 AJ9.out
      clear pxwant00_8
      have pxwant01_9 := box_at pxwant01_8 AJ9.out
      clear pxwant01_8
      have pxwant02_9 := box_at pxwant02_8 AJ9.out
      clear pxwant02_8
      have pxwant03_9 := box_at pxwant03_8 AJ9.out
      clear pxwant03_8
      have pxwant04_9 := box_at pxwant04_8 AJ9.out
      clear pxwant04_8
      have pxwant05_9 := box_at pxwant05_8 AJ9.out
      clear pxwant05_8
      have pxwant06_9 := box_at pxwant06_8 AJ9.out
      clear pxwant06_8
      have pxwant07_9 := box_at pxwant07_8 AJ9.out
      clear pxwant07_8
      have pxwant08_9 := box_at pxwant08_8 AJ9.out
      clear pxwant08_8
      have pxwant09_9 := box_at pxwant09_8 AJ9.out
      clear pxwant09_8
      have pxwant010_9 := box_at pxwant010_8 AJ9.out
      clear pxwant010_8
      have pxwant011_9 := box_at pxwant011_8 AJ9.out
      clear pxwant011_8
      go_wp2_with fail
      refine (impl_FindFork gr _ lkeys _ lheads _ ((Oxkeys.out.next AJ8.out).next AJ9.out).reads HZheads.out ((kR 44 rHead).own_rd (Kind.next (K := (kR 44 rHead).toKind) Oxheads.out AJ9.out))).mono ?_
      rintro e w10 ⟨got0, rfl, hXgot0, hb10⟩
      rw [HR0.out] at hXgot0
      have Ogot0 := Lib.hid hXgot0; clear hXgot0
      obtain ⟨got0_a3, got0_n3, got0_c3, got0_a4, got0_n4, got0_c4, got0_a5, got0_n5, got0_c5, got0_a9, got0_n9, got0_c9, got0_a10, got0_n10, got0_c10, got0_a11, got0_n11, got0_c11, rfl, hrest⟩ := rdForkEvidence.1 ((kS rForkEvidence).own_rd Ogot0.out)
      clear hrest
      have HB10 := Lib.hid (Below.next HB9.out hb10)
      have hs10 := hb10.size
      have AJ10 := Lib.hid hb10; clear hb10
      have pxgr0_10 := box_at BXgr0.out HB10.out
      clear pxgr0_9
      have pxgr1_10 := box_at BXgr1.out HB10.out
      clear pxgr1_9
      have pxgr2_10 := box_at BXgr2.out HB10.out
      clear pxgr2_9
      have pxwant00_10 := box_at pxwant00_9 AJ10.out
      clear pxwant00_9
      have pxwant01_10 := box_at pxwant01_9 AJ10.out
      clear pxwant01_9
      have pxwant02_10 := box_at pxwant02_9 AJ10.out
      clear pxwant02_9
      have pxwant03_10 := box_at pxwant03_9 AJ10.out
      clear pxwant03_9
      have pxwant04_10 := box_at pxwant04_9 AJ10.out
      clear pxwant04_9
      have pxwant05_10 := box_at pxwant05_9 AJ10.out
      clear pxwant05_9
      have pxwant06_10 := box_at pxwant06_9 AJ10.out
      clear pxwant06_9
      have pxwant07_10 := box_at pxwant07_9 AJ10.out
      clear pxwant07_9
      have pxwant08_10 := box_at pxwant08_9 AJ10.out
      clear pxwant08_9
      have pxwant09_10 := box_at pxwant09_9 AJ10.out
      clear pxwant09_9
      have pxwant010_10 := box_at pxwant010_9 AJ10.out
      clear pxwant010_9
      have pxwant011_10 := box_at pxwant011_9 AJ10.out
      clear pxwant011_9
      have zl0 : w.heap.size < w10.heap.size := World.block_lt_of_cell? _ _ pxgr0_10
      have zl1 : w5.heap.size < w10.heap.size := World.block_lt_of_cell? _ _ pxwant00_10
      go_wp2_with fail
      clear zl0 zl1
      obtain ⟨w11, hw11⟩ : ∃ u, u = w10.alloc (.cells #[.int .i64 lR0.first.author, .int .i64 lR0.first.size, .int .i64 lR0.first.root, .slice got0_a3 got0_n3 got0_c3, .slice got0_a4 got0_n4 got0_c4, .slice got0_a5 got0_n5 got0_c5, .int .i64 lR0.second.author, .int .i64 lR0.second.size, .int .i64 lR0.second.root, .slice got0_a9 got0_n9 got0_c9, .slice got0_a10 got0_n10 got0_c10, .slice got0_a11 got0_n11 got0_c11] 58) := ⟨_, rfl⟩
      rw [← hw11]
      have hb11 : Below w10.heap.size w10 w11 := by rw [hw11]; exact (Below.refl _ _).alloc (Nat.le_refl _) _
      have hlt11 : w10.heap.size < w11.heap.size := by rw [hw11]; simp
      have pxgot00_11 : w11.cell? ⟨w10.heap.size, 0, none⟩ = some (.int .i64 lR0.first.author) := by rw [hw11]; simp [go_sem]
      have pxgot01_11 : w11.cell? ⟨w10.heap.size, 1, none⟩ = some (.int .i64 lR0.first.size) := by rw [hw11]; simp [go_sem]
      have pxgot02_11 : w11.cell? ⟨w10.heap.size, 2, none⟩ = some (.int .i64 lR0.first.root) := by rw [hw11]; simp [go_sem]
      have pxgot03_11 : w11.cell? ⟨w10.heap.size, 3, none⟩ = some (.slice got0_a3 got0_n3 got0_c3) := by rw [hw11]; simp [go_sem]
      have pxgot04_11 : w11.cell? ⟨w10.heap.size, 4, none⟩ = some (.slice got0_a4 got0_n4 got0_c4) := by rw [hw11]; simp [go_sem]
      have pxgot05_11 : w11.cell? ⟨w10.heap.size, 5, none⟩ = some (.slice got0_a5 got0_n5 got0_c5) := by rw [hw11]; simp [go_sem]
      have pxgot06_11 : w11.cell? ⟨w10.heap.size, 6, none⟩ = some (.int .i64 lR0.second.author) := by rw [hw11]; simp [go_sem]
      have pxgot07_11 : w11.cell? ⟨w10.heap.size, 7, none⟩ = some (.int .i64 lR0.second.size) := by rw [hw11]; simp [go_sem]
      have pxgot08_11 : w11.cell? ⟨w10.heap.size, 8, none⟩ = some (.int .i64 lR0.second.root) := by rw [hw11]; simp [go_sem]
      have pxgot09_11 : w11.cell? ⟨w10.heap.size, 9, none⟩ = some (.slice got0_a9 got0_n9 got0_c9) := by rw [hw11]; simp [go_sem]
      have pxgot010_11 : w11.cell? ⟨w10.heap.size, 10, none⟩ = some (.slice got0_a10 got0_n10 got0_c10) := by rw [hw11]; simp [go_sem]
      have pxgot011_11 : w11.cell? ⟨w10.heap.size, 11, none⟩ = some (.slice got0_a11 got0_n11 got0_c11) := by rw [hw11]; simp [go_sem]
      clear hw11
      have HB11 := Lib.hid (Below.next HB10.out hb11)
      have hs11 := hb11.size
      have AJ11 := Lib.hid hb11; clear hb11
      have pxgr0_11 := box_at BXgr0.out HB11.out
      clear pxgr0_10
      have pxgr1_11 := box_at BXgr1.out HB11.out
      clear pxgr1_10
      have pxgr2_11 := box_at BXgr2.out HB11.out
      clear pxgr2_10
      have pxwant00_11 := box_at pxwant00_10 AJ11.out
      clear pxwant00_10
      have pxwant01_11 := box_at pxwant01_10 AJ11.out
      clear pxwant01_10
      have pxwant02_11 := box_at pxwant02_10 AJ11.out
      clear pxwant02_10
      have pxwant03_11 := box_at pxwant03_10 AJ11.out
      clear pxwant03_10
      have pxwant04_11 := box_at pxwant04_10 AJ11.out
      clear pxwant04_10
      have pxwant05_11 := box_at pxwant05_10 AJ11.out
      clear pxwant05_10
      have pxwant06_11 := box_at pxwant06_10 AJ11.out
      clear pxwant06_10
      have pxwant07_11 := box_at pxwant07_10 AJ11.out
      clear pxwant07_10
      have pxwant08_11 := box_at pxwant08_10 AJ11.out
      clear pxwant08_10
      have pxwant09_11 := box_at pxwant09_10 AJ11.out
      clear pxwant09_10
      have pxwant010_11 := box_at pxwant010_10 AJ11.out
      clear pxwant010_10
      have pxwant011_11 := box_at pxwant011_10 AJ11.out
      clear pxwant011_10
      refine (laws_eqForkEvidence _ _ _ _ _ ((kS rForkEvidence).own_rd (Kind.next (K := kS rForkEvidence) Ogot0.out AJ11.out)) ((kS rForkEvidence).own_rd (Kind.next (K := kS rForkEvidence) (Kind.next (K := kS rForkEvidence) (Kind.next (K := kS rForkEvidence) (Kind.next (K := kS rForkEvidence) (Kind.next (K := kS rForkEvidence) (Kind.next (K := kS rForkEvidence) Owant0.out AJ6.out) AJ7.out) AJ8.out) AJ9.out) AJ10.out) AJ11.out))).mono ?_
      rintro e w12 ⟨rfl, hb12⟩
      rw [decide_eq_true rfl]
      have HB12 := Lib.hid (Below.next HB11.out hb12)
      have hs12 := hb12.size
      have AJ12 := Lib.hid hb12; clear hb12
      have pxgr0_12 := box_at BXgr0.out HB12.out
      clear pxgr0_11
      have pxgr1_12 := box_at BXgr1.out HB12.out
      clear pxgr1_11
      have pxgr2_12 := box_at BXgr2.out HB12.out
      clear pxgr2_11
      have pxwant00_12 := box_at pxwant00_11 AJ12.out
      clear pxwant00_11
      have pxwant01_12 := box_at pxwant01_11 AJ12.out
      clear pxwant01_11
      have pxwant02_12 := box_at pxwant02_11 AJ12.out
      clear pxwant02_11
      have pxwant03_12 := box_at pxwant03_11 AJ12.out
      clear pxwant03_11
      have pxwant04_12 := box_at pxwant04_11 AJ12.out
      clear pxwant04_11
      have pxwant05_12 := box_at pxwant05_11 AJ12.out
      clear pxwant05_11
      have pxwant06_12 := box_at pxwant06_11 AJ12.out
      clear pxwant06_11
      have pxwant07_12 := box_at pxwant07_11 AJ12.out
      clear pxwant07_11
      have pxwant08_12 := box_at pxwant08_11 AJ12.out
      clear pxwant08_11
      have pxwant09_12 := box_at pxwant09_11 AJ12.out
      clear pxwant09_11
      have pxwant010_12 := box_at pxwant010_11 AJ12.out
      clear pxwant010_11
      have pxwant011_12 := box_at pxwant011_11 AJ12.out
      clear pxwant011_11
      have pxgot00_12 := box_at pxgot00_11 AJ12.out
      clear pxgot00_11
      have pxgot01_12 := box_at pxgot01_11 AJ12.out
      clear pxgot01_11
      have pxgot02_12 := box_at pxgot02_11 AJ12.out
      clear pxgot02_11
      have pxgot03_12 := box_at pxgot03_11 AJ12.out
      clear pxgot03_11
      have pxgot04_12 := box_at pxgot04_11 AJ12.out
      clear pxgot04_11
      have pxgot05_12 := box_at pxgot05_11 AJ12.out
      clear pxgot05_11
      have pxgot06_12 := box_at pxgot06_11 AJ12.out
      clear pxgot06_11
      have pxgot07_12 := box_at pxgot07_11 AJ12.out
      clear pxgot07_11
      have pxgot08_12 := box_at pxgot08_11 AJ12.out
      clear pxgot08_11
      have pxgot09_12 := box_at pxgot09_11 AJ12.out
      clear pxgot09_11
      have pxgot010_12 := box_at pxgot010_11 AJ12.out
      clear pxgot010_11
      have pxgot011_12 := box_at pxgot011_11 AJ12.out
      clear pxgot011_11
      go_wp2_with fail
      refine (laws_toIntS _ lkeys _ (Hkeys.out.below HB12.out) (by rw [HLkeys.out]; omega)).mono ?_
      rintro e w13 ⟨ykeys, rfl, hX, hb13⟩
      have Oykeys := Lib.hid (InI.of_own hX); clear hX
      have HB13 := Lib.hid (Below.next HB12.out hb13)
      have hs13 := hb13.size
      have AJ13 := Lib.hid hb13; clear hb13
      have pxgr0_13 := box_at BXgr0.out HB13.out
      clear pxgr0_12
      have pxgr1_13 := box_at BXgr1.out HB13.out
      clear pxgr1_12
      have pxgr2_13 := box_at BXgr2.out HB13.out
      clear pxgr2_12
      have pxwant00_13 := box_at pxwant00_12 AJ13.out
      clear pxwant00_12
      have pxwant01_13 := box_at pxwant01_12 AJ13.out
      clear pxwant01_12
      have pxwant02_13 := box_at pxwant02_12 AJ13.out
      clear pxwant02_12
      have pxwant03_13 := box_at pxwant03_12 AJ13.out
      clear pxwant03_12
      have pxwant04_13 := box_at pxwant04_12 AJ13.out
      clear pxwant04_12
      have pxwant05_13 := box_at pxwant05_12 AJ13.out
      clear pxwant05_12
      have pxwant06_13 := box_at pxwant06_12 AJ13.out
      clear pxwant06_12
      have pxwant07_13 := box_at pxwant07_12 AJ13.out
      clear pxwant07_12
      have pxwant08_13 := box_at pxwant08_12 AJ13.out
      clear pxwant08_12
      have pxwant09_13 := box_at pxwant09_12 AJ13.out
      clear pxwant09_12
      have pxwant010_13 := box_at pxwant010_12 AJ13.out
      clear pxwant010_12
      have pxwant011_13 := box_at pxwant011_12 AJ13.out
      clear pxwant011_12
      have pxgot00_13 := box_at pxgot00_12 AJ13.out
      clear pxgot00_12
      have pxgot01_13 := box_at pxgot01_12 AJ13.out
      clear pxgot01_12
      have pxgot02_13 := box_at pxgot02_12 AJ13.out
      clear pxgot02_12
      have pxgot03_13 := box_at pxgot03_12 AJ13.out
      clear pxgot03_12
      have pxgot04_13 := box_at pxgot04_12 AJ13.out
      clear pxgot04_12
      have pxgot05_13 := box_at pxgot05_12 AJ13.out
      clear pxgot05_12
      have pxgot06_13 := box_at pxgot06_12 AJ13.out
      clear pxgot06_12
      have pxgot07_13 := box_at pxgot07_12 AJ13.out
      clear pxgot07_12
      have pxgot08_13 := box_at pxgot08_12 AJ13.out
      clear pxgot08_12
      have pxgot09_13 := box_at pxgot09_12 AJ13.out
      clear pxgot09_12
      have pxgot010_13 := box_at pxgot010_12 AJ13.out
      clear pxgot010_12
      have pxgot011_13 := box_at pxgot011_12 AJ13.out
      clear pxgot011_12
      go_wp2_with fail
      refine (laws_eqIntS _ _ _ _ _ ((((((Oxkeys.out.next AJ8.out).next AJ9.out).next AJ10.out).next AJ11.out).next AJ12.out).next AJ13.out).reads Oykeys.out.reads).mono ?_
      rintro e w14 ⟨rfl, m14, hw14⟩
      have hb14 := Below.drewOf hw14; clear hw14
      rw [decide_eq_true rfl]
      have HB14 := Lib.hid (Below.next HB13.out hb14)
      have hs14 := hb14.size
      have AJ14 := Lib.hid hb14; clear hb14
      have pxgr0_14 := box_at BXgr0.out HB14.out
      clear pxgr0_13
      have pxgr1_14 := box_at BXgr1.out HB14.out
      clear pxgr1_13
      have pxgr2_14 := box_at BXgr2.out HB14.out
      clear pxgr2_13
      have pxwant00_14 := box_at pxwant00_13 AJ14.out
      clear pxwant00_13
      have pxwant01_14 := box_at pxwant01_13 AJ14.out
      clear pxwant01_13
      have pxwant02_14 := box_at pxwant02_13 AJ14.out
      clear pxwant02_13
      have pxwant03_14 := box_at pxwant03_13 AJ14.out
      clear pxwant03_13
      have pxwant04_14 := box_at pxwant04_13 AJ14.out
      clear pxwant04_13
      have pxwant05_14 := box_at pxwant05_13 AJ14.out
      clear pxwant05_13
      have pxwant06_14 := box_at pxwant06_13 AJ14.out
      clear pxwant06_13
      have pxwant07_14 := box_at pxwant07_13 AJ14.out
      clear pxwant07_13
      have pxwant08_14 := box_at pxwant08_13 AJ14.out
      clear pxwant08_13
      have pxwant09_14 := box_at pxwant09_13 AJ14.out
      clear pxwant09_13
      have pxwant010_14 := box_at pxwant010_13 AJ14.out
      clear pxwant010_13
      have pxwant011_14 := box_at pxwant011_13 AJ14.out
      clear pxwant011_13
      have pxgot00_14 := box_at pxgot00_13 AJ14.out
      clear pxgot00_13
      have pxgot01_14 := box_at pxgot01_13 AJ14.out
      clear pxgot01_13
      have pxgot02_14 := box_at pxgot02_13 AJ14.out
      clear pxgot02_13
      have pxgot03_14 := box_at pxgot03_13 AJ14.out
      clear pxgot03_13
      have pxgot04_14 := box_at pxgot04_13 AJ14.out
      clear pxgot04_13
      have pxgot05_14 := box_at pxgot05_13 AJ14.out
      clear pxgot05_13
      have pxgot06_14 := box_at pxgot06_13 AJ14.out
      clear pxgot06_13
      have pxgot07_14 := box_at pxgot07_13 AJ14.out
      clear pxgot07_13
      have pxgot08_14 := box_at pxgot08_13 AJ14.out
      clear pxgot08_13
      have pxgot09_14 := box_at pxgot09_13 AJ14.out
      clear pxgot09_13
      have pxgot010_14 := box_at pxgot010_13 AJ14.out
      clear pxgot010_13
      have pxgot011_14 := box_at pxgot011_13 AJ14.out
      clear pxgot011_13
      go_wp2_with fail
      refine (laws_toHeadS _ lheads _ ((kR 44 rHead).rd_below Hheads.out HB14.out) HZheads.out).mono ?_
      rintro e w15 ⟨yheads, rfl, hX, hb15⟩
      have Oyheads := Lib.hid (hX); clear hX
      have HB15 := Lib.hid (Below.next HB14.out hb15)
      have hs15 := hb15.size
      have AJ15 := Lib.hid hb15; clear hb15
      have pxgr0_15 := box_at BXgr0.out HB15.out
      clear pxgr0_14
      have pxgr1_15 := box_at BXgr1.out HB15.out
      clear pxgr1_14
      have pxgr2_15 := box_at BXgr2.out HB15.out
      clear pxgr2_14
      have pxwant00_15 := box_at pxwant00_14 AJ15.out
      clear pxwant00_14
      have pxwant01_15 := box_at pxwant01_14 AJ15.out
      clear pxwant01_14
      have pxwant02_15 := box_at pxwant02_14 AJ15.out
      clear pxwant02_14
      have pxwant03_15 := box_at pxwant03_14 AJ15.out
      clear pxwant03_14
      have pxwant04_15 := box_at pxwant04_14 AJ15.out
      clear pxwant04_14
      have pxwant05_15 := box_at pxwant05_14 AJ15.out
      clear pxwant05_14
      have pxwant06_15 := box_at pxwant06_14 AJ15.out
      clear pxwant06_14
      have pxwant07_15 := box_at pxwant07_14 AJ15.out
      clear pxwant07_14
      have pxwant08_15 := box_at pxwant08_14 AJ15.out
      clear pxwant08_14
      have pxwant09_15 := box_at pxwant09_14 AJ15.out
      clear pxwant09_14
      have pxwant010_15 := box_at pxwant010_14 AJ15.out
      clear pxwant010_14
      have pxwant011_15 := box_at pxwant011_14 AJ15.out
      clear pxwant011_14
      have pxgot00_15 := box_at pxgot00_14 AJ15.out
      clear pxgot00_14
      have pxgot01_15 := box_at pxgot01_14 AJ15.out
      clear pxgot01_14
      have pxgot02_15 := box_at pxgot02_14 AJ15.out
      clear pxgot02_14
      have pxgot03_15 := box_at pxgot03_14 AJ15.out
      clear pxgot03_14
      have pxgot04_15 := box_at pxgot04_14 AJ15.out
      clear pxgot04_14
      have pxgot05_15 := box_at pxgot05_14 AJ15.out
      clear pxgot05_14
      have pxgot06_15 := box_at pxgot06_14 AJ15.out
      clear pxgot06_14
      have pxgot07_15 := box_at pxgot07_14 AJ15.out
      clear pxgot07_14
      have pxgot08_15 := box_at pxgot08_14 AJ15.out
      clear pxgot08_14
      have pxgot09_15 := box_at pxgot09_14 AJ15.out
      clear pxgot09_14
      have pxgot010_15 := box_at pxgot010_14 AJ15.out
      clear pxgot010_14
      have pxgot011_15 := box_at pxgot011_14 AJ15.out
      clear pxgot011_14
      go_wp2_with fail
      refine (laws_eqHeadS _ _ _ _ _ ((kR 44 rHead).own_rd (Kind.next (K := (kR 44 rHead).toKind) (Kind.next (K := (kR 44 rHead).toKind) (Kind.next (K := (kR 44 rHead).toKind) (Kind.next (K := (kR 44 rHead).toKind) (Kind.next (K := (kR 44 rHead).toKind) (Kind.next (K := (kR 44 rHead).toKind) (Kind.next (K := (kR 44 rHead).toKind) Oxheads.out AJ9.out) AJ10.out) AJ11.out) AJ12.out) AJ13.out) AJ14.out) AJ15.out)) ((kR 44 rHead).own_rd Oyheads.out)).mono ?_
      rintro e w16 ⟨rfl, hb16⟩
      rw [decide_eq_true rfl]
      have HB16 := Lib.hid (Below.next HB15.out hb16)
      have hs16 := hb16.size
      have AJ16 := Lib.hid hb16; clear hb16
      have pxgr0_16 := box_at BXgr0.out HB16.out
      clear pxgr0_15
      have pxgr1_16 := box_at BXgr1.out HB16.out
      clear pxgr1_15
      have pxgr2_16 := box_at BXgr2.out HB16.out
      clear pxgr2_15
      have pxwant00_16 := box_at pxwant00_15 AJ16.out
      clear pxwant00_15
      have pxwant01_16 := box_at pxwant01_15 AJ16.out
      clear pxwant01_15
      have pxwant02_16 := box_at pxwant02_15 AJ16.out
      clear pxwant02_15
      have pxwant03_16 := box_at pxwant03_15 AJ16.out
      clear pxwant03_15
      have pxwant04_16 := box_at pxwant04_15 AJ16.out
      clear pxwant04_15
      have pxwant05_16 := box_at pxwant05_15 AJ16.out
      clear pxwant05_15
      have pxwant06_16 := box_at pxwant06_15 AJ16.out
      clear pxwant06_15
      have pxwant07_16 := box_at pxwant07_15 AJ16.out
      clear pxwant07_15
      have pxwant08_16 := box_at pxwant08_15 AJ16.out
      clear pxwant08_15
      have pxwant09_16 := box_at pxwant09_15 AJ16.out
      clear pxwant09_15
      have pxwant010_16 := box_at pxwant010_15 AJ16.out
      clear pxwant010_15
      have pxwant011_16 := box_at pxwant011_15 AJ16.out
      clear pxwant011_15
      have pxgot00_16 := box_at pxgot00_15 AJ16.out
      clear pxgot00_15
      have pxgot01_16 := box_at pxgot01_15 AJ16.out
      clear pxgot01_15
      have pxgot02_16 := box_at pxgot02_15 AJ16.out
      clear pxgot02_15
      have pxgot03_16 := box_at pxgot03_15 AJ16.out
      clear pxgot03_15
      have pxgot04_16 := box_at pxgot04_15 AJ16.out
      clear pxgot04_15
      have pxgot05_16 := box_at pxgot05_15 AJ16.out
      clear pxgot05_15
      have pxgot06_16 := box_at pxgot06_15 AJ16.out
      clear pxgot06_15
      have pxgot07_16 := box_at pxgot07_15 AJ16.out
      clear pxgot07_15
      have pxgot08_16 := box_at pxgot08_15 AJ16.out
      clear pxgot08_15
      have pxgot09_16 := box_at pxgot09_15 AJ16.out
      clear pxgot09_15
      have pxgot010_16 := box_at pxgot010_15 AJ16.out
      clear pxgot010_15
      have pxgot011_16 := box_at pxgot011_15 AJ16.out
      clear pxgot011_15
      go_wp2_with fail
      refine (laws_markIntS_in _ _ _ 1 _ _ (((((((((Oxkeys.out.next AJ8.out).next AJ9.out).next AJ10.out).next AJ11.out).next AJ12.out).next AJ13.out).next AJ14.out).next AJ15.out).next AJ16.out) (by omega) (by have := HLkeys.out; omega)).mono ?_
      rintro e w17 ⟨rfl, hX, hG17⟩
      have Oxkeysm := Lib.hid hX; clear hX
      have hs17 := hG17.size
      have HB17 := Lib.hid (HB16.out.trans (hG17.below (B := W.heap.size) (by omega) (by omega)))
      have HG17 := Lib.hid hG17; clear hG17
      have pxgr0_17 := box_at BXgr0.out HB17.out
      clear pxgr0_16
      have pxgr1_17 := box_at BXgr1.out HB17.out
      clear pxgr1_16
      have pxgr2_17 := box_at BXgr2.out HB17.out
      clear pxgr2_16
      have pxwant00_17 := within_at HG17.out pxwant00_16 (by omega)
      clear pxwant00_16
      have pxwant01_17 := within_at HG17.out pxwant01_16 (by omega)
      clear pxwant01_16
      have pxwant02_17 := within_at HG17.out pxwant02_16 (by omega)
      clear pxwant02_16
      have pxwant03_17 := within_at HG17.out pxwant03_16 (by omega)
      clear pxwant03_16
      have pxwant04_17 := within_at HG17.out pxwant04_16 (by omega)
      clear pxwant04_16
      have pxwant05_17 := within_at HG17.out pxwant05_16 (by omega)
      clear pxwant05_16
      have pxwant06_17 := within_at HG17.out pxwant06_16 (by omega)
      clear pxwant06_16
      have pxwant07_17 := within_at HG17.out pxwant07_16 (by omega)
      clear pxwant07_16
      have pxwant08_17 := within_at HG17.out pxwant08_16 (by omega)
      clear pxwant08_16
      have pxwant09_17 := within_at HG17.out pxwant09_16 (by omega)
      clear pxwant09_16
      have pxwant010_17 := within_at HG17.out pxwant010_16 (by omega)
      clear pxwant010_16
      have pxwant011_17 := within_at HG17.out pxwant011_16 (by omega)
      clear pxwant011_16
      have pxgot00_17 := within_at HG17.out pxgot00_16 (by omega)
      clear pxgot00_16
      have pxgot01_17 := within_at HG17.out pxgot01_16 (by omega)
      clear pxgot01_16
      have pxgot02_17 := within_at HG17.out pxgot02_16 (by omega)
      clear pxgot02_16
      have pxgot03_17 := within_at HG17.out pxgot03_16 (by omega)
      clear pxgot03_16
      have pxgot04_17 := within_at HG17.out pxgot04_16 (by omega)
      clear pxgot04_16
      have pxgot05_17 := within_at HG17.out pxgot05_16 (by omega)
      clear pxgot05_16
      have pxgot06_17 := within_at HG17.out pxgot06_16 (by omega)
      clear pxgot06_16
      have pxgot07_17 := within_at HG17.out pxgot07_16 (by omega)
      clear pxgot07_16
      have pxgot08_17 := within_at HG17.out pxgot08_16 (by omega)
      clear pxgot08_16
      have pxgot09_17 := within_at HG17.out pxgot09_16 (by omega)
      clear pxgot09_16
      have pxgot010_17 := within_at HG17.out pxgot010_16 (by omega)
      clear pxgot010_16
      have pxgot011_17 := within_at HG17.out pxgot011_16 (by omega)
      clear pxgot011_16
      go_wp2_with fail
      refine (laws_markHeadS _ _ _ (1 + lkeys.length) _ _ (Kind.kept (K := (kR 44 rHead).toKind) (Kind.next (K := (kR 44 rHead).toKind) (Kind.next (K := (kR 44 rHead).toKind) (Kind.next (K := (kR 44 rHead).toKind) (Kind.next (K := (kR 44 rHead).toKind) (Kind.next (K := (kR 44 rHead).toKind) (Kind.next (K := (kR 44 rHead).toKind) (Kind.next (K := (kR 44 rHead).toKind) (Kind.next (K := (kR 44 rHead).toKind) Oxheads.out AJ9.out) AJ10.out) AJ11.out) AJ12.out) AJ13.out) AJ14.out) AJ15.out) AJ16.out) HG17.out (.inr (by omega))) (by have := HLkeys.out; have := HZheads.out; have := cnHeadS_le lheads; omega) (by omega)).mono ?_
      rintro e w18 ⟨rfl, hX, hG18⟩
      have Oxheadsm := Lib.hid hX; clear hX
      have hs18 := hG18.size
      have HB18 := Lib.hid (HB17.out.trans (hG18.below (B := W.heap.size) (by omega) (by omega)))
      have HG18 := Lib.hid hG18; clear hG18
      have pxgr0_18 := box_at BXgr0.out HB18.out
      clear pxgr0_17
      have pxgr1_18 := box_at BXgr1.out HB18.out
      clear pxgr1_17
      have pxgr2_18 := box_at BXgr2.out HB18.out
      clear pxgr2_17
      have pxwant00_18 := within_at HG18.out pxwant00_17 (by omega)
      clear pxwant00_17
      have pxwant01_18 := within_at HG18.out pxwant01_17 (by omega)
      clear pxwant01_17
      have pxwant02_18 := within_at HG18.out pxwant02_17 (by omega)
      clear pxwant02_17
      have pxwant03_18 := within_at HG18.out pxwant03_17 (by omega)
      clear pxwant03_17
      have pxwant04_18 := within_at HG18.out pxwant04_17 (by omega)
      clear pxwant04_17
      have pxwant05_18 := within_at HG18.out pxwant05_17 (by omega)
      clear pxwant05_17
      have pxwant06_18 := within_at HG18.out pxwant06_17 (by omega)
      clear pxwant06_17
      have pxwant07_18 := within_at HG18.out pxwant07_17 (by omega)
      clear pxwant07_17
      have pxwant08_18 := within_at HG18.out pxwant08_17 (by omega)
      clear pxwant08_17
      have pxwant09_18 := within_at HG18.out pxwant09_17 (by omega)
      clear pxwant09_17
      have pxwant010_18 := within_at HG18.out pxwant010_17 (by omega)
      clear pxwant010_17
      have pxwant011_18 := within_at HG18.out pxwant011_17 (by omega)
      clear pxwant011_17
      have pxgot00_18 := within_at HG18.out pxgot00_17 (by omega)
      clear pxgot00_17
      have pxgot01_18 := within_at HG18.out pxgot01_17 (by omega)
      clear pxgot01_17
      have pxgot02_18 := within_at HG18.out pxgot02_17 (by omega)
      clear pxgot02_17
      have pxgot03_18 := within_at HG18.out pxgot03_17 (by omega)
      clear pxgot03_17
      have pxgot04_18 := within_at HG18.out pxgot04_17 (by omega)
      clear pxgot04_17
      have pxgot05_18 := within_at HG18.out pxgot05_17 (by omega)
      clear pxgot05_17
      have pxgot06_18 := within_at HG18.out pxgot06_17 (by omega)
      clear pxgot06_17
      have pxgot07_18 := within_at HG18.out pxgot07_17 (by omega)
      clear pxgot07_17
      have pxgot08_18 := within_at HG18.out pxgot08_17 (by omega)
      clear pxgot08_17
      have pxgot09_18 := within_at HG18.out pxgot09_17 (by omega)
      clear pxgot09_17
      have pxgot010_18 := within_at HG18.out pxgot010_17 (by omega)
      clear pxgot010_17
      have pxgot011_18 := within_at HG18.out pxgot011_17 (by omega)
      clear pxgot011_17
      go_wp2_with fail
      refine (laws_eqForkEvidence _ _ _ _ _ ((kS rForkEvidence).own_rd (Kind.kept (K := kS rForkEvidence) (Kind.kept (K := kS rForkEvidence) (Kind.next (K := kS rForkEvidence) (Kind.next (K := kS rForkEvidence) (Kind.next (K := kS rForkEvidence) (Kind.next (K := kS rForkEvidence) (Kind.next (K := kS rForkEvidence) (Kind.next (K := kS rForkEvidence) Ogot0.out AJ11.out) AJ12.out) AJ13.out) AJ14.out) AJ15.out) AJ16.out) HG17.out (.inr (by omega))) HG18.out (.inr (by omega)))) ((kS rForkEvidence).own_rd (Kind.kept (K := kS rForkEvidence) (Kind.kept (K := kS rForkEvidence) (Kind.next (K := kS rForkEvidence) (Kind.next (K := kS rForkEvidence) (Kind.next (K := kS rForkEvidence) (Kind.next (K := kS rForkEvidence) (Kind.next (K := kS rForkEvidence) (Kind.next (K := kS rForkEvidence) (Kind.next (K := kS rForkEvidence) (Kind.next (K := kS rForkEvidence) (Kind.next (K := kS rForkEvidence) (Kind.next (K := kS rForkEvidence) (Kind.next (K := kS rForkEvidence) Owant0.out AJ6.out) AJ7.out) AJ8.out) AJ9.out) AJ10.out) AJ11.out) AJ12.out) AJ13.out) AJ14.out) AJ15.out) AJ16.out) HG17.out (.inl (by omega))) HG18.out (.inl (by omega))))).mono ?_
      rintro e w19 ⟨rfl, hb19⟩
      rw [decide_eq_true rfl]
      have HB19 := Lib.hid (Below.next HB18.out hb19)
      have hs19 := hb19.size
      have AJ19 := Lib.hid hb19; clear hb19
      have pxgr0_19 := box_at BXgr0.out HB19.out
      clear pxgr0_18
      have pxgr1_19 := box_at BXgr1.out HB19.out
      clear pxgr1_18
      have pxgr2_19 := box_at BXgr2.out HB19.out
      clear pxgr2_18
      have pxwant00_19 := box_at pxwant00_18 AJ19.out
      clear pxwant00_18
      have pxwant01_19 := box_at pxwant01_18 AJ19.out
      clear pxwant01_18
      have pxwant02_19 := box_at pxwant02_18 AJ19.out
      clear pxwant02_18
      have pxwant03_19 := box_at pxwant03_18 AJ19.out
      clear pxwant03_18
      have pxwant04_19 := box_at pxwant04_18 AJ19.out
      clear pxwant04_18
      have pxwant05_19 := box_at pxwant05_18 AJ19.out
      clear pxwant05_18
      have pxwant06_19 := box_at pxwant06_18 AJ19.out
      clear pxwant06_18
      have pxwant07_19 := box_at pxwant07_18 AJ19.out
      clear pxwant07_18
      have pxwant08_19 := box_at pxwant08_18 AJ19.out
      clear pxwant08_18
      have pxwant09_19 := box_at pxwant09_18 AJ19.out
      clear pxwant09_18
      have pxwant010_19 := box_at pxwant010_18 AJ19.out
      clear pxwant010_18
      have pxwant011_19 := box_at pxwant011_18 AJ19.out
      clear pxwant011_18
      have pxgot00_19 := box_at pxgot00_18 AJ19.out
      clear pxgot00_18
      have pxgot01_19 := box_at pxgot01_18 AJ19.out
      clear pxgot01_18
      have pxgot02_19 := box_at pxgot02_18 AJ19.out
      clear pxgot02_18
      have pxgot03_19 := box_at pxgot03_18 AJ19.out
      clear pxgot03_18
      have pxgot04_19 := box_at pxgot04_18 AJ19.out
      clear pxgot04_18
      have pxgot05_19 := box_at pxgot05_18 AJ19.out
      clear pxgot05_18
      have pxgot06_19 := box_at pxgot06_18 AJ19.out
      clear pxgot06_18
      have pxgot07_19 := box_at pxgot07_18 AJ19.out
      clear pxgot07_18
      have pxgot08_19 := box_at pxgot08_18 AJ19.out
      clear pxgot08_18
      have pxgot09_19 := box_at pxgot09_18 AJ19.out
      clear pxgot09_18
      have pxgot010_19 := box_at pxgot010_18 AJ19.out
      clear pxgot010_18
      have pxgot011_19 := box_at pxgot011_18 AJ19.out
      clear pxgot011_18
      have LG0 : Hid (1 + (cnForkEvidence (lR0)) ≤ 9223372036854775806) := HR0.out ▸ (show Hid (1 + (cnForkEvidence ((ffkE gr lkeys lheads))) ≤ 9223372036854775806) from by have := cnForkEvidence_le (ffkE gr lkeys lheads); have := sz_ffkE (gr := gr) (keys := lkeys) (hs := lheads); have := HZheads.out; unfold Hid; omega)
      go_wp2_with fail
      refine (laws_markForkEvidence _ _ _ 1 _ _ (Kind.next (K := kS rForkEvidence) (Kind.kept (K := kS rForkEvidence) (Kind.kept (K := kS rForkEvidence) (Kind.next (K := kS rForkEvidence) (Kind.next (K := kS rForkEvidence) (Kind.next (K := kS rForkEvidence) (Kind.next (K := kS rForkEvidence) (Kind.next (K := kS rForkEvidence) (Kind.next (K := kS rForkEvidence) Ogot0.out AJ11.out) AJ12.out) AJ13.out) AJ14.out) AJ15.out) AJ16.out) HG17.out (.inr (by omega))) HG18.out (.inr (by omega))) AJ19.out) (by exact LG0.out) (by omega)).mono ?_
      rintro e w20 ⟨rfl, hX, hG20⟩
      have Ogot0m := Lib.hid hX; clear hX
      have hs20 := hG20.size
      have HB20 := Lib.hid (HB19.out.trans (hG20.below (B := W.heap.size) (by omega) (by omega)))
      have HG20 := Lib.hid hG20; clear hG20
      have pxgr0_20 := box_at BXgr0.out HB20.out
      clear pxgr0_19
      have pxgr1_20 := box_at BXgr1.out HB20.out
      clear pxgr1_19
      have pxgr2_20 := box_at BXgr2.out HB20.out
      clear pxgr2_19
      have pxwant00_20 := within_at HG20.out pxwant00_19 (by omega)
      clear pxwant00_19
      have pxwant01_20 := within_at HG20.out pxwant01_19 (by omega)
      clear pxwant01_19
      have pxwant02_20 := within_at HG20.out pxwant02_19 (by omega)
      clear pxwant02_19
      have pxwant03_20 := within_at HG20.out pxwant03_19 (by omega)
      clear pxwant03_19
      have pxwant04_20 := within_at HG20.out pxwant04_19 (by omega)
      clear pxwant04_19
      have pxwant05_20 := within_at HG20.out pxwant05_19 (by omega)
      clear pxwant05_19
      have pxwant06_20 := within_at HG20.out pxwant06_19 (by omega)
      clear pxwant06_19
      have pxwant07_20 := within_at HG20.out pxwant07_19 (by omega)
      clear pxwant07_19
      have pxwant08_20 := within_at HG20.out pxwant08_19 (by omega)
      clear pxwant08_19
      have pxwant09_20 := within_at HG20.out pxwant09_19 (by omega)
      clear pxwant09_19
      have pxwant010_20 := within_at HG20.out pxwant010_19 (by omega)
      clear pxwant010_19
      have pxwant011_20 := within_at HG20.out pxwant011_19 (by omega)
      clear pxwant011_19
      have pxgot00_20 := within_at HG20.out pxgot00_19 (by omega)
      clear pxgot00_19
      have pxgot01_20 := within_at HG20.out pxgot01_19 (by omega)
      clear pxgot01_19
      have pxgot02_20 := within_at HG20.out pxgot02_19 (by omega)
      clear pxgot02_19
      have pxgot03_20 := within_at HG20.out pxgot03_19 (by omega)
      clear pxgot03_19
      have pxgot04_20 := within_at HG20.out pxgot04_19 (by omega)
      clear pxgot04_19
      have pxgot05_20 := within_at HG20.out pxgot05_19 (by omega)
      clear pxgot05_19
      have pxgot06_20 := within_at HG20.out pxgot06_19 (by omega)
      clear pxgot06_19
      have pxgot07_20 := within_at HG20.out pxgot07_19 (by omega)
      clear pxgot07_19
      have pxgot08_20 := within_at HG20.out pxgot08_19 (by omega)
      clear pxgot08_19
      have pxgot09_20 := within_at HG20.out pxgot09_19 (by omega)
      clear pxgot09_19
      have pxgot010_20 := within_at HG20.out pxgot010_19 (by omega)
      clear pxgot010_19
      have pxgot011_20 := within_at HG20.out pxgot011_19 (by omega)
      clear pxgot011_19
      go_wp2_with fail
      refine (laws_heldForkEvidence _ 1 _ _ ((kS rForkEvidence).own_rd Ogot0m.out) (by exact LG0.out)).mono ?_
      rintro e w21 ⟨rfl, hb21⟩
      have HB21 := Lib.hid (Below.next HB20.out hb21)
      have hs21 := hb21.size
      have AJ21 := Lib.hid hb21; clear hb21
      have pxgr0_21 := box_at BXgr0.out HB21.out
      clear pxgr0_20
      have pxgr1_21 := box_at BXgr1.out HB21.out
      clear pxgr1_20
      have pxgr2_21 := box_at BXgr2.out HB21.out
      clear pxgr2_20
      have pxwant00_21 := box_at pxwant00_20 AJ21.out
      clear pxwant00_20
      have pxwant01_21 := box_at pxwant01_20 AJ21.out
      clear pxwant01_20
      have pxwant02_21 := box_at pxwant02_20 AJ21.out
      clear pxwant02_20
      have pxwant03_21 := box_at pxwant03_20 AJ21.out
      clear pxwant03_20
      have pxwant04_21 := box_at pxwant04_20 AJ21.out
      clear pxwant04_20
      have pxwant05_21 := box_at pxwant05_20 AJ21.out
      clear pxwant05_20
      have pxwant06_21 := box_at pxwant06_20 AJ21.out
      clear pxwant06_20
      have pxwant07_21 := box_at pxwant07_20 AJ21.out
      clear pxwant07_20
      have pxwant08_21 := box_at pxwant08_20 AJ21.out
      clear pxwant08_20
      have pxwant09_21 := box_at pxwant09_20 AJ21.out
      clear pxwant09_20
      have pxwant010_21 := box_at pxwant010_20 AJ21.out
      clear pxwant010_20
      have pxwant011_21 := box_at pxwant011_20 AJ21.out
      clear pxwant011_20
      have pxgot00_21 := box_at pxgot00_20 AJ21.out
      clear pxgot00_20
      have pxgot01_21 := box_at pxgot01_20 AJ21.out
      clear pxgot01_20
      have pxgot02_21 := box_at pxgot02_20 AJ21.out
      clear pxgot02_20
      have pxgot03_21 := box_at pxgot03_20 AJ21.out
      clear pxgot03_20
      have pxgot04_21 := box_at pxgot04_20 AJ21.out
      clear pxgot04_20
      have pxgot05_21 := box_at pxgot05_20 AJ21.out
      clear pxgot05_20
      have pxgot06_21 := box_at pxgot06_20 AJ21.out
      clear pxgot06_20
      have pxgot07_21 := box_at pxgot07_20 AJ21.out
      clear pxgot07_20
      have pxgot08_21 := box_at pxgot08_20 AJ21.out
      clear pxgot08_20
      have pxgot09_21 := box_at pxgot09_20 AJ21.out
      clear pxgot09_20
      have pxgot010_21 := box_at pxgot010_20 AJ21.out
      clear pxgot010_20
      have pxgot011_21 := box_at pxgot011_20 AJ21.out
      clear pxgot011_20
      go_wp2_with fail
      refine (laws_toGroup gr _).mono ?_
      rintro e w22 ⟨rfl, hb22⟩
      have HB22 := Lib.hid (Below.next HB21.out hb22)
      have hs22 := hb22.size
      have AJ22 := Lib.hid hb22; clear hb22
      have pxgr0_22 := box_at BXgr0.out HB22.out
      clear pxgr0_21
      have pxgr1_22 := box_at BXgr1.out HB22.out
      clear pxgr1_21
      have pxgr2_22 := box_at BXgr2.out HB22.out
      clear pxgr2_21
      have pxwant00_22 := box_at pxwant00_21 AJ22.out
      clear pxwant00_21
      have pxwant01_22 := box_at pxwant01_21 AJ22.out
      clear pxwant01_21
      have pxwant02_22 := box_at pxwant02_21 AJ22.out
      clear pxwant02_21
      have pxwant03_22 := box_at pxwant03_21 AJ22.out
      clear pxwant03_21
      have pxwant04_22 := box_at pxwant04_21 AJ22.out
      clear pxwant04_21
      have pxwant05_22 := box_at pxwant05_21 AJ22.out
      clear pxwant05_21
      have pxwant06_22 := box_at pxwant06_21 AJ22.out
      clear pxwant06_21
      have pxwant07_22 := box_at pxwant07_21 AJ22.out
      clear pxwant07_21
      have pxwant08_22 := box_at pxwant08_21 AJ22.out
      clear pxwant08_21
      have pxwant09_22 := box_at pxwant09_21 AJ22.out
      clear pxwant09_21
      have pxwant010_22 := box_at pxwant010_21 AJ22.out
      clear pxwant010_21
      have pxwant011_22 := box_at pxwant011_21 AJ22.out
      clear pxwant011_21
      have pxgot00_22 := box_at pxgot00_21 AJ22.out
      clear pxgot00_21
      have pxgot01_22 := box_at pxgot01_21 AJ22.out
      clear pxgot01_21
      have pxgot02_22 := box_at pxgot02_21 AJ22.out
      clear pxgot02_21
      have pxgot03_22 := box_at pxgot03_21 AJ22.out
      clear pxgot03_21
      have pxgot04_22 := box_at pxgot04_21 AJ22.out
      clear pxgot04_21
      have pxgot05_22 := box_at pxgot05_21 AJ22.out
      clear pxgot05_21
      have pxgot06_22 := box_at pxgot06_21 AJ22.out
      clear pxgot06_21
      have pxgot07_22 := box_at pxgot07_21 AJ22.out
      clear pxgot07_21
      have pxgot08_22 := box_at pxgot08_21 AJ22.out
      clear pxgot08_21
      have pxgot09_22 := box_at pxgot09_21 AJ22.out
      clear pxgot09_21
      have pxgot010_22 := box_at pxgot010_21 AJ22.out
      clear pxgot010_21
      have pxgot011_22 := box_at pxgot011_21 AJ22.out
      clear pxgot011_21
      go_wp2_with fail
      refine (laws_toIntS _ lkeys _ (Hkeys.out.below HB22.out) (by rw [HLkeys.out]; omega)).mono ?_
      rintro e w23 ⟨zkeys, rfl, hX, hb23⟩
      have Ozkeys := Lib.hid (InI.of_own hX); clear hX
      have HB23 := Lib.hid (Below.next HB22.out hb23)
      have hs23 := hb23.size
      have AJ23 := Lib.hid hb23; clear hb23
      have pxgr0_23 := box_at BXgr0.out HB23.out
      clear pxgr0_22
      have pxgr1_23 := box_at BXgr1.out HB23.out
      clear pxgr1_22
      have pxgr2_23 := box_at BXgr2.out HB23.out
      clear pxgr2_22
      have pxwant00_23 := box_at pxwant00_22 AJ23.out
      clear pxwant00_22
      have pxwant01_23 := box_at pxwant01_22 AJ23.out
      clear pxwant01_22
      have pxwant02_23 := box_at pxwant02_22 AJ23.out
      clear pxwant02_22
      have pxwant03_23 := box_at pxwant03_22 AJ23.out
      clear pxwant03_22
      have pxwant04_23 := box_at pxwant04_22 AJ23.out
      clear pxwant04_22
      have pxwant05_23 := box_at pxwant05_22 AJ23.out
      clear pxwant05_22
      have pxwant06_23 := box_at pxwant06_22 AJ23.out
      clear pxwant06_22
      have pxwant07_23 := box_at pxwant07_22 AJ23.out
      clear pxwant07_22
      have pxwant08_23 := box_at pxwant08_22 AJ23.out
      clear pxwant08_22
      have pxwant09_23 := box_at pxwant09_22 AJ23.out
      clear pxwant09_22
      have pxwant010_23 := box_at pxwant010_22 AJ23.out
      clear pxwant010_22
      have pxwant011_23 := box_at pxwant011_22 AJ23.out
      clear pxwant011_22
      have pxgot00_23 := box_at pxgot00_22 AJ23.out
      clear pxgot00_22
      have pxgot01_23 := box_at pxgot01_22 AJ23.out
      clear pxgot01_22
      have pxgot02_23 := box_at pxgot02_22 AJ23.out
      clear pxgot02_22
      have pxgot03_23 := box_at pxgot03_22 AJ23.out
      clear pxgot03_22
      have pxgot04_23 := box_at pxgot04_22 AJ23.out
      clear pxgot04_22
      have pxgot05_23 := box_at pxgot05_22 AJ23.out
      clear pxgot05_22
      have pxgot06_23 := box_at pxgot06_22 AJ23.out
      clear pxgot06_22
      have pxgot07_23 := box_at pxgot07_22 AJ23.out
      clear pxgot07_22
      have pxgot08_23 := box_at pxgot08_22 AJ23.out
      clear pxgot08_22
      have pxgot09_23 := box_at pxgot09_22 AJ23.out
      clear pxgot09_22
      have pxgot010_23 := box_at pxgot010_22 AJ23.out
      clear pxgot010_22
      have pxgot011_23 := box_at pxgot011_22 AJ23.out
      clear pxgot011_22
      go_wp2_with fail
      refine (laws_toHeadS _ lheads _ ((kR 44 rHead).rd_below Hheads.out HB23.out) HZheads.out).mono ?_
      rintro e w24 ⟨zheads, rfl, hX, hb24⟩
      have Ozheads := Lib.hid (hX); clear hX
      have HB24 := Lib.hid (Below.next HB23.out hb24)
      have hs24 := hb24.size
      have AJ24 := Lib.hid hb24; clear hb24
      have pxgr0_24 := box_at BXgr0.out HB24.out
      clear pxgr0_23
      have pxgr1_24 := box_at BXgr1.out HB24.out
      clear pxgr1_23
      have pxgr2_24 := box_at BXgr2.out HB24.out
      clear pxgr2_23
      have pxwant00_24 := box_at pxwant00_23 AJ24.out
      clear pxwant00_23
      have pxwant01_24 := box_at pxwant01_23 AJ24.out
      clear pxwant01_23
      have pxwant02_24 := box_at pxwant02_23 AJ24.out
      clear pxwant02_23
      have pxwant03_24 := box_at pxwant03_23 AJ24.out
      clear pxwant03_23
      have pxwant04_24 := box_at pxwant04_23 AJ24.out
      clear pxwant04_23
      have pxwant05_24 := box_at pxwant05_23 AJ24.out
      clear pxwant05_23
      have pxwant06_24 := box_at pxwant06_23 AJ24.out
      clear pxwant06_23
      have pxwant07_24 := box_at pxwant07_23 AJ24.out
      clear pxwant07_23
      have pxwant08_24 := box_at pxwant08_23 AJ24.out
      clear pxwant08_23
      have pxwant09_24 := box_at pxwant09_23 AJ24.out
      clear pxwant09_23
      have pxwant010_24 := box_at pxwant010_23 AJ24.out
      clear pxwant010_23
      have pxwant011_24 := box_at pxwant011_23 AJ24.out
      clear pxwant011_23
      have pxgot00_24 := box_at pxgot00_23 AJ24.out
      clear pxgot00_23
      have pxgot01_24 := box_at pxgot01_23 AJ24.out
      clear pxgot01_23
      have pxgot02_24 := box_at pxgot02_23 AJ24.out
      clear pxgot02_23
      have pxgot03_24 := box_at pxgot03_23 AJ24.out
      clear pxgot03_23
      have pxgot04_24 := box_at pxgot04_23 AJ24.out
      clear pxgot04_23
      have pxgot05_24 := box_at pxgot05_23 AJ24.out
      clear pxgot05_23
      have pxgot06_24 := box_at pxgot06_23 AJ24.out
      clear pxgot06_23
      have pxgot07_24 := box_at pxgot07_23 AJ24.out
      clear pxgot07_23
      have pxgot08_24 := box_at pxgot08_23 AJ24.out
      clear pxgot08_23
      have pxgot09_24 := box_at pxgot09_23 AJ24.out
      clear pxgot09_23
      have pxgot010_24 := box_at pxgot010_23 AJ24.out
      clear pxgot010_23
      have pxgot011_24 := box_at pxgot011_23 AJ24.out
      clear pxgot011_23
      go_wp2_with fail
      refine (impl_FindFork gr _ lkeys _ lheads _ (Ozkeys.out.next AJ24.out).reads HZheads.out ((kR 44 rHead).own_rd Ozheads.out)).mono ?_
      rintro e w25 ⟨again0, rfl, hXagain0, hb25⟩
      rw [HR0.out] at hXagain0
      have Oagain0 := Lib.hid hXagain0; clear hXagain0
      obtain ⟨again0_a3, again0_n3, again0_c3, again0_a4, again0_n4, again0_c4, again0_a5, again0_n5, again0_c5, again0_a9, again0_n9, again0_c9, again0_a10, again0_n10, again0_c10, again0_a11, again0_n11, again0_c11, rfl, hrest⟩ := rdForkEvidence.1 ((kS rForkEvidence).own_rd Oagain0.out)
      clear hrest
      have HB25 := Lib.hid (Below.next HB24.out hb25)
      have hs25 := hb25.size
      have AJ25 := Lib.hid hb25; clear hb25
      have pxgr0_25 := box_at BXgr0.out HB25.out
      clear pxgr0_24
      have pxgr1_25 := box_at BXgr1.out HB25.out
      clear pxgr1_24
      have pxgr2_25 := box_at BXgr2.out HB25.out
      clear pxgr2_24
      have pxwant00_25 := box_at pxwant00_24 AJ25.out
      clear pxwant00_24
      have pxwant01_25 := box_at pxwant01_24 AJ25.out
      clear pxwant01_24
      have pxwant02_25 := box_at pxwant02_24 AJ25.out
      clear pxwant02_24
      have pxwant03_25 := box_at pxwant03_24 AJ25.out
      clear pxwant03_24
      have pxwant04_25 := box_at pxwant04_24 AJ25.out
      clear pxwant04_24
      have pxwant05_25 := box_at pxwant05_24 AJ25.out
      clear pxwant05_24
      have pxwant06_25 := box_at pxwant06_24 AJ25.out
      clear pxwant06_24
      have pxwant07_25 := box_at pxwant07_24 AJ25.out
      clear pxwant07_24
      have pxwant08_25 := box_at pxwant08_24 AJ25.out
      clear pxwant08_24
      have pxwant09_25 := box_at pxwant09_24 AJ25.out
      clear pxwant09_24
      have pxwant010_25 := box_at pxwant010_24 AJ25.out
      clear pxwant010_24
      have pxwant011_25 := box_at pxwant011_24 AJ25.out
      clear pxwant011_24
      have pxgot00_25 := box_at pxgot00_24 AJ25.out
      clear pxgot00_24
      have pxgot01_25 := box_at pxgot01_24 AJ25.out
      clear pxgot01_24
      have pxgot02_25 := box_at pxgot02_24 AJ25.out
      clear pxgot02_24
      have pxgot03_25 := box_at pxgot03_24 AJ25.out
      clear pxgot03_24
      have pxgot04_25 := box_at pxgot04_24 AJ25.out
      clear pxgot04_24
      have pxgot05_25 := box_at pxgot05_24 AJ25.out
      clear pxgot05_24
      have pxgot06_25 := box_at pxgot06_24 AJ25.out
      clear pxgot06_24
      have pxgot07_25 := box_at pxgot07_24 AJ25.out
      clear pxgot07_24
      have pxgot08_25 := box_at pxgot08_24 AJ25.out
      clear pxgot08_24
      have pxgot09_25 := box_at pxgot09_24 AJ25.out
      clear pxgot09_24
      have pxgot010_25 := box_at pxgot010_24 AJ25.out
      clear pxgot010_24
      have pxgot011_25 := box_at pxgot011_24 AJ25.out
      clear pxgot011_24
      have zl0 : w.heap.size < w25.heap.size := World.block_lt_of_cell? _ _ pxgr0_25
      have zl1 : w5.heap.size < w25.heap.size := World.block_lt_of_cell? _ _ pxwant00_25
      have zl2 : w10.heap.size < w25.heap.size := World.block_lt_of_cell? _ _ pxgot00_25
      go_wp2_with fail
      clear zl0 zl1 zl2
      obtain ⟨w26, hw26⟩ : ∃ u, u = w25.alloc (.cells #[.int .i64 lR0.first.author, .int .i64 lR0.first.size, .int .i64 lR0.first.root, .slice again0_a3 again0_n3 again0_c3, .slice again0_a4 again0_n4 again0_c4, .slice again0_a5 again0_n5 again0_c5, .int .i64 lR0.second.author, .int .i64 lR0.second.size, .int .i64 lR0.second.root, .slice again0_a9 again0_n9 again0_c9, .slice again0_a10 again0_n10 again0_c10, .slice again0_a11 again0_n11 again0_c11] 58) := ⟨_, rfl⟩
      rw [← hw26]
      have hb26 : Below w25.heap.size w25 w26 := by rw [hw26]; exact (Below.refl _ _).alloc (Nat.le_refl _) _
      have hlt26 : w25.heap.size < w26.heap.size := by rw [hw26]; simp
      have pxagain00_26 : w26.cell? ⟨w25.heap.size, 0, none⟩ = some (.int .i64 lR0.first.author) := by rw [hw26]; simp [go_sem]
      have pxagain01_26 : w26.cell? ⟨w25.heap.size, 1, none⟩ = some (.int .i64 lR0.first.size) := by rw [hw26]; simp [go_sem]
      have pxagain02_26 : w26.cell? ⟨w25.heap.size, 2, none⟩ = some (.int .i64 lR0.first.root) := by rw [hw26]; simp [go_sem]
      have pxagain03_26 : w26.cell? ⟨w25.heap.size, 3, none⟩ = some (.slice again0_a3 again0_n3 again0_c3) := by rw [hw26]; simp [go_sem]
      have pxagain04_26 : w26.cell? ⟨w25.heap.size, 4, none⟩ = some (.slice again0_a4 again0_n4 again0_c4) := by rw [hw26]; simp [go_sem]
      have pxagain05_26 : w26.cell? ⟨w25.heap.size, 5, none⟩ = some (.slice again0_a5 again0_n5 again0_c5) := by rw [hw26]; simp [go_sem]
      have pxagain06_26 : w26.cell? ⟨w25.heap.size, 6, none⟩ = some (.int .i64 lR0.second.author) := by rw [hw26]; simp [go_sem]
      have pxagain07_26 : w26.cell? ⟨w25.heap.size, 7, none⟩ = some (.int .i64 lR0.second.size) := by rw [hw26]; simp [go_sem]
      have pxagain08_26 : w26.cell? ⟨w25.heap.size, 8, none⟩ = some (.int .i64 lR0.second.root) := by rw [hw26]; simp [go_sem]
      have pxagain09_26 : w26.cell? ⟨w25.heap.size, 9, none⟩ = some (.slice again0_a9 again0_n9 again0_c9) := by rw [hw26]; simp [go_sem]
      have pxagain010_26 : w26.cell? ⟨w25.heap.size, 10, none⟩ = some (.slice again0_a10 again0_n10 again0_c10) := by rw [hw26]; simp [go_sem]
      have pxagain011_26 : w26.cell? ⟨w25.heap.size, 11, none⟩ = some (.slice again0_a11 again0_n11 again0_c11) := by rw [hw26]; simp [go_sem]
      clear hw26
      have HB26 := Lib.hid (Below.next HB25.out hb26)
      have hs26 := hb26.size
      have AJ26 := Lib.hid hb26; clear hb26
      have pxgr0_26 := box_at BXgr0.out HB26.out
      clear pxgr0_25
      have pxgr1_26 := box_at BXgr1.out HB26.out
      clear pxgr1_25
      have pxgr2_26 := box_at BXgr2.out HB26.out
      clear pxgr2_25
      have pxwant00_26 := box_at pxwant00_25 AJ26.out
      clear pxwant00_25
      have pxwant01_26 := box_at pxwant01_25 AJ26.out
      clear pxwant01_25
      have pxwant02_26 := box_at pxwant02_25 AJ26.out
      clear pxwant02_25
      have pxwant03_26 := box_at pxwant03_25 AJ26.out
      clear pxwant03_25
      have pxwant04_26 := box_at pxwant04_25 AJ26.out
      clear pxwant04_25
      have pxwant05_26 := box_at pxwant05_25 AJ26.out
      clear pxwant05_25
      have pxwant06_26 := box_at pxwant06_25 AJ26.out
      clear pxwant06_25
      have pxwant07_26 := box_at pxwant07_25 AJ26.out
      clear pxwant07_25
      have pxwant08_26 := box_at pxwant08_25 AJ26.out
      clear pxwant08_25
      have pxwant09_26 := box_at pxwant09_25 AJ26.out
      clear pxwant09_25
      have pxwant010_26 := box_at pxwant010_25 AJ26.out
      clear pxwant010_25
      have pxwant011_26 := box_at pxwant011_25 AJ26.out
      clear pxwant011_25
      have pxgot00_26 := box_at pxgot00_25 AJ26.out
      clear pxgot00_25
      have pxgot01_26 := box_at pxgot01_25 AJ26.out
      clear pxgot01_25
      have pxgot02_26 := box_at pxgot02_25 AJ26.out
      clear pxgot02_25
      have pxgot03_26 := box_at pxgot03_25 AJ26.out
      clear pxgot03_25
      have pxgot04_26 := box_at pxgot04_25 AJ26.out
      clear pxgot04_25
      have pxgot05_26 := box_at pxgot05_25 AJ26.out
      clear pxgot05_25
      have pxgot06_26 := box_at pxgot06_25 AJ26.out
      clear pxgot06_25
      have pxgot07_26 := box_at pxgot07_25 AJ26.out
      clear pxgot07_25
      have pxgot08_26 := box_at pxgot08_25 AJ26.out
      clear pxgot08_25
      have pxgot09_26 := box_at pxgot09_25 AJ26.out
      clear pxgot09_25
      have pxgot010_26 := box_at pxgot010_25 AJ26.out
      clear pxgot010_25
      have pxgot011_26 := box_at pxgot011_25 AJ26.out
      clear pxgot011_25
      refine (laws_eqForkEvidence _ _ _ _ _ ((kS rForkEvidence).own_rd (Kind.next (K := kS rForkEvidence) Oagain0.out AJ26.out)) ((kS rForkEvidence).own_rd (Kind.next (K := kS rForkEvidence) (Kind.next (K := kS rForkEvidence) (Kind.next (K := kS rForkEvidence) (Kind.next (K := kS rForkEvidence) (Kind.next (K := kS rForkEvidence) (Kind.next (K := kS rForkEvidence) (Kind.kept (K := kS rForkEvidence) (Kind.next (K := kS rForkEvidence) (Kind.kept (K := kS rForkEvidence) (Kind.kept (K := kS rForkEvidence) (Kind.next (K := kS rForkEvidence) (Kind.next (K := kS rForkEvidence) (Kind.next (K := kS rForkEvidence) (Kind.next (K := kS rForkEvidence) (Kind.next (K := kS rForkEvidence) (Kind.next (K := kS rForkEvidence) (Kind.next (K := kS rForkEvidence) (Kind.next (K := kS rForkEvidence) (Kind.next (K := kS rForkEvidence) (Kind.next (K := kS rForkEvidence) (Kind.next (K := kS rForkEvidence) Owant0.out AJ6.out) AJ7.out) AJ8.out) AJ9.out) AJ10.out) AJ11.out) AJ12.out) AJ13.out) AJ14.out) AJ15.out) AJ16.out) HG17.out (.inl (by omega))) HG18.out (.inl (by omega))) AJ19.out) HG20.out (.inl (by omega))) AJ21.out) AJ22.out) AJ23.out) AJ24.out) AJ25.out) AJ26.out))).mono ?_
      rintro e w27 ⟨rfl, hb27⟩
      rw [decide_eq_true rfl]
      have HB27 := Lib.hid (Below.next HB26.out hb27)
      have hs27 := hb27.size
      have AJ27 := Lib.hid hb27; clear hb27
      have pxgr0_27 := box_at BXgr0.out HB27.out
      clear pxgr0_26
      have pxgr1_27 := box_at BXgr1.out HB27.out
      clear pxgr1_26
      have pxgr2_27 := box_at BXgr2.out HB27.out
      clear pxgr2_26
      have pxwant00_27 := box_at pxwant00_26 AJ27.out
      clear pxwant00_26
      have pxwant01_27 := box_at pxwant01_26 AJ27.out
      clear pxwant01_26
      have pxwant02_27 := box_at pxwant02_26 AJ27.out
      clear pxwant02_26
      have pxwant03_27 := box_at pxwant03_26 AJ27.out
      clear pxwant03_26
      have pxwant04_27 := box_at pxwant04_26 AJ27.out
      clear pxwant04_26
      have pxwant05_27 := box_at pxwant05_26 AJ27.out
      clear pxwant05_26
      have pxwant06_27 := box_at pxwant06_26 AJ27.out
      clear pxwant06_26
      have pxwant07_27 := box_at pxwant07_26 AJ27.out
      clear pxwant07_26
      have pxwant08_27 := box_at pxwant08_26 AJ27.out
      clear pxwant08_26
      have pxwant09_27 := box_at pxwant09_26 AJ27.out
      clear pxwant09_26
      have pxwant010_27 := box_at pxwant010_26 AJ27.out
      clear pxwant010_26
      have pxwant011_27 := box_at pxwant011_26 AJ27.out
      clear pxwant011_26
      have pxgot00_27 := box_at pxgot00_26 AJ27.out
      clear pxgot00_26
      have pxgot01_27 := box_at pxgot01_26 AJ27.out
      clear pxgot01_26
      have pxgot02_27 := box_at pxgot02_26 AJ27.out
      clear pxgot02_26
      have pxgot03_27 := box_at pxgot03_26 AJ27.out
      clear pxgot03_26
      have pxgot04_27 := box_at pxgot04_26 AJ27.out
      clear pxgot04_26
      have pxgot05_27 := box_at pxgot05_26 AJ27.out
      clear pxgot05_26
      have pxgot06_27 := box_at pxgot06_26 AJ27.out
      clear pxgot06_26
      have pxgot07_27 := box_at pxgot07_26 AJ27.out
      clear pxgot07_26
      have pxgot08_27 := box_at pxgot08_26 AJ27.out
      clear pxgot08_26
      have pxgot09_27 := box_at pxgot09_26 AJ27.out
      clear pxgot09_26
      have pxgot010_27 := box_at pxgot010_26 AJ27.out
      clear pxgot010_26
      have pxgot011_27 := box_at pxgot011_26 AJ27.out
      clear pxgot011_26
      have pxagain00_27 := box_at pxagain00_26 AJ27.out
      clear pxagain00_26
      have pxagain01_27 := box_at pxagain01_26 AJ27.out
      clear pxagain01_26
      have pxagain02_27 := box_at pxagain02_26 AJ27.out
      clear pxagain02_26
      have pxagain03_27 := box_at pxagain03_26 AJ27.out
      clear pxagain03_26
      have pxagain04_27 := box_at pxagain04_26 AJ27.out
      clear pxagain04_26
      have pxagain05_27 := box_at pxagain05_26 AJ27.out
      clear pxagain05_26
      have pxagain06_27 := box_at pxagain06_26 AJ27.out
      clear pxagain06_26
      have pxagain07_27 := box_at pxagain07_26 AJ27.out
      clear pxagain07_26
      have pxagain08_27 := box_at pxagain08_26 AJ27.out
      clear pxagain08_26
      have pxagain09_27 := box_at pxagain09_26 AJ27.out
      clear pxagain09_26
      have pxagain010_27 := box_at pxagain010_26 AJ27.out
      clear pxagain010_26
      have pxagain011_27 := box_at pxagain011_26 AJ27.out
      clear pxagain011_26
      go_wp2_with fail
      refine (laws_heldForkEvidence _ 1 _ _ ((kS rForkEvidence).own_rd (Kind.next (K := kS rForkEvidence) (Kind.next (K := kS rForkEvidence) (Kind.next (K := kS rForkEvidence) (Kind.next (K := kS rForkEvidence) (Kind.next (K := kS rForkEvidence) (Kind.next (K := kS rForkEvidence) (Kind.next (K := kS rForkEvidence) Ogot0m.out AJ21.out) AJ22.out) AJ23.out) AJ24.out) AJ25.out) AJ26.out) AJ27.out)) (by exact LG0.out)).mono ?_
      rintro e w28 ⟨rfl, hb28⟩
      have HB28 := Lib.hid (Below.next HB27.out hb28)
      have hs28 := hb28.size
      have AJ28 := Lib.hid hb28; clear hb28
      have pxgr0_28 := box_at BXgr0.out HB28.out
      clear pxgr0_27
      have pxgr1_28 := box_at BXgr1.out HB28.out
      clear pxgr1_27
      have pxgr2_28 := box_at BXgr2.out HB28.out
      clear pxgr2_27
      have pxwant00_28 := box_at pxwant00_27 AJ28.out
      clear pxwant00_27
      have pxwant01_28 := box_at pxwant01_27 AJ28.out
      clear pxwant01_27
      have pxwant02_28 := box_at pxwant02_27 AJ28.out
      clear pxwant02_27
      have pxwant03_28 := box_at pxwant03_27 AJ28.out
      clear pxwant03_27
      have pxwant04_28 := box_at pxwant04_27 AJ28.out
      clear pxwant04_27
      have pxwant05_28 := box_at pxwant05_27 AJ28.out
      clear pxwant05_27
      have pxwant06_28 := box_at pxwant06_27 AJ28.out
      clear pxwant06_27
      have pxwant07_28 := box_at pxwant07_27 AJ28.out
      clear pxwant07_27
      have pxwant08_28 := box_at pxwant08_27 AJ28.out
      clear pxwant08_27
      have pxwant09_28 := box_at pxwant09_27 AJ28.out
      clear pxwant09_27
      have pxwant010_28 := box_at pxwant010_27 AJ28.out
      clear pxwant010_27
      have pxwant011_28 := box_at pxwant011_27 AJ28.out
      clear pxwant011_27
      have pxgot00_28 := box_at pxgot00_27 AJ28.out
      clear pxgot00_27
      have pxgot01_28 := box_at pxgot01_27 AJ28.out
      clear pxgot01_27
      have pxgot02_28 := box_at pxgot02_27 AJ28.out
      clear pxgot02_27
      have pxgot03_28 := box_at pxgot03_27 AJ28.out
      clear pxgot03_27
      have pxgot04_28 := box_at pxgot04_27 AJ28.out
      clear pxgot04_27
      have pxgot05_28 := box_at pxgot05_27 AJ28.out
      clear pxgot05_27
      have pxgot06_28 := box_at pxgot06_27 AJ28.out
      clear pxgot06_27
      have pxgot07_28 := box_at pxgot07_27 AJ28.out
      clear pxgot07_27
      have pxgot08_28 := box_at pxgot08_27 AJ28.out
      clear pxgot08_27
      have pxgot09_28 := box_at pxgot09_27 AJ28.out
      clear pxgot09_27
      have pxgot010_28 := box_at pxgot010_27 AJ28.out
      clear pxgot010_27
      have pxgot011_28 := box_at pxgot011_27 AJ28.out
      clear pxgot011_27
      have pxagain00_28 := box_at pxagain00_27 AJ28.out
      clear pxagain00_27
      have pxagain01_28 := box_at pxagain01_27 AJ28.out
      clear pxagain01_27
      have pxagain02_28 := box_at pxagain02_27 AJ28.out
      clear pxagain02_27
      have pxagain03_28 := box_at pxagain03_27 AJ28.out
      clear pxagain03_27
      have pxagain04_28 := box_at pxagain04_27 AJ28.out
      clear pxagain04_27
      have pxagain05_28 := box_at pxagain05_27 AJ28.out
      clear pxagain05_27
      have pxagain06_28 := box_at pxagain06_27 AJ28.out
      clear pxagain06_27
      have pxagain07_28 := box_at pxagain07_27 AJ28.out
      clear pxagain07_27
      have pxagain08_28 := box_at pxagain08_27 AJ28.out
      clear pxagain08_27
      have pxagain09_28 := box_at pxagain09_27 AJ28.out
      clear pxagain09_27
      have pxagain010_28 := box_at pxagain010_27 AJ28.out
      clear pxagain010_27
      have pxagain011_28 := box_at pxagain011_27 AJ28.out
      clear pxagain011_27
      go_wp2_with fail
      go_ret
      exact ⟨rfl, HWB.out.trans (HB28.out.mono HWB.out.size)⟩
end Go.Proofs.YtodennbdfloccaaGreat

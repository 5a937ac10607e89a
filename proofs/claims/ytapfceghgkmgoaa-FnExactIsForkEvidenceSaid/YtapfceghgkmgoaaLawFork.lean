/- The walks of laws, by program (genlaw3.py). -/
import Derived.Test.YtapfceghgkmgoaaVFork2
import Derived.Test.YtapfceghgkmgoaaKForkEvidence
import Derived.Test.YtapfceghgkmgoaaGrpL
namespace Go.Proofs.Ytapfceghgkmgoaa
open Go.RowKit
set_option linter.unusedSimpArgs false
set_option linter.unusedVariables false

set_option maxRecDepth 100000 in
set_option maxHeartbeats 2000000 in
theorem law_IsForkEvidence (gr : GroupD) (keys : Value) (lkeys : List Int) (e : Value) (le : ForkEvidenceD) (w : World) (hkeys : Ints w keys lkeys) (he : (kS rForkEvidence).rd w e le) :
    Calls Try.prog 11 #[.agg #[.int .i64 gr.p, .int .i64 gr.q, .int .i64 gr.g], keys, e] w fun e w' => e = .returned (.bool true) ∧ Below w.heap.size w w' := by
  obtain ⟨e_a3, e_n3, e_c3, e_a4, e_n4, e_c4, e_a5, e_n5, e_c5, e_a9, e_n9, e_c9, e_a10, e_n10, e_c10, e_a11, e_n11, e_c11, rfl, hreste⟩ := rdForkEvidence.1 he
  have he : (kS rForkEvidence).rd w (.agg #[.int .i64 le.first.author, .int .i64 le.first.size, .int .i64 le.first.root, .slice e_a3 e_n3 e_c3, .slice e_a4 e_n4 e_c4, .slice e_a5 e_n5 e_c5, .int .i64 le.second.author, .int .i64 le.second.size, .int .i64 le.second.root, .slice e_a9 e_n9 e_c9, .slice e_a10 e_n10 e_c10, .slice e_a11 e_n11 e_c11]) le := rdForkEvidence.2 ⟨_, _, _, _, _, _, _, _, _, _, _, _, _, _, _, _, _, _, rfl, hreste⟩
  clear hreste
  obtain ⟨W, hW⟩ : ∃ W, W = (w.alloc (.cells #[.int .i64 gr.p, .int .i64 gr.q, .int .i64 gr.g] 83)).alloc (.cells #[.int .i64 le.first.author, .int .i64 le.first.size, .int .i64 le.first.root, .slice e_a3 e_n3 e_c3, .slice e_a4 e_n4 e_c4, .slice e_a5 e_n5 e_c5, .int .i64 le.second.author, .int .i64 le.second.size, .int .i64 le.second.root, .slice e_a9 e_n9 e_c9, .slice e_a10 e_n10 e_c10, .slice e_a11 e_n11 e_c11] 103) := ⟨_, rfl⟩
  have HWB : Hid (Below w.heap.size w W) := by unfold Hid; rw [hW]; (repeat (first | exact Below.refl _ _ | assumption | refine Below.drew ?_ | refine Below.alloc ?_ (by first | (simp; done) | (simp; omega)) _ | refine Below.setCell ?_ (by first | (simp; done) | (simp; omega)) _))
  have BXgr0 : Hid (W.cell? ⟨w.heap.size, 0, none⟩ = some (.int .i64 gr.p)) := by unfold Hid; rw [hW]; simp [go_sem]
  have BXgr1 : Hid (W.cell? ⟨w.heap.size, 1, none⟩ = some (.int .i64 gr.q)) := by unfold Hid; rw [hW]; simp [go_sem]
  have BXgr2 : Hid (W.cell? ⟨w.heap.size, 2, none⟩ = some (.int .i64 gr.g)) := by unfold Hid; rw [hW]; simp [go_sem]
  have BXe0 : Hid (W.cell? ⟨w.heap.size + 1, 0, none⟩ = some (.int .i64 le.first.author)) := by unfold Hid; rw [hW]; simp [go_sem]
  have BXe1 : Hid (W.cell? ⟨w.heap.size + 1, 1, none⟩ = some (.int .i64 le.first.size)) := by unfold Hid; rw [hW]; simp [go_sem]
  have BXe2 : Hid (W.cell? ⟨w.heap.size + 1, 2, none⟩ = some (.int .i64 le.first.root)) := by unfold Hid; rw [hW]; simp [go_sem]
  have BXe3 : Hid (W.cell? ⟨w.heap.size + 1, 3, none⟩ = some (.slice e_a3 e_n3 e_c3)) := by unfold Hid; rw [hW]; simp [go_sem]
  have BXe4 : Hid (W.cell? ⟨w.heap.size + 1, 4, none⟩ = some (.slice e_a4 e_n4 e_c4)) := by unfold Hid; rw [hW]; simp [go_sem]
  have BXe5 : Hid (W.cell? ⟨w.heap.size + 1, 5, none⟩ = some (.slice e_a5 e_n5 e_c5)) := by unfold Hid; rw [hW]; simp [go_sem]
  have BXe6 : Hid (W.cell? ⟨w.heap.size + 1, 6, none⟩ = some (.int .i64 le.second.author)) := by unfold Hid; rw [hW]; simp [go_sem]
  have BXe7 : Hid (W.cell? ⟨w.heap.size + 1, 7, none⟩ = some (.int .i64 le.second.size)) := by unfold Hid; rw [hW]; simp [go_sem]
  have BXe8 : Hid (W.cell? ⟨w.heap.size + 1, 8, none⟩ = some (.int .i64 le.second.root)) := by unfold Hid; rw [hW]; simp [go_sem]
  have BXe9 : Hid (W.cell? ⟨w.heap.size + 1, 9, none⟩ = some (.slice e_a9 e_n9 e_c9)) := by unfold Hid; rw [hW]; simp [go_sem]
  have BXe10 : Hid (W.cell? ⟨w.heap.size + 1, 10, none⟩ = some (.slice e_a10 e_n10 e_c10)) := by unfold Hid; rw [hW]; simp [go_sem]
  have BXe11 : Hid (W.cell? ⟨w.heap.size + 1, 11, none⟩ = some (.slice e_a11 e_n11 e_c11)) := by unfold Hid; rw [hW]; simp [go_sem]
  replace hkeys := (hkeys.below HWB.out)
  replace he := ((kS rForkEvidence).rd_below he HWB.out)
  obtain ⟨adkeys, nkeys, ckeys, rfl⟩ := hkeys.shape
  have HLkeys := Lib.hid hkeys.len
  have Hkeys := Lib.hid hkeys; clear hkeys
  have He := Lib.hid he; clear he
  by_cases hnkeys : 1048576 < (nkeys : Int)
  · go_enter Try.func11, Try.ntmps11
    go_wp2_with fail
    go_ret
    exact ⟨rfl, by (repeat (first | exact Below.refl _ _ | assumption | refine Below.drew ?_ | refine Below.alloc ?_ (by first | (simp; done) | (simp; omega)) _ | refine Below.setCell ?_ (by first | (simp; done) | (simp; omega)) _))⟩
  · skip
    go_enter Try.func11, Try.ntmps11
    go_wp2_with fail
    rw [← hW]
    clear hW
    have pxgr0_0 := BXgr0.out
    have pxgr1_0 := BXgr1.out
    have pxgr2_0 := BXgr2.out
    have pxe0_0 := BXe0.out
    have pxe1_0 := BXe1.out
    have pxe2_0 := BXe2.out
    have pxe3_0 := BXe3.out
    have pxe4_0 := BXe4.out
    have pxe5_0 := BXe5.out
    have pxe6_0 := BXe6.out
    have pxe7_0 := BXe7.out
    have pxe8_0 := BXe8.out
    have pxe9_0 := BXe9.out
    have pxe10_0 := BXe10.out
    have pxe11_0 := BXe11.out
    refine (laws_szForkEvidence _ le 1048576 _ ((kS rForkEvidence).rd_below He.out (Below.refl _ _)) (by decide) (by decide)).mono ?_
    rintro e w1 ⟨⟨r0, rfl, hr0, hsz0⟩, hb1⟩
    replace hsz0 : 0 ≤ r0 → (szForkEvidence le : Int) ≤ 1048576 ∧ r0 ≤ 1048576 := fun h => by have := hsz0 h; omega
    have HB1 := Lib.hid (Below.next (Below.refl _ _) hb1)
    have hs1 := hb1.size
    have AJ1 := Lib.hid hb1; clear hb1
    have pxgr0_1 := box_at BXgr0.out HB1.out
    clear pxgr0_0
    have pxgr1_1 := box_at BXgr1.out HB1.out
    clear pxgr1_0
    have pxgr2_1 := box_at BXgr2.out HB1.out
    clear pxgr2_0
    have pxe0_1 := box_at BXe0.out HB1.out
    clear pxe0_0
    have pxe1_1 := box_at BXe1.out HB1.out
    clear pxe1_0
    have pxe2_1 := box_at BXe2.out HB1.out
    clear pxe2_0
    have pxe3_1 := box_at BXe3.out HB1.out
    clear pxe3_0
    have pxe4_1 := box_at BXe4.out HB1.out
    clear pxe4_0
    have pxe5_1 := box_at BXe5.out HB1.out
    clear pxe5_0
    have pxe6_1 := box_at BXe6.out HB1.out
    clear pxe6_0
    have pxe7_1 := box_at BXe7.out HB1.out
    clear pxe7_0
    have pxe8_1 := box_at BXe8.out HB1.out
    clear pxe8_0
    have pxe9_1 := box_at BXe9.out HB1.out
    clear pxe9_0
    have pxe10_1 := box_at BXe10.out HB1.out
    clear pxe10_0
    have pxe11_1 := box_at BXe11.out HB1.out
    clear pxe11_0
    by_cases hneg0 : r0 < 0
    · go_wp2_with fail
      go_ret
      exact ⟨rfl, HWB.out.trans (HB1.out.mono HWB.out.size)⟩
    · have HZe : Hid ((szForkEvidence le : Int) ≤ 1000000000) := by have := (hsz0 (by omega)).1; unfold Hid; omega
      have hrb0 : r0 ≤ 1048576 := by have := (hsz0 (by omega)).2; omega
      clear hsz0
      go_wp2_with fail
      go_region_held3 (fun w' => Below w1.heap.size w1 w' ∧ w'.cell? ⟨w.heap.size, 0, none⟩ = some (.int .i64 gr.p) ∧ w'.cell? ⟨w.heap.size, 1, none⟩ = some (.int .i64 gr.q) ∧ w'.cell? ⟨w.heap.size, 2, none⟩ = some (.int .i64 gr.g) ∧ w'.cell? ⟨w.heap.size + 1, 0, none⟩ = some (.int .i64 le.first.author) ∧ w'.cell? ⟨w.heap.size + 1, 1, none⟩ = some (.int .i64 le.first.size) ∧ w'.cell? ⟨w.heap.size + 1, 2, none⟩ = some (.int .i64 le.first.root) ∧ w'.cell? ⟨w.heap.size + 1, 3, none⟩ = some (.slice e_a3 e_n3 e_c3) ∧ w'.cell? ⟨w.heap.size + 1, 4, none⟩ = some (.slice e_a4 e_n4 e_c4) ∧ w'.cell? ⟨w.heap.size + 1, 5, none⟩ = some (.slice e_a5 e_n5 e_c5) ∧ w'.cell? ⟨w.heap.size + 1, 6, none⟩ = some (.int .i64 le.second.author) ∧ w'.cell? ⟨w.heap.size + 1, 7, none⟩ = some (.int .i64 le.second.size) ∧ w'.cell? ⟨w.heap.size + 1, 8, none⟩ = some (.int .i64 le.second.root) ∧ w'.cell? ⟨w.heap.size + 1, 9, none⟩ = some (.slice e_a9 e_n9 e_c9) ∧ w'.cell? ⟨w.heap.size + 1, 10, none⟩ = some (.slice e_a10 e_n10 e_c10) ∧ w'.cell? ⟨w.heap.size + 1, 11, none⟩ = some (.slice e_a11 e_n11 e_c11)) (first | (have hbq : Below w1.heap.size w1 _ := (Below.refl _ _).drew; exact ⟨hbq, box_at pxgr0_1 hbq, box_at pxgr1_1 hbq, box_at pxgr2_1 hbq, box_at pxe0_1 hbq, box_at pxe1_1 hbq, box_at pxe2_1 hbq, box_at pxe3_1 hbq, box_at pxe4_1 hbq, box_at pxe5_1 hbq, box_at pxe6_1 hbq, box_at pxe7_1 hbq, box_at pxe8_1 hbq, box_at pxe9_1 hbq, box_at pxe10_1 hbq, box_at pxe11_1 hbq⟩) | (have hbq := keep_b (by assumption) (‹Below w1.heap.size w1 _ ∧ _›).1; exact ⟨hbq, box_at pxgr0_1 hbq, box_at pxgr1_1 hbq, box_at pxgr2_1 hbq, box_at pxe0_1 hbq, box_at pxe1_1 hbq, box_at pxe2_1 hbq, box_at pxe3_1 hbq, box_at pxe4_1 hbq, box_at pxe5_1 hbq, box_at pxe6_1 hbq, box_at pxe7_1 hbq, box_at pxe8_1 hbq, box_at pxe9_1 hbq, box_at pxe10_1 hbq, box_at pxe11_1 hbq⟩) | fail) ((first
        | (go_at_call 51; refine (laws_toGroup gr _).mono ?_; rintro e w2 ⟨rfl, hb2⟩; (have AJ2 := Lib.hid (keep_b hb2 (Below.refl _ _).drew)); (have HB2 := Lib.hid (Below.next HB1.out AJ2.out)); (have hs2 : w1.heap.size ≤ w2.heap.size := AJ2.out.size); (have hbz := hb2))
        | (go_at_call_of 38 (Value.slice adkeys nkeys ckeys); refine (laws_toIntS _ lkeys _ (Hkeys.out.below (HB1.out.trans ((‹Below w1.heap.size w1 _ ∧ _›).1.mono HB1.out.size))) (by rw [HLkeys.out]; omega)).mono ?_; rintro e w3 ⟨skeys, rfl, hX, hb3⟩; (have Oskeys : Hid (InI w3 w2.heap.size w3.heap.size skeys lkeys) := InI.of_own hX); clear hX; (have AJ3 := Lib.hid hb3); (have HB3 := Lib.hid (Below.next HB2.out AJ3.out)); (have hs3 : w2.heap.size ≤ w3.heap.size := AJ3.out.size); (have hbz := hb3))
        | (go_at_call_of 63 (Value.int .i64 le.first.author); refine (laws_toForkEvidence _ le _ ((kS rForkEvidence).rd_below He.out (HB1.out.trans ((‹Below w1.heap.size w1 _ ∧ _›).1.mono HB1.out.size))) HZe.out).mono ?_; rintro e w4 ⟨se, rfl, hX, hb4⟩; (have Ose : Hid ((kS rForkEvidence).own w4 w3.heap.size w4.heap.size se le) := hX); clear hX; obtain ⟨se_a3, se_n3, se_c3, se_a4, se_n4, se_c4, se_a5, se_n5, se_c5, se_a9, se_n9, se_c9, se_a10, se_n10, se_c10, se_a11, se_n11, se_c11, rfl, hrest⟩ := rdForkEvidence.1 ((kS rForkEvidence).own_rd Ose.out); clear hrest; (have AJ4 := Lib.hid hb4); (have HB4 := Lib.hid (Below.next HB3.out AJ4.out)); (have hs4 : w3.heap.size ≤ w4.heap.size := AJ4.out.size); (have hbz := hb4))
        | (go_at_call 62; refine (spec_IsForkEvidence gr _ lkeys _ le _ (Oskeys.out.next AJ4.out).reads HZe.out ((kS rForkEvidence).own_rd Ose.out)).mono ?_; rintro e w5 ⟨rfl, hb5⟩; (have AJ5 := Lib.hid hb5); (have HB5 := Lib.hid (Below.next HB4.out AJ5.out)); (have hs5 : w4.heap.size ≤ w5.heap.size := AJ5.out.size); (have hbz := hb5))
        | fail))
      have hSS := (‹Below w1.heap.size w1 _ ∧ _›)
      clear pxgr0_1
      clear pxgr1_1
      clear pxgr2_1
      clear pxe0_1
      clear pxe1_1
      clear pxe2_1
      clear pxe3_1
      clear pxe4_1
      clear pxe5_1
      clear pxe6_1
      clear pxe7_1
      clear pxe8_1
      clear pxe9_1
      clear pxe10_1
      clear pxe11_1
      obtain ⟨hbS, pxgr0_5, pxgr1_5, pxgr2_5, pxe0_5, pxe1_5, pxe2_5, pxe3_5, pxe4_5, pxe5_5, pxe6_5, pxe7_5, pxe8_5, pxe9_5, pxe10_5, pxe11_5⟩ := hSS
      clear hbS
      clear hbz
      clear hb2
      clear hb3
      clear hb4
      clear hb5
      go_wp2_with fail
      refine (laws_toIntS _ lkeys _ (Hkeys.out.below HB5.out) (by rw [HLkeys.out]; omega)).mono ?_
      rintro e w6 ⟨xkeys, rfl, hX, hb6⟩
      have Oxkeys := Lib.hid (InI.of_own hX); clear hX
      have HB6 := Lib.hid (Below.next HB5.out hb6)
      have hs6 := hb6.size
      have AJ6 := Lib.hid hb6; clear hb6
      have pxgr0_6 := box_at BXgr0.out HB6.out
      clear pxgr0_5
      have pxgr1_6 := box_at BXgr1.out HB6.out
      clear pxgr1_5
      have pxgr2_6 := box_at BXgr2.out HB6.out
      clear pxgr2_5
      have pxe0_6 := box_at BXe0.out HB6.out
      clear pxe0_5
      have pxe1_6 := box_at BXe1.out HB6.out
      clear pxe1_5
      have pxe2_6 := box_at BXe2.out HB6.out
      clear pxe2_5
      have pxe3_6 := box_at BXe3.out HB6.out
      clear pxe3_5
      have pxe4_6 := box_at BXe4.out HB6.out
      clear pxe4_5
      have pxe5_6 := box_at BXe5.out HB6.out
      clear pxe5_5
      have pxe6_6 := box_at BXe6.out HB6.out
      clear pxe6_5
      have pxe7_6 := box_at BXe7.out HB6.out
      clear pxe7_5
      have pxe8_6 := box_at BXe8.out HB6.out
      clear pxe8_5
      have pxe9_6 := box_at BXe9.out HB6.out
      clear pxe9_5
      have pxe10_6 := box_at BXe10.out HB6.out
      clear pxe10_5
      have pxe11_6 := box_at BXe11.out HB6.out
      clear pxe11_5
      go_wp2_with fail
      refine (laws_toForkEvidence _ le _ ((kS rForkEvidence).rd_below He.out HB6.out) HZe.out).mono ?_
      rintro e w7 ⟨xe, rfl, hX, hb7⟩
      have Oxe := Lib.hid (hX); clear hX
      obtain ⟨xe_a3, xe_n3, xe_c3, xe_a4, xe_n4, xe_c4, xe_a5, xe_n5, xe_c5, xe_a9, xe_n9, xe_c9, xe_a10, xe_n10, xe_c10, xe_a11, xe_n11, xe_c11, rfl, hrest⟩ := rdForkEvidence.1 ((kS rForkEvidence).own_rd Oxe.out)
      clear hrest
      have HB7 := Lib.hid (Below.next HB6.out hb7)
      have hs7 := hb7.size
      have AJ7 := Lib.hid hb7; clear hb7
      have pxgr0_7 := box_at BXgr0.out HB7.out
      clear pxgr0_6
      have pxgr1_7 := box_at BXgr1.out HB7.out
      clear pxgr1_6
      have pxgr2_7 := box_at BXgr2.out HB7.out
      clear pxgr2_6
      have pxe0_7 := box_at BXe0.out HB7.out
      clear pxe0_6
      have pxe1_7 := box_at BXe1.out HB7.out
      clear pxe1_6
      have pxe2_7 := box_at BXe2.out HB7.out
      clear pxe2_6
      have pxe3_7 := box_at BXe3.out HB7.out
      clear pxe3_6
      have pxe4_7 := box_at BXe4.out HB7.out
      clear pxe4_6
      have pxe5_7 := box_at BXe5.out HB7.out
      clear pxe5_6
      have pxe6_7 := box_at BXe6.out HB7.out
      clear pxe6_6
      have pxe7_7 := box_at BXe7.out HB7.out
      clear pxe7_6
      have pxe8_7 := box_at BXe8.out HB7.out
      clear pxe8_6
      have pxe9_7 := box_at BXe9.out HB7.out
      clear pxe9_6
      have pxe10_7 := box_at BXe10.out HB7.out
      clear pxe10_6
      have pxe11_7 := box_at BXe11.out HB7.out
      clear pxe11_6
      have zl0 : w.heap.size < w7.heap.size := World.block_lt_of_cell? _ _ pxgr0_7
      have zl1 : w.heap.size + 1 < w7.heap.size := World.block_lt_of_cell? _ _ pxe0_7
      go_wp2_with fail
      clear zl0 zl1
      obtain ⟨w8, hw8⟩ : ∃ u, u = w7.alloc (.cells #[.int .i64 le.first.author, .int .i64 le.first.size, .int .i64 le.first.root, .slice xe_a3 xe_n3 xe_c3, .slice xe_a4 xe_n4 xe_c4, .slice xe_a5 xe_n5 xe_c5, .int .i64 le.second.author, .int .i64 le.second.size, .int .i64 le.second.root, .slice xe_a9 xe_n9 xe_c9, .slice xe_a10 xe_n10 xe_c10, .slice xe_a11 xe_n11 xe_c11] 108) := ⟨_, rfl⟩
      rw [← hw8]
      have hb8 : Below w7.heap.size w7 w8 := by rw [hw8]; exact (Below.refl _ _).alloc (Nat.le_refl _) _
      have hlt8 : w7.heap.size < w8.heap.size := by rw [hw8]; simp
      have pxxe0_8 : w8.cell? ⟨w7.heap.size, 0, none⟩ = some (.int .i64 le.first.author) := by rw [hw8]; simp [go_sem]
      have pxxe1_8 : w8.cell? ⟨w7.heap.size, 1, none⟩ = some (.int .i64 le.first.size) := by rw [hw8]; simp [go_sem]
      have pxxe2_8 : w8.cell? ⟨w7.heap.size, 2, none⟩ = some (.int .i64 le.first.root) := by rw [hw8]; simp [go_sem]
      have pxxe3_8 : w8.cell? ⟨w7.heap.size, 3, none⟩ = some (.slice xe_a3 xe_n3 xe_c3) := by rw [hw8]; simp [go_sem]
      have pxxe4_8 : w8.cell? ⟨w7.heap.size, 4, none⟩ = some (.slice xe_a4 xe_n4 xe_c4) := by rw [hw8]; simp [go_sem]
      have pxxe5_8 : w8.cell? ⟨w7.heap.size, 5, none⟩ = some (.slice xe_a5 xe_n5 xe_c5) := by rw [hw8]; simp [go_sem]
      have pxxe6_8 : w8.cell? ⟨w7.heap.size, 6, none⟩ = some (.int .i64 le.second.author) := by rw [hw8]; simp [go_sem]
      have pxxe7_8 : w8.cell? ⟨w7.heap.size, 7, none⟩ = some (.int .i64 le.second.size) := by rw [hw8]; simp [go_sem]
      have pxxe8_8 : w8.cell? ⟨w7.heap.size, 8, none⟩ = some (.int .i64 le.second.root) := by rw [hw8]; simp [go_sem]
      have pxxe9_8 : w8.cell? ⟨w7.heap.size, 9, none⟩ = some (.slice xe_a9 xe_n9 xe_c9) := by rw [hw8]; simp [go_sem]
      have pxxe10_8 : w8.cell? ⟨w7.heap.size, 10, none⟩ = some (.slice xe_a10 xe_n10 xe_c10) := by rw [hw8]; simp [go_sem]
      have pxxe11_8 : w8.cell? ⟨w7.heap.size, 11, none⟩ = some (.slice xe_a11 xe_n11 xe_c11) := by rw [hw8]; simp [go_sem]
      clear hw8
      have HB8 := Lib.hid (Below.next HB7.out hb8)
      have hs8 := hb8.size
      have AJ8 := Lib.hid hb8; clear hb8
      have pxgr0_8 := box_at BXgr0.out HB8.out
      clear pxgr0_7
      have pxgr1_8 := box_at BXgr1.out HB8.out
      clear pxgr1_7
      have pxgr2_8 := box_at BXgr2.out HB8.out
      clear pxgr2_7
      have pxe0_8 := box_at BXe0.out HB8.out
      clear pxe0_7
      have pxe1_8 := box_at BXe1.out HB8.out
      clear pxe1_7
      have pxe2_8 := box_at BXe2.out HB8.out
      clear pxe2_7
      have pxe3_8 := box_at BXe3.out HB8.out
      clear pxe3_7
      have pxe4_8 := box_at BXe4.out HB8.out
      clear pxe4_7
      have pxe5_8 := box_at BXe5.out HB8.out
      clear pxe5_7
      have pxe6_8 := box_at BXe6.out HB8.out
      clear pxe6_7
      have pxe7_8 := box_at BXe7.out HB8.out
      clear pxe7_7
      have pxe8_8 := box_at BXe8.out HB8.out
      clear pxe8_7
      have pxe9_8 := box_at BXe9.out HB8.out
      clear pxe9_7
      have pxe10_8 := box_at BXe10.out HB8.out
      clear pxe10_7
      have pxe11_8 := box_at BXe11.out HB8.out
      clear pxe11_7
      go_region_held3 (fun w' => Below w8.heap.size w8 w' ∧ w'.cell? ⟨w.heap.size, 0, none⟩ = some (.int .i64 gr.p) ∧ w'.cell? ⟨w.heap.size, 1, none⟩ = some (.int .i64 gr.q) ∧ w'.cell? ⟨w.heap.size, 2, none⟩ = some (.int .i64 gr.g) ∧ w'.cell? ⟨w.heap.size + 1, 0, none⟩ = some (.int .i64 le.first.author) ∧ w'.cell? ⟨w.heap.size + 1, 1, none⟩ = some (.int .i64 le.first.size) ∧ w'.cell? ⟨w.heap.size + 1, 2, none⟩ = some (.int .i64 le.first.root) ∧ w'.cell? ⟨w.heap.size + 1, 3, none⟩ = some (.slice e_a3 e_n3 e_c3) ∧ w'.cell? ⟨w.heap.size + 1, 4, none⟩ = some (.slice e_a4 e_n4 e_c4) ∧ w'.cell? ⟨w.heap.size + 1, 5, none⟩ = some (.slice e_a5 e_n5 e_c5) ∧ w'.cell? ⟨w.heap.size + 1, 6, none⟩ = some (.int .i64 le.second.author) ∧ w'.cell? ⟨w.heap.size + 1, 7, none⟩ = some (.int .i64 le.second.size) ∧ w'.cell? ⟨w.heap.size + 1, 8, none⟩ = some (.int .i64 le.second.root) ∧ w'.cell? ⟨w.heap.size + 1, 9, none⟩ = some (.slice e_a9 e_n9 e_c9) ∧ w'.cell? ⟨w.heap.size + 1, 10, none⟩ = some (.slice e_a10 e_n10 e_c10) ∧ w'.cell? ⟨w.heap.size + 1, 11, none⟩ = some (.slice e_a11 e_n11 e_c11) ∧ w'.cell? ⟨w7.heap.size, 0, none⟩ = some (.int .i64 le.first.author) ∧ w'.cell? ⟨w7.heap.size, 1, none⟩ = some (.int .i64 le.first.size) ∧ w'.cell? ⟨w7.heap.size, 2, none⟩ = some (.int .i64 le.first.root) ∧ w'.cell? ⟨w7.heap.size, 3, none⟩ = some (.slice xe_a3 xe_n3 xe_c3) ∧ w'.cell? ⟨w7.heap.size, 4, none⟩ = some (.slice xe_a4 xe_n4 xe_c4) ∧ w'.cell? ⟨w7.heap.size, 5, none⟩ = some (.slice xe_a5 xe_n5 xe_c5) ∧ w'.cell? ⟨w7.heap.size, 6, none⟩ = some (.int .i64 le.second.author) ∧ w'.cell? ⟨w7.heap.size, 7, none⟩ = some (.int .i64 le.second.size) ∧ w'.cell? ⟨w7.heap.size, 8, none⟩ = some (.int .i64 le.second.root) ∧ w'.cell? ⟨w7.heap.size, 9, none⟩ = some (.slice xe_a9 xe_n9 xe_c9) ∧ w'.cell? ⟨w7.heap.size, 10, none⟩ = some (.slice xe_a10 xe_n10 xe_c10) ∧ w'.cell? ⟨w7.heap.size, 11, none⟩ = some (.slice xe_a11 xe_n11 xe_c11)) (first | (have hbq : Below w8.heap.size w8 _ := (Below.refl _ _).drew; exact ⟨hbq, box_at pxgr0_8 hbq, box_at pxgr1_8 hbq, box_at pxgr2_8 hbq, box_at pxe0_8 hbq, box_at pxe1_8 hbq, box_at pxe2_8 hbq, box_at pxe3_8 hbq, box_at pxe4_8 hbq, box_at pxe5_8 hbq, box_at pxe6_8 hbq, box_at pxe7_8 hbq, box_at pxe8_8 hbq, box_at pxe9_8 hbq, box_at pxe10_8 hbq, box_at pxe11_8 hbq, box_at pxxe0_8 hbq, box_at pxxe1_8 hbq, box_at pxxe2_8 hbq, box_at pxxe3_8 hbq, box_at pxxe4_8 hbq, box_at pxxe5_8 hbq, box_at pxxe6_8 hbq, box_at pxxe7_8 hbq, box_at pxxe8_8 hbq, box_at pxxe9_8 hbq, box_at pxxe10_8 hbq, box_at pxxe11_8 hbq⟩) | (have hbq := keep_b (by assumption) (‹Below w8.heap.size w8 _ ∧ _›).1; exact ⟨hbq, box_at pxgr0_8 hbq, box_at pxgr1_8 hbq, box_at pxgr2_8 hbq, box_at pxe0_8 hbq, box_at pxe1_8 hbq, box_at pxe2_8 hbq, box_at pxe3_8 hbq, box_at pxe4_8 hbq, box_at pxe5_8 hbq, box_at pxe6_8 hbq, box_at pxe7_8 hbq, box_at pxe8_8 hbq, box_at pxe9_8 hbq, box_at pxe10_8 hbq, box_at pxe11_8 hbq, box_at pxxe0_8 hbq, box_at pxxe1_8 hbq, box_at pxxe2_8 hbq, box_at pxxe3_8 hbq, box_at pxxe4_8 hbq, box_at pxxe5_8 hbq, box_at pxxe6_8 hbq, box_at pxxe7_8 hbq, box_at pxxe8_8 hbq, box_at pxxe9_8 hbq, box_at pxxe10_8 hbq, box_at pxxe11_8 hbq⟩) | fail) ((first
        | (go_at_call 51; refine (laws_toGroup gr _).mono ?_; rintro e w9 ⟨rfl, hb9⟩; (have AJ9 := Lib.hid (keep_b hb9 (Below.refl _ _).drew)); (have HB9 := Lib.hid (Below.next HB8.out AJ9.out)); (have hs9 : w8.heap.size ≤ w9.heap.size := AJ9.out.size); (have hbz := hb9))
        | (go_at_call 64; refine (impl_IsForkEvidence gr _ lkeys _ le _ (((Oxkeys.out.next AJ7.out).next AJ8.out).next AJ9.out).reads HZe.out ((kS rForkEvidence).own_rd (Kind.next (K := kS rForkEvidence) (Kind.next (K := kS rForkEvidence) Oxe.out AJ8.out) AJ9.out))).mono ?_; rintro e w10 ⟨rfl, hb10⟩; (have AJ10 := Lib.hid hb10); (have HB10 := Lib.hid (Below.next HB9.out AJ10.out)); (have hs10 : w9.heap.size ≤ w10.heap.size := AJ10.out.size); (have hbz := hb10))
        | fail))
      have hSS := (‹Below w8.heap.size w8 _ ∧ _›)
      clear pxgr0_8
      clear pxgr1_8
      clear pxgr2_8
      clear pxe0_8
      clear pxe1_8
      clear pxe2_8
      clear pxe3_8
      clear pxe4_8
      clear pxe5_8
      clear pxe6_8
      clear pxe7_8
      clear pxe8_8
      clear pxe9_8
      clear pxe10_8
      clear pxe11_8
      clear pxxe0_8
      clear pxxe1_8
      clear pxxe2_8
      clear pxxe3_8
      clear pxxe4_8
      clear pxxe5_8
      clear pxxe6_8
      clear pxxe7_8
      clear pxxe8_8
      clear pxxe9_8
      clear pxxe10_8
      clear pxxe11_8
      obtain ⟨hbS, pxgr0_10, pxgr1_10, pxgr2_10, pxe0_10, pxe1_10, pxe2_10, pxe3_10, pxe4_10, pxe5_10, pxe6_10, pxe7_10, pxe8_10, pxe9_10, pxe10_10, pxe11_10, pxxe0_10, pxxe1_10, pxxe2_10, pxxe3_10, pxxe4_10, pxxe5_10, pxxe6_10, pxxe7_10, pxxe8_10, pxxe9_10, pxxe10_10, pxxe11_10⟩ := hSS
      clear hbS
      clear hbz
      clear hb9
      clear hb10
      go_wp2_with fail
      refine (laws_toIntS _ lkeys _ (Hkeys.out.below HB10.out) (by rw [HLkeys.out]; omega)).mono ?_
      rintro e w11 ⟨ykeys, rfl, hX, hb11⟩
      have Oykeys := Lib.hid (InI.of_own hX); clear hX
      have HB11 := Lib.hid (Below.next HB10.out hb11)
      have hs11 := hb11.size
      have AJ11 := Lib.hid hb11; clear hb11
      have pxgr0_11 := box_at BXgr0.out HB11.out
      clear pxgr0_10
      have pxgr1_11 := box_at BXgr1.out HB11.out
      clear pxgr1_10
      have pxgr2_11 := box_at BXgr2.out HB11.out
      clear pxgr2_10
      have pxe0_11 := box_at BXe0.out HB11.out
      clear pxe0_10
      have pxe1_11 := box_at BXe1.out HB11.out
      clear pxe1_10
      have pxe2_11 := box_at BXe2.out HB11.out
      clear pxe2_10
      have pxe3_11 := box_at BXe3.out HB11.out
      clear pxe3_10
      have pxe4_11 := box_at BXe4.out HB11.out
      clear pxe4_10
      have pxe5_11 := box_at BXe5.out HB11.out
      clear pxe5_10
      have pxe6_11 := box_at BXe6.out HB11.out
      clear pxe6_10
      have pxe7_11 := box_at BXe7.out HB11.out
      clear pxe7_10
      have pxe8_11 := box_at BXe8.out HB11.out
      clear pxe8_10
      have pxe9_11 := box_at BXe9.out HB11.out
      clear pxe9_10
      have pxe10_11 := box_at BXe10.out HB11.out
      clear pxe10_10
      have pxe11_11 := box_at BXe11.out HB11.out
      clear pxe11_10
      have pxxe0_11 := box_at pxxe0_10 AJ11.out
      clear pxxe0_10
      have pxxe1_11 := box_at pxxe1_10 AJ11.out
      clear pxxe1_10
      have pxxe2_11 := box_at pxxe2_10 AJ11.out
      clear pxxe2_10
      have pxxe3_11 := box_at pxxe3_10 AJ11.out
      clear pxxe3_10
      have pxxe4_11 := box_at pxxe4_10 AJ11.out
      clear pxxe4_10
      have pxxe5_11 := box_at pxxe5_10 AJ11.out
      clear pxxe5_10
      have pxxe6_11 := box_at pxxe6_10 AJ11.out
      clear pxxe6_10
      have pxxe7_11 := box_at pxxe7_10 AJ11.out
      clear pxxe7_10
      have pxxe8_11 := box_at pxxe8_10 AJ11.out
      clear pxxe8_10
      have pxxe9_11 := box_at pxxe9_10 AJ11.out
      clear pxxe9_10
      have pxxe10_11 := box_at pxxe10_10 AJ11.out
      clear pxxe10_10
      have pxxe11_11 := box_at pxxe11_10 AJ11.out
      clear pxxe11_10
      go_wp2_with fail
      refine (laws_eqIntS _ _ _ _ _ (((((Oxkeys.out.next AJ7.out).next AJ8.out).next AJ9.out).next AJ10.out).next AJ11.out).reads Oykeys.out.reads).mono ?_
      rintro e w12 ⟨rfl, m12, hw12⟩
      have hb12 := Below.drewOf hw12; clear hw12
      rw [decide_eq_true rfl]
      have HB12 := Lib.hid (Below.next HB11.out hb12)
      have hs12 := hb12.size
      have AJ12 := Lib.hid hb12; clear hb12
      have pxgr0_12 := box_at BXgr0.out HB12.out
      clear pxgr0_11
      have pxgr1_12 := box_at BXgr1.out HB12.out
      clear pxgr1_11
      have pxgr2_12 := box_at BXgr2.out HB12.out
      clear pxgr2_11
      have pxe0_12 := box_at BXe0.out HB12.out
      clear pxe0_11
      have pxe1_12 := box_at BXe1.out HB12.out
      clear pxe1_11
      have pxe2_12 := box_at BXe2.out HB12.out
      clear pxe2_11
      have pxe3_12 := box_at BXe3.out HB12.out
      clear pxe3_11
      have pxe4_12 := box_at BXe4.out HB12.out
      clear pxe4_11
      have pxe5_12 := box_at BXe5.out HB12.out
      clear pxe5_11
      have pxe6_12 := box_at BXe6.out HB12.out
      clear pxe6_11
      have pxe7_12 := box_at BXe7.out HB12.out
      clear pxe7_11
      have pxe8_12 := box_at BXe8.out HB12.out
      clear pxe8_11
      have pxe9_12 := box_at BXe9.out HB12.out
      clear pxe9_11
      have pxe10_12 := box_at BXe10.out HB12.out
      clear pxe10_11
      have pxe11_12 := box_at BXe11.out HB12.out
      clear pxe11_11
      have pxxe0_12 := box_at pxxe0_11 AJ12.out
      clear pxxe0_11
      have pxxe1_12 := box_at pxxe1_11 AJ12.out
      clear pxxe1_11
      have pxxe2_12 := box_at pxxe2_11 AJ12.out
      clear pxxe2_11
      have pxxe3_12 := box_at pxxe3_11 AJ12.out
      clear pxxe3_11
      have pxxe4_12 := box_at pxxe4_11 AJ12.out
      clear pxxe4_11
      have pxxe5_12 := box_at pxxe5_11 AJ12.out
      clear pxxe5_11
      have pxxe6_12 := box_at pxxe6_11 AJ12.out
      clear pxxe6_11
      have pxxe7_12 := box_at pxxe7_11 AJ12.out
      clear pxxe7_11
      have pxxe8_12 := box_at pxxe8_11 AJ12.out
      clear pxxe8_11
      have pxxe9_12 := box_at pxxe9_11 AJ12.out
      clear pxxe9_11
      have pxxe10_12 := box_at pxxe10_11 AJ12.out
      clear pxxe10_11
      have pxxe11_12 := box_at pxxe11_11 AJ12.out
      clear pxxe11_11
      go_wp2_with fail
      go_region_held3 (fun w' => Below w12.heap.size w12 w' ∧ w'.cell? ⟨w.heap.size, 0, none⟩ = some (.int .i64 gr.p) ∧ w'.cell? ⟨w.heap.size, 1, none⟩ = some (.int .i64 gr.q) ∧ w'.cell? ⟨w.heap.size, 2, none⟩ = some (.int .i64 gr.g) ∧ w'.cell? ⟨w.heap.size + 1, 0, none⟩ = some (.int .i64 le.first.author) ∧ w'.cell? ⟨w.heap.size + 1, 1, none⟩ = some (.int .i64 le.first.size) ∧ w'.cell? ⟨w.heap.size + 1, 2, none⟩ = some (.int .i64 le.first.root) ∧ w'.cell? ⟨w.heap.size + 1, 3, none⟩ = some (.slice e_a3 e_n3 e_c3) ∧ w'.cell? ⟨w.heap.size + 1, 4, none⟩ = some (.slice e_a4 e_n4 e_c4) ∧ w'.cell? ⟨w.heap.size + 1, 5, none⟩ = some (.slice e_a5 e_n5 e_c5) ∧ w'.cell? ⟨w.heap.size + 1, 6, none⟩ = some (.int .i64 le.second.author) ∧ w'.cell? ⟨w.heap.size + 1, 7, none⟩ = some (.int .i64 le.second.size) ∧ w'.cell? ⟨w.heap.size + 1, 8, none⟩ = some (.int .i64 le.second.root) ∧ w'.cell? ⟨w.heap.size + 1, 9, none⟩ = some (.slice e_a9 e_n9 e_c9) ∧ w'.cell? ⟨w.heap.size + 1, 10, none⟩ = some (.slice e_a10 e_n10 e_c10) ∧ w'.cell? ⟨w.heap.size + 1, 11, none⟩ = some (.slice e_a11 e_n11 e_c11) ∧ w'.cell? ⟨w7.heap.size, 0, none⟩ = some (.int .i64 le.first.author) ∧ w'.cell? ⟨w7.heap.size, 1, none⟩ = some (.int .i64 le.first.size) ∧ w'.cell? ⟨w7.heap.size, 2, none⟩ = some (.int .i64 le.first.root) ∧ w'.cell? ⟨w7.heap.size, 3, none⟩ = some (.slice xe_a3 xe_n3 xe_c3) ∧ w'.cell? ⟨w7.heap.size, 4, none⟩ = some (.slice xe_a4 xe_n4 xe_c4) ∧ w'.cell? ⟨w7.heap.size, 5, none⟩ = some (.slice xe_a5 xe_n5 xe_c5) ∧ w'.cell? ⟨w7.heap.size, 6, none⟩ = some (.int .i64 le.second.author) ∧ w'.cell? ⟨w7.heap.size, 7, none⟩ = some (.int .i64 le.second.size) ∧ w'.cell? ⟨w7.heap.size, 8, none⟩ = some (.int .i64 le.second.root) ∧ w'.cell? ⟨w7.heap.size, 9, none⟩ = some (.slice xe_a9 xe_n9 xe_c9) ∧ w'.cell? ⟨w7.heap.size, 10, none⟩ = some (.slice xe_a10 xe_n10 xe_c10) ∧ w'.cell? ⟨w7.heap.size, 11, none⟩ = some (.slice xe_a11 xe_n11 xe_c11)) (first | (have hbq : Below w12.heap.size w12 _ := (Below.refl _ _).drew; exact ⟨hbq, box_at pxgr0_12 hbq, box_at pxgr1_12 hbq, box_at pxgr2_12 hbq, box_at pxe0_12 hbq, box_at pxe1_12 hbq, box_at pxe2_12 hbq, box_at pxe3_12 hbq, box_at pxe4_12 hbq, box_at pxe5_12 hbq, box_at pxe6_12 hbq, box_at pxe7_12 hbq, box_at pxe8_12 hbq, box_at pxe9_12 hbq, box_at pxe10_12 hbq, box_at pxe11_12 hbq, box_at pxxe0_12 hbq, box_at pxxe1_12 hbq, box_at pxxe2_12 hbq, box_at pxxe3_12 hbq, box_at pxxe4_12 hbq, box_at pxxe5_12 hbq, box_at pxxe6_12 hbq, box_at pxxe7_12 hbq, box_at pxxe8_12 hbq, box_at pxxe9_12 hbq, box_at pxxe10_12 hbq, box_at pxxe11_12 hbq⟩) | (have hbq := keep_b (by assumption) (‹Below w12.heap.size w12 _ ∧ _›).1; exact ⟨hbq, box_at pxgr0_12 hbq, box_at pxgr1_12 hbq, box_at pxgr2_12 hbq, box_at pxe0_12 hbq, box_at pxe1_12 hbq, box_at pxe2_12 hbq, box_at pxe3_12 hbq, box_at pxe4_12 hbq, box_at pxe5_12 hbq, box_at pxe6_12 hbq, box_at pxe7_12 hbq, box_at pxe8_12 hbq, box_at pxe9_12 hbq, box_at pxe10_12 hbq, box_at pxe11_12 hbq, box_at pxxe0_12 hbq, box_at pxxe1_12 hbq, box_at pxxe2_12 hbq, box_at pxxe3_12 hbq, box_at pxxe4_12 hbq, box_at pxxe5_12 hbq, box_at pxxe6_12 hbq, box_at pxxe7_12 hbq, box_at pxxe8_12 hbq, box_at pxxe9_12 hbq, box_at pxxe10_12 hbq, box_at pxxe11_12 hbq⟩) | fail) ((first
        | (go_at_call 63; refine (laws_toForkEvidence _ le _ ((kS rForkEvidence).rd_below He.out (HB12.out.trans ((‹Below w12.heap.size w12 _ ∧ _›).1.mono HB12.out.size))) HZe.out).mono ?_; rintro e wy ⟨yy, rfl, hX, hby⟩; obtain ⟨yy_a3, yy_n3, yy_c3, yy_a4, yy_n4, yy_c4, yy_a5, yy_n5, yy_c5, yy_a9, yy_n9, yy_c9, yy_a10, yy_n10, yy_c10, yy_a11, yy_n11, yy_c11, rfl, hrest⟩ := rdForkEvidence.1 ((kS rForkEvidence).own_rd hX); clear hrest)
        | (go_at_call 65; refine (laws_eqForkEvidence _ _ _ _ _ ((kS rForkEvidence).rd_below ((kS rForkEvidence).own_rd (Kind.next (K := kS rForkEvidence) (Kind.next (K := kS rForkEvidence) (Kind.next (K := kS rForkEvidence) (Kind.next (K := kS rForkEvidence) (Kind.next (K := kS rForkEvidence) Oxe.out AJ8.out) AJ9.out) AJ10.out) AJ11.out) AJ12.out)) (keep_b hby (Below.refl _ _).drew)) ((kS rForkEvidence).own_rd hX)).mono ?_; rintro e w13 ⟨rfl, hb13⟩; rw [decide_eq_true rfl])
        | fail))
      replace hb13 : Below w12.heap.size w12 w13 := (‹Below w12.heap.size w12 _ ∧ _›).1
      clear hX
      have HB13 := Lib.hid (Below.next HB12.out hb13)
      have hs13 := hb13.size
      have AJ13 := Lib.hid hb13; clear hb13
      have pxgr0_13 := box_at BXgr0.out HB13.out
      clear pxgr0_12
      have pxgr1_13 := box_at BXgr1.out HB13.out
      clear pxgr1_12
      have pxgr2_13 := box_at BXgr2.out HB13.out
      clear pxgr2_12
      have pxe0_13 := box_at BXe0.out HB13.out
      clear pxe0_12
      have pxe1_13 := box_at BXe1.out HB13.out
      clear pxe1_12
      have pxe2_13 := box_at BXe2.out HB13.out
      clear pxe2_12
      have pxe3_13 := box_at BXe3.out HB13.out
      clear pxe3_12
      have pxe4_13 := box_at BXe4.out HB13.out
      clear pxe4_12
      have pxe5_13 := box_at BXe5.out HB13.out
      clear pxe5_12
      have pxe6_13 := box_at BXe6.out HB13.out
      clear pxe6_12
      have pxe7_13 := box_at BXe7.out HB13.out
      clear pxe7_12
      have pxe8_13 := box_at BXe8.out HB13.out
      clear pxe8_12
      have pxe9_13 := box_at BXe9.out HB13.out
      clear pxe9_12
      have pxe10_13 := box_at BXe10.out HB13.out
      clear pxe10_12
      have pxe11_13 := box_at BXe11.out HB13.out
      clear pxe11_12
      have pxxe0_13 := box_at pxxe0_12 AJ13.out
      clear pxxe0_12
      have pxxe1_13 := box_at pxxe1_12 AJ13.out
      clear pxxe1_12
      have pxxe2_13 := box_at pxxe2_12 AJ13.out
      clear pxxe2_12
      have pxxe3_13 := box_at pxxe3_12 AJ13.out
      clear pxxe3_12
      have pxxe4_13 := box_at pxxe4_12 AJ13.out
      clear pxxe4_12
      have pxxe5_13 := box_at pxxe5_12 AJ13.out
      clear pxxe5_12
      have pxxe6_13 := box_at pxxe6_12 AJ13.out
      clear pxxe6_12
      have pxxe7_13 := box_at pxxe7_12 AJ13.out
      clear pxxe7_12
      have pxxe8_13 := box_at pxxe8_12 AJ13.out
      clear pxxe8_12
      have pxxe9_13 := box_at pxxe9_12 AJ13.out
      clear pxxe9_12
      have pxxe10_13 := box_at pxxe10_12 AJ13.out
      clear pxxe10_12
      have pxxe11_13 := box_at pxxe11_12 AJ13.out
      clear pxxe11_12
      go_wp2_with fail
      go_ret
      exact ⟨rfl, HWB.out.trans (HB13.out.mono HWB.out.size)⟩
end Go.Proofs.Ytapfceghgkmgoaa

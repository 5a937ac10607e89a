/- The walks of laws, by program (genlaw4.py). -/
import Derived.Test.YtapfceghgkmgoaaSea5
namespace Go.Proofs.Ytapfceghgkmgoaa
open Go.RowKit
set_option linter.unusedSimpArgs false
set_option linter.unusedVariables false

set_option maxRecDepth 100000 in
set_option maxHeartbeats 2000000 in
theorem law_SealedRecord (x : Value) (lx : SealedD) (w : World) (hx : (kS rSealed).rd w x lx) :
    Calls Try.prog 5 #[x] w fun e w' => e = .returned (.bool true) ∧ Below w.heap.size w w' := by
  obtain ⟨x_a1, x_n1, x_c1, x_a2, x_n2, x_c2, x_a3, x_n3, x_c3, x_a4, x_n4, x_c4, x_a5, x_n5, x_c5, rfl, hrestx⟩ := rdSealed.1 hx
  have hx : (kS rSealed).rd w (.agg #[.int .i64 lx.voter, .slice x_a1 x_n1 x_c1, .slice x_a2 x_n2 x_c2, .slice x_a3 x_n3 x_c3, .slice x_a4 x_n4 x_c4, .slice x_a5 x_n5 x_c5]) lx := rdSealed.2 ⟨_, _, _, _, _, _, _, _, _, _, _, _, _, _, _, rfl, hrestx⟩
  clear hrestx
  obtain ⟨W, hW⟩ : ∃ W, W = w.alloc (.cells #[.int .i64 lx.voter, .slice x_a1 x_n1 x_c1, .slice x_a2 x_n2 x_c2, .slice x_a3 x_n3 x_c3, .slice x_a4 x_n4 x_c4, .slice x_a5 x_n5 x_c5] 41) := ⟨_, rfl⟩
  have HWB : Hid (Below w.heap.size w W) := by unfold Hid; rw [hW]; (repeat (first | exact Below.refl _ _ | assumption | refine Below.drew ?_ | refine Below.alloc ?_ (by first | (simp; done) | (simp; omega)) _ | refine Below.setCell ?_ (by first | (simp; done) | (simp; omega)) _))
  have BXx0 : Hid (W.cell? ⟨w.heap.size, 0, none⟩ = some (.int .i64 lx.voter)) := by unfold Hid; rw [hW]; simp [go_sem]
  have BXx1 : Hid (W.cell? ⟨w.heap.size, 1, none⟩ = some (.slice x_a1 x_n1 x_c1)) := by unfold Hid; rw [hW]; simp [go_sem]
  have BXx2 : Hid (W.cell? ⟨w.heap.size, 2, none⟩ = some (.slice x_a2 x_n2 x_c2)) := by unfold Hid; rw [hW]; simp [go_sem]
  have BXx3 : Hid (W.cell? ⟨w.heap.size, 3, none⟩ = some (.slice x_a3 x_n3 x_c3)) := by unfold Hid; rw [hW]; simp [go_sem]
  have BXx4 : Hid (W.cell? ⟨w.heap.size, 4, none⟩ = some (.slice x_a4 x_n4 x_c4)) := by unfold Hid; rw [hW]; simp [go_sem]
  have BXx5 : Hid (W.cell? ⟨w.heap.size, 5, none⟩ = some (.slice x_a5 x_n5 x_c5)) := by unfold Hid; rw [hW]; simp [go_sem]
  replace hx := ((kS rSealed).rd_below hx HWB.out)
  have Hx := Lib.hid hx; clear hx
  go_enter Try.func5, Try.ntmps5
  go_wp2_with fail
  rw [← hW]
  clear hW
  have pxx0_0 := BXx0.out
  have pxx1_0 := BXx1.out
  have pxx2_0 := BXx2.out
  have pxx3_0 := BXx3.out
  have pxx4_0 := BXx4.out
  have pxx5_0 := BXx5.out
  refine (laws_szSealed _ lx 1048576 _ ((kS rSealed).rd_below Hx.out (Below.refl _ _)) (by decide) (by decide)).mono ?_
  rintro e w1 ⟨⟨r0, rfl, hr0, hsz0⟩, hb1⟩
  replace hsz0 : 0 ≤ r0 → (szSealed lx : Int) ≤ 1048576 ∧ r0 ≤ 1048576 := fun h => by have := hsz0 h; omega
  have HB1 := Lib.hid (Below.next (Below.refl _ _) hb1)
  have hs1 := hb1.size
  have AJ1 := Lib.hid hb1; clear hb1
  have pxx0_1 := box_at BXx0.out HB1.out
  clear pxx0_0
  have pxx1_1 := box_at BXx1.out HB1.out
  clear pxx1_0
  have pxx2_1 := box_at BXx2.out HB1.out
  clear pxx2_0
  have pxx3_1 := box_at BXx3.out HB1.out
  clear pxx3_0
  have pxx4_1 := box_at BXx4.out HB1.out
  clear pxx4_0
  have pxx5_1 := box_at BXx5.out HB1.out
  clear pxx5_0
  by_cases hneg0 : r0 < 0
  · go_wp2_with fail
    go_ret
    exact ⟨rfl, HWB.out.trans (HB1.out.mono HWB.out.size)⟩
  · have HZx : Hid ((szSealed lx : Int) ≤ 1000000000) := by have := (hsz0 (by omega)).1; unfold Hid; omega
    have HYx : Hid ((szSealed lx : Int) ≤ 1048576) := by have := (hsz0 (by omega)).1; unfold Hid; omega
    have hrb0 : r0 ≤ 1048576 := by have := (hsz0 (by omega)).2; omega
    clear hsz0
    go_wp2_with fail
    refine (laws_toSealed _ lx _ ((kS rSealed).rd_below Hx.out HB1.out) HZx.out).mono ?_
    rintro e w2 ⟨sx, rfl, hX, hb2⟩
    have Osx := Lib.hid (hX); clear hX
    obtain ⟨sx_a1, sx_n1, sx_c1, sx_a2, sx_n2, sx_c2, sx_a3, sx_n3, sx_c3, sx_a4, sx_n4, sx_c4, sx_a5, sx_n5, sx_c5, rfl, hrest⟩ := rdSealed.1 ((kS rSealed).own_rd Osx.out)
    clear hrest
    have HB2 := Lib.hid (Below.next HB1.out hb2)
    have hs2 := hb2.size
    have AJ2 := Lib.hid hb2; clear hb2
    have pxx0_2 := box_at BXx0.out HB2.out
    clear pxx0_1
    have pxx1_2 := box_at BXx1.out HB2.out
    clear pxx1_1
    have pxx2_2 := box_at BXx2.out HB2.out
    clear pxx2_1
    have pxx3_2 := box_at BXx3.out HB2.out
    clear pxx3_1
    have pxx4_2 := box_at BXx4.out HB2.out
    clear pxx4_1
    have pxx5_2 := box_at BXx5.out HB2.out
    clear pxx5_1
    go_wp2_with fail
    refine (spec_SealedRecord _ lx _ HYx.out ((kS rSealed).own_rd Osx.out)).mono ?_
    rintro e w3 ⟨want0, rfl, hXwant0, hb3⟩
    have Owant0 := Lib.hid hXwant0; clear hXwant0
    have HB3 := Lib.hid (Below.next HB2.out hb3)
    have hs3 := hb3.size
    have AJ3 := Lib.hid hb3; clear hb3
    have pxx0_3 := box_at BXx0.out HB3.out
    clear pxx0_2
    have pxx1_3 := box_at BXx1.out HB3.out
    clear pxx1_2
    have pxx2_3 := box_at BXx2.out HB3.out
    clear pxx2_2
    have pxx3_3 := box_at BXx3.out HB3.out
    clear pxx3_2
    have pxx4_3 := box_at BXx4.out HB3.out
    clear pxx4_2
    have pxx5_3 := box_at BXx5.out HB3.out
    clear pxx5_2
    go_wp2_with fail
    refine (laws_toSealed _ lx _ ((kS rSealed).rd_below Hx.out HB3.out) HZx.out).mono ?_
    rintro e w4 ⟨xx, rfl, hX, hb4⟩
    have Oxx := Lib.hid (hX); clear hX
    obtain ⟨xx_a1, xx_n1, xx_c1, xx_a2, xx_n2, xx_c2, xx_a3, xx_n3, xx_c3, xx_a4, xx_n4, xx_c4, xx_a5, xx_n5, xx_c5, rfl, hrest⟩ := rdSealed.1 ((kS rSealed).own_rd Oxx.out)
    clear hrest
    have HB4 := Lib.hid (Below.next HB3.out hb4)
    have hs4 := hb4.size
    have AJ4 := Lib.hid hb4; clear hb4
    have pxx0_4 := box_at BXx0.out HB4.out
    clear pxx0_3
    have pxx1_4 := box_at BXx1.out HB4.out
    clear pxx1_3
    have pxx2_4 := box_at BXx2.out HB4.out
    clear pxx2_3
    have pxx3_4 := box_at BXx3.out HB4.out
    clear pxx3_3
    have pxx4_4 := box_at BXx4.out HB4.out
    clear pxx4_3
    have pxx5_4 := box_at BXx5.out HB4.out
    clear pxx5_3
    have zl0 : w.heap.size < w4.heap.size := World.block_lt_of_cell? _ _ pxx0_4
    go_wp2_with fail
    clear zl0
    obtain ⟨w5, hw5⟩ : ∃ u, u = w4.alloc (.cells #[.int .i64 lx.voter, .slice xx_a1 xx_n1 xx_c1, .slice xx_a2 xx_n2 xx_c2, .slice xx_a3 xx_n3 xx_c3, .slice xx_a4 xx_n4 xx_c4, .slice xx_a5 xx_n5 xx_c5] 49) := ⟨_, rfl⟩
    rw [← hw5]
    have hb5 : Below w4.heap.size w4 w5 := by rw [hw5]; exact (Below.refl _ _).alloc (Nat.le_refl _) _
    have hlt5 : w4.heap.size < w5.heap.size := by rw [hw5]; simp
    have pxxx0_5 : w5.cell? ⟨w4.heap.size, 0, none⟩ = some (.int .i64 lx.voter) := by rw [hw5]; simp [go_sem]
    have pxxx1_5 : w5.cell? ⟨w4.heap.size, 1, none⟩ = some (.slice xx_a1 xx_n1 xx_c1) := by rw [hw5]; simp [go_sem]
    have pxxx2_5 : w5.cell? ⟨w4.heap.size, 2, none⟩ = some (.slice xx_a2 xx_n2 xx_c2) := by rw [hw5]; simp [go_sem]
    have pxxx3_5 : w5.cell? ⟨w4.heap.size, 3, none⟩ = some (.slice xx_a3 xx_n3 xx_c3) := by rw [hw5]; simp [go_sem]
    have pxxx4_5 : w5.cell? ⟨w4.heap.size, 4, none⟩ = some (.slice xx_a4 xx_n4 xx_c4) := by rw [hw5]; simp [go_sem]
    have pxxx5_5 : w5.cell? ⟨w4.heap.size, 5, none⟩ = some (.slice xx_a5 xx_n5 xx_c5) := by rw [hw5]; simp [go_sem]
    clear hw5
    have HB5 := Lib.hid (Below.next HB4.out hb5)
    have hs5 := hb5.size
    have AJ5 := Lib.hid hb5; clear hb5
    have pxx0_5 := box_at BXx0.out HB5.out
    clear pxx0_4
    have pxx1_5 := box_at BXx1.out HB5.out
    clear pxx1_4
    have pxx2_5 := box_at BXx2.out HB5.out
    clear pxx2_4
    have pxx3_5 := box_at BXx3.out HB5.out
    clear pxx3_4
    have pxx4_5 := box_at BXx4.out HB5.out
    clear pxx4_4
    have pxx5_5 := box_at BXx5.out HB5.out
    clear pxx5_4
    refine (impl_SealedRecord _ lx _ HYx.out ((kS rSealed).own_rd (Kind.next (K := kS rSealed) Oxx.out AJ5.out))).mono ?_
    rintro e w6 ⟨got0, rfl, hXgot0, hb6⟩
    have Ogot0 := Lib.hid hXgot0; clear hXgot0
    have HB6 := Lib.hid (Below.next HB5.out hb6)
    have hs6 := hb6.size
    have AJ6 := Lib.hid hb6; clear hb6
    have pxx0_6 := box_at BXx0.out HB6.out
    clear pxx0_5
    have pxx1_6 := box_at BXx1.out HB6.out
    clear pxx1_5
    have pxx2_6 := box_at BXx2.out HB6.out
    clear pxx2_5
    have pxx3_6 := box_at BXx3.out HB6.out
    clear pxx3_5
    have pxx4_6 := box_at BXx4.out HB6.out
    clear pxx4_5
    have pxx5_6 := box_at BXx5.out HB6.out
    clear pxx5_5
    have pxxx0_6 := box_at pxxx0_5 AJ6.out
    clear pxxx0_5
    have pxxx1_6 := box_at pxxx1_5 AJ6.out
    clear pxxx1_5
    have pxxx2_6 := box_at pxxx2_5 AJ6.out
    clear pxxx2_5
    have pxxx3_6 := box_at pxxx3_5 AJ6.out
    clear pxxx3_5
    have pxxx4_6 := box_at pxxx4_5 AJ6.out
    clear pxxx4_5
    have pxxx5_6 := box_at pxxx5_5 AJ6.out
    clear pxxx5_5
    go_wp2_with fail
    refine (laws_eqIntS _ _ _ _ _ Ogot0.out.reads (((Owant0.out.next AJ4.out).next AJ5.out).next AJ6.out).reads).mono ?_
    rintro e w7 ⟨rfl, m7, hw7⟩
    have hb7 := Below.drewOf hw7; clear hw7
    rw [decide_eq_true rfl]
    have HB7 := Lib.hid (Below.next HB6.out hb7)
    have hs7 := hb7.size
    have AJ7 := Lib.hid hb7; clear hb7
    have pxx0_7 := box_at BXx0.out HB7.out
    clear pxx0_6
    have pxx1_7 := box_at BXx1.out HB7.out
    clear pxx1_6
    have pxx2_7 := box_at BXx2.out HB7.out
    clear pxx2_6
    have pxx3_7 := box_at BXx3.out HB7.out
    clear pxx3_6
    have pxx4_7 := box_at BXx4.out HB7.out
    clear pxx4_6
    have pxx5_7 := box_at BXx5.out HB7.out
    clear pxx5_6
    have pxxx0_7 := box_at pxxx0_6 AJ7.out
    clear pxxx0_6
    have pxxx1_7 := box_at pxxx1_6 AJ7.out
    clear pxxx1_6
    have pxxx2_7 := box_at pxxx2_6 AJ7.out
    clear pxxx2_6
    have pxxx3_7 := box_at pxxx3_6 AJ7.out
    clear pxxx3_6
    have pxxx4_7 := box_at pxxx4_6 AJ7.out
    clear pxxx4_6
    have pxxx5_7 := box_at pxxx5_6 AJ7.out
    clear pxxx5_6
    go_wp2_with fail
    go_region_held3 (fun w' => Below w7.heap.size w7 w' ∧ w'.cell? ⟨w.heap.size, 0, none⟩ = some (.int .i64 lx.voter) ∧ w'.cell? ⟨w.heap.size, 1, none⟩ = some (.slice x_a1 x_n1 x_c1) ∧ w'.cell? ⟨w.heap.size, 2, none⟩ = some (.slice x_a2 x_n2 x_c2) ∧ w'.cell? ⟨w.heap.size, 3, none⟩ = some (.slice x_a3 x_n3 x_c3) ∧ w'.cell? ⟨w.heap.size, 4, none⟩ = some (.slice x_a4 x_n4 x_c4) ∧ w'.cell? ⟨w.heap.size, 5, none⟩ = some (.slice x_a5 x_n5 x_c5) ∧ w'.cell? ⟨w4.heap.size, 0, none⟩ = some (.int .i64 lx.voter) ∧ w'.cell? ⟨w4.heap.size, 1, none⟩ = some (.slice xx_a1 xx_n1 xx_c1) ∧ w'.cell? ⟨w4.heap.size, 2, none⟩ = some (.slice xx_a2 xx_n2 xx_c2) ∧ w'.cell? ⟨w4.heap.size, 3, none⟩ = some (.slice xx_a3 xx_n3 xx_c3) ∧ w'.cell? ⟨w4.heap.size, 4, none⟩ = some (.slice xx_a4 xx_n4 xx_c4) ∧ w'.cell? ⟨w4.heap.size, 5, none⟩ = some (.slice xx_a5 xx_n5 xx_c5)) (first | (have hbq : Below w7.heap.size w7 _ := (Below.refl _ _).drew; exact ⟨hbq, box_at pxx0_7 hbq, box_at pxx1_7 hbq, box_at pxx2_7 hbq, box_at pxx3_7 hbq, box_at pxx4_7 hbq, box_at pxx5_7 hbq, box_at pxxx0_7 hbq, box_at pxxx1_7 hbq, box_at pxxx2_7 hbq, box_at pxxx3_7 hbq, box_at pxxx4_7 hbq, box_at pxxx5_7 hbq⟩) | (have hbq := keep_b (by assumption) (‹Below w7.heap.size w7 _ ∧ _›).1; exact ⟨hbq, box_at pxx0_7 hbq, box_at pxx1_7 hbq, box_at pxx2_7 hbq, box_at pxx3_7 hbq, box_at pxx4_7 hbq, box_at pxx5_7 hbq, box_at pxxx0_7 hbq, box_at pxxx1_7 hbq, box_at pxxx2_7 hbq, box_at pxxx3_7 hbq, box_at pxxx4_7 hbq, box_at pxxx5_7 hbq⟩) | fail) ((first
      | (go_at_call 28; refine (laws_toSealed _ lx _ ((kS rSealed).rd_below Hx.out (HB7.out.trans ((‹Below w7.heap.size w7 _ ∧ _›).1.mono HB7.out.size))) HZx.out).mono ?_; rintro e wy ⟨yy, rfl, hX, hby⟩; obtain ⟨yy_a1, yy_n1, yy_c1, yy_a2, yy_n2, yy_c2, yy_a3, yy_n3, yy_c3, yy_a4, yy_n4, yy_c4, yy_a5, yy_n5, yy_c5, rfl, hrest⟩ := rdSealed.1 ((kS rSealed).own_rd hX); clear hrest)
      | (go_at_call 30; refine (laws_eqSealed _ _ _ _ _ ((kS rSealed).rd_below ((kS rSealed).own_rd (Kind.next (K := kS rSealed) (Kind.next (K := kS rSealed) (Kind.next (K := kS rSealed) Oxx.out AJ5.out) AJ6.out) AJ7.out)) (keep_b hby (Below.refl _ _).drew)) ((kS rSealed).own_rd hX)).mono ?_; rintro e w8 ⟨rfl, hb8⟩; rw [decide_eq_true rfl])
      | fail))
    replace hb8 : Below w7.heap.size w7 w8 := (‹Below w7.heap.size w7 _ ∧ _›).1
    clear hX
    have HB8 := Lib.hid (Below.next HB7.out hb8)
    have hs8 := hb8.size
    have AJ8 := Lib.hid hb8; clear hb8
    have pxx0_8 := box_at BXx0.out HB8.out
    clear pxx0_7
    have pxx1_8 := box_at BXx1.out HB8.out
    clear pxx1_7
    have pxx2_8 := box_at BXx2.out HB8.out
    clear pxx2_7
    have pxx3_8 := box_at BXx3.out HB8.out
    clear pxx3_7
    have pxx4_8 := box_at BXx4.out HB8.out
    clear pxx4_7
    have pxx5_8 := box_at BXx5.out HB8.out
    clear pxx5_7
    have pxxx0_8 := box_at pxxx0_7 AJ8.out
    clear pxxx0_7
    have pxxx1_8 := box_at pxxx1_7 AJ8.out
    clear pxxx1_7
    have pxxx2_8 := box_at pxxx2_7 AJ8.out
    clear pxxx2_7
    have pxxx3_8 := box_at pxxx3_7 AJ8.out
    clear pxxx3_7
    have pxxx4_8 := box_at pxxx4_7 AJ8.out
    clear pxxx4_7
    have pxxx5_8 := box_at pxxx5_7 AJ8.out
    clear pxxx5_7
    go_wp2_with fail
    refine (laws_markSealed _ _ _ 1 _ _ (Kind.next (K := kS rSealed) (Kind.next (K := kS rSealed) (Kind.next (K := kS rSealed) (Kind.next (K := kS rSealed) Oxx.out AJ5.out) AJ6.out) AJ7.out) AJ8.out) (by have := HZx.out; have := cnSealed_le lx; omega) (by omega)).mono ?_
    rintro e w9 ⟨rfl, hX, hG9⟩
    have Oxxm := Lib.hid hX; clear hX
    have hs9 := hG9.size
    have HB9 := Lib.hid (HB8.out.trans (hG9.below (B := W.heap.size) (by omega) (by omega)))
    have HG9 := Lib.hid hG9; clear hG9
    have pxx0_9 := box_at BXx0.out HB9.out
    clear pxx0_8
    have pxx1_9 := box_at BXx1.out HB9.out
    clear pxx1_8
    have pxx2_9 := box_at BXx2.out HB9.out
    clear pxx2_8
    have pxx3_9 := box_at BXx3.out HB9.out
    clear pxx3_8
    have pxx4_9 := box_at BXx4.out HB9.out
    clear pxx4_8
    have pxx5_9 := box_at BXx5.out HB9.out
    clear pxx5_8
    have pxxx0_9 := within_at HG9.out pxxx0_8 (by omega)
    clear pxxx0_8
    have pxxx1_9 := within_at HG9.out pxxx1_8 (by omega)
    clear pxxx1_8
    have pxxx2_9 := within_at HG9.out pxxx2_8 (by omega)
    clear pxxx2_8
    have pxxx3_9 := within_at HG9.out pxxx3_8 (by omega)
    clear pxxx3_8
    have pxxx4_9 := within_at HG9.out pxxx4_8 (by omega)
    clear pxxx4_8
    have pxxx5_9 := within_at HG9.out pxxx5_8 (by omega)
    clear pxxx5_8
    go_wp2_with fail
    refine (laws_eqIntS _ _ _ _ _ (((Ogot0.out.next AJ7.out).next AJ8.out).kept HG9.out (.inr (by omega))).reads ((((((Owant0.out.next AJ4.out).next AJ5.out).next AJ6.out).next AJ7.out).next AJ8.out).kept HG9.out (.inl (by omega))).reads).mono ?_
    rintro e w10 ⟨rfl, m10, hw10⟩
    have hb10 := Below.drewOf hw10; clear hw10
    rw [decide_eq_true rfl]
    have HB10 := Lib.hid (Below.next HB9.out hb10)
    have hs10 := hb10.size
    have AJ10 := Lib.hid hb10; clear hb10
    have pxx0_10 := box_at BXx0.out HB10.out
    clear pxx0_9
    have pxx1_10 := box_at BXx1.out HB10.out
    clear pxx1_9
    have pxx2_10 := box_at BXx2.out HB10.out
    clear pxx2_9
    have pxx3_10 := box_at BXx3.out HB10.out
    clear pxx3_9
    have pxx4_10 := box_at BXx4.out HB10.out
    clear pxx4_9
    have pxx5_10 := box_at BXx5.out HB10.out
    clear pxx5_9
    have pxxx0_10 := box_at pxxx0_9 AJ10.out
    clear pxxx0_9
    have pxxx1_10 := box_at pxxx1_9 AJ10.out
    clear pxxx1_9
    have pxxx2_10 := box_at pxxx2_9 AJ10.out
    clear pxxx2_9
    have pxxx3_10 := box_at pxxx3_9 AJ10.out
    clear pxxx3_9
    have pxxx4_10 := box_at pxxx4_9 AJ10.out
    clear pxxx4_9
    have pxxx5_10 := box_at pxxx5_9 AJ10.out
    clear pxxx5_9
    have LG0 : Hid (1 + ((seaR lx)).length ≤ 9223372036854775806) := by have := seaR_length lx; unfold Hid; omega
    go_wp2_with fail
    refine (laws_markIntS_in _ _ _ 1 _ _ ((((Ogot0.out.next AJ7.out).next AJ8.out).kept HG9.out (.inr (by omega))).next AJ10.out) (by omega) (by exact LG0.out)).mono ?_
    rintro e w11 ⟨rfl, hX, hG11⟩
    have Ogot0m := Lib.hid hX; clear hX
    have hs11 := hG11.size
    have HB11 := Lib.hid (HB10.out.trans (hG11.below (B := W.heap.size) (by omega) (by omega)))
    have HG11 := Lib.hid hG11; clear hG11
    have pxx0_11 := box_at BXx0.out HB11.out
    clear pxx0_10
    have pxx1_11 := box_at BXx1.out HB11.out
    clear pxx1_10
    have pxx2_11 := box_at BXx2.out HB11.out
    clear pxx2_10
    have pxx3_11 := box_at BXx3.out HB11.out
    clear pxx3_10
    have pxx4_11 := box_at BXx4.out HB11.out
    clear pxx4_10
    have pxx5_11 := box_at BXx5.out HB11.out
    clear pxx5_10
    have pxxx0_11 := within_at HG11.out pxxx0_10 (by omega)
    clear pxxx0_10
    have pxxx1_11 := within_at HG11.out pxxx1_10 (by omega)
    clear pxxx1_10
    have pxxx2_11 := within_at HG11.out pxxx2_10 (by omega)
    clear pxxx2_10
    have pxxx3_11 := within_at HG11.out pxxx3_10 (by omega)
    clear pxxx3_10
    have pxxx4_11 := within_at HG11.out pxxx4_10 (by omega)
    clear pxxx4_10
    have pxxx5_11 := within_at HG11.out pxxx5_10 (by omega)
    clear pxxx5_10
    go_wp2_with fail
    refine (laws_heldIntS_yes _ 1 _ _ Ogot0m.out.reads (by simp only [marks_length]; exact LG0.out) (fun j hj => nth_marks (by simpa only [marks_length] using hj))).mono ?_
    rintro e w12 ⟨rfl, m12, hw12⟩
    have hb12 := Below.drewOf hw12; clear hw12
    rw [marks_length]
    have HB12 := Lib.hid (Below.next HB11.out hb12)
    have hs12 := hb12.size
    have AJ12 := Lib.hid hb12; clear hb12
    have pxx0_12 := box_at BXx0.out HB12.out
    clear pxx0_11
    have pxx1_12 := box_at BXx1.out HB12.out
    clear pxx1_11
    have pxx2_12 := box_at BXx2.out HB12.out
    clear pxx2_11
    have pxx3_12 := box_at BXx3.out HB12.out
    clear pxx3_11
    have pxx4_12 := box_at BXx4.out HB12.out
    clear pxx4_11
    have pxx5_12 := box_at BXx5.out HB12.out
    clear pxx5_11
    have pxxx0_12 := box_at pxxx0_11 AJ12.out
    clear pxxx0_11
    have pxxx1_12 := box_at pxxx1_11 AJ12.out
    clear pxxx1_11
    have pxxx2_12 := box_at pxxx2_11 AJ12.out
    clear pxxx2_11
    have pxxx3_12 := box_at pxxx3_11 AJ12.out
    clear pxxx3_11
    have pxxx4_12 := box_at pxxx4_11 AJ12.out
    clear pxxx4_11
    have pxxx5_12 := box_at pxxx5_11 AJ12.out
    clear pxxx5_11
    go_wp2_with fail
    refine (laws_toSealed _ lx _ ((kS rSealed).rd_below Hx.out HB12.out) HZx.out).mono ?_
    rintro e w13 ⟨zx, rfl, hX, hb13⟩
    have Ozx := Lib.hid (hX); clear hX
    obtain ⟨zx_a1, zx_n1, zx_c1, zx_a2, zx_n2, zx_c2, zx_a3, zx_n3, zx_c3, zx_a4, zx_n4, zx_c4, zx_a5, zx_n5, zx_c5, rfl, hrest⟩ := rdSealed.1 ((kS rSealed).own_rd Ozx.out)
    clear hrest
    have HB13 := Lib.hid (Below.next HB12.out hb13)
    have hs13 := hb13.size
    have AJ13 := Lib.hid hb13; clear hb13
    have pxx0_13 := box_at BXx0.out HB13.out
    clear pxx0_12
    have pxx1_13 := box_at BXx1.out HB13.out
    clear pxx1_12
    have pxx2_13 := box_at BXx2.out HB13.out
    clear pxx2_12
    have pxx3_13 := box_at BXx3.out HB13.out
    clear pxx3_12
    have pxx4_13 := box_at BXx4.out HB13.out
    clear pxx4_12
    have pxx5_13 := box_at BXx5.out HB13.out
    clear pxx5_12
    have pxxx0_13 := box_at pxxx0_12 AJ13.out
    clear pxxx0_12
    have pxxx1_13 := box_at pxxx1_12 AJ13.out
    clear pxxx1_12
    have pxxx2_13 := box_at pxxx2_12 AJ13.out
    clear pxxx2_12
    have pxxx3_13 := box_at pxxx3_12 AJ13.out
    clear pxxx3_12
    have pxxx4_13 := box_at pxxx4_12 AJ13.out
    clear pxxx4_12
    have pxxx5_13 := box_at pxxx5_12 AJ13.out
    clear pxxx5_12
    go_wp2_with fail
    refine (impl_SealedRecord _ lx _ HYx.out ((kS rSealed).own_rd Ozx.out)).mono ?_
    rintro e w14 ⟨again0, rfl, hXagain0, hb14⟩
    have Oagain0 := Lib.hid hXagain0; clear hXagain0
    have HB14 := Lib.hid (Below.next HB13.out hb14)
    have hs14 := hb14.size
    have AJ14 := Lib.hid hb14; clear hb14
    have pxx0_14 := box_at BXx0.out HB14.out
    clear pxx0_13
    have pxx1_14 := box_at BXx1.out HB14.out
    clear pxx1_13
    have pxx2_14 := box_at BXx2.out HB14.out
    clear pxx2_13
    have pxx3_14 := box_at BXx3.out HB14.out
    clear pxx3_13
    have pxx4_14 := box_at BXx4.out HB14.out
    clear pxx4_13
    have pxx5_14 := box_at BXx5.out HB14.out
    clear pxx5_13
    have pxxx0_14 := box_at pxxx0_13 AJ14.out
    clear pxxx0_13
    have pxxx1_14 := box_at pxxx1_13 AJ14.out
    clear pxxx1_13
    have pxxx2_14 := box_at pxxx2_13 AJ14.out
    clear pxxx2_13
    have pxxx3_14 := box_at pxxx3_13 AJ14.out
    clear pxxx3_13
    have pxxx4_14 := box_at pxxx4_13 AJ14.out
    clear pxxx4_13
    have pxxx5_14 := box_at pxxx5_13 AJ14.out
    clear pxxx5_13
    go_wp2_with fail
    refine (laws_eqIntS _ _ _ _ _ Oagain0.out.reads (((((((((((Owant0.out.next AJ4.out).next AJ5.out).next AJ6.out).next AJ7.out).next AJ8.out).kept HG9.out (.inl (by omega))).next AJ10.out).kept HG11.out (.inl (by omega))).next AJ12.out).next AJ13.out).next AJ14.out).reads).mono ?_
    rintro e w15 ⟨rfl, m15, hw15⟩
    have hb15 := Below.drewOf hw15; clear hw15
    rw [decide_eq_true rfl]
    have HB15 := Lib.hid (Below.next HB14.out hb15)
    have hs15 := hb15.size
    have AJ15 := Lib.hid hb15; clear hb15
    have pxx0_15 := box_at BXx0.out HB15.out
    clear pxx0_14
    have pxx1_15 := box_at BXx1.out HB15.out
    clear pxx1_14
    have pxx2_15 := box_at BXx2.out HB15.out
    clear pxx2_14
    have pxx3_15 := box_at BXx3.out HB15.out
    clear pxx3_14
    have pxx4_15 := box_at BXx4.out HB15.out
    clear pxx4_14
    have pxx5_15 := box_at BXx5.out HB15.out
    clear pxx5_14
    have pxxx0_15 := box_at pxxx0_14 AJ15.out
    clear pxxx0_14
    have pxxx1_15 := box_at pxxx1_14 AJ15.out
    clear pxxx1_14
    have pxxx2_15 := box_at pxxx2_14 AJ15.out
    clear pxxx2_14
    have pxxx3_15 := box_at pxxx3_14 AJ15.out
    clear pxxx3_14
    have pxxx4_15 := box_at pxxx4_14 AJ15.out
    clear pxxx4_14
    have pxxx5_15 := box_at pxxx5_14 AJ15.out
    clear pxxx5_14
    go_wp2_with fail
    refine (laws_heldIntS_yes _ 1 _ _ ((((Ogot0m.out.next AJ12.out).next AJ13.out).next AJ14.out).next AJ15.out).reads (by simp only [marks_length]; exact LG0.out) (fun j hj => nth_marks (by simpa only [marks_length] using hj))).mono ?_
    rintro e w16 ⟨rfl, m16, hw16⟩
    have hb16 := Below.drewOf hw16; clear hw16
    rw [marks_length]
    have HB16 := Lib.hid (Below.next HB15.out hb16)
    have hs16 := hb16.size
    have AJ16 := Lib.hid hb16; clear hb16
    have pxx0_16 := box_at BXx0.out HB16.out
    clear pxx0_15
    have pxx1_16 := box_at BXx1.out HB16.out
    clear pxx1_15
    have pxx2_16 := box_at BXx2.out HB16.out
    clear pxx2_15
    have pxx3_16 := box_at BXx3.out HB16.out
    clear pxx3_15
    have pxx4_16 := box_at BXx4.out HB16.out
    clear pxx4_15
    have pxx5_16 := box_at BXx5.out HB16.out
    clear pxx5_15
    have pxxx0_16 := box_at pxxx0_15 AJ16.out
    clear pxxx0_15
    have pxxx1_16 := box_at pxxx1_15 AJ16.out
    clear pxxx1_15
    have pxxx2_16 := box_at pxxx2_15 AJ16.out
    clear pxxx2_15
    have pxxx3_16 := box_at pxxx3_15 AJ16.out
    clear pxxx3_15
    have pxxx4_16 := box_at pxxx4_15 AJ16.out
    clear pxxx4_15
    have pxxx5_16 := box_at pxxx5_15 AJ16.out
    clear pxxx5_15
    go_wp2_with fail
    go_ret
    exact ⟨rfl, HWB.out.trans (HB16.out.mono HWB.out.size)⟩
set_option maxRecDepth 100000 in
set_option maxHeartbeats 2000000 in
theorem law_SealedDigest (x : Value) (lx : SealedD) (w : World) (hx : (kS rSealed).rd w x lx) :
    Calls Try.prog 4 #[x] w fun e w' => e = .returned (.bool true) ∧ Below w.heap.size w w' := by
  obtain ⟨x_a1, x_n1, x_c1, x_a2, x_n2, x_c2, x_a3, x_n3, x_c3, x_a4, x_n4, x_c4, x_a5, x_n5, x_c5, rfl, hrestx⟩ := rdSealed.1 hx
  have hx : (kS rSealed).rd w (.agg #[.int .i64 lx.voter, .slice x_a1 x_n1 x_c1, .slice x_a2 x_n2 x_c2, .slice x_a3 x_n3 x_c3, .slice x_a4 x_n4 x_c4, .slice x_a5 x_n5 x_c5]) lx := rdSealed.2 ⟨_, _, _, _, _, _, _, _, _, _, _, _, _, _, _, rfl, hrestx⟩
  clear hrestx
  obtain ⟨W, hW⟩ : ∃ W, W = w.alloc (.cells #[.int .i64 lx.voter, .slice x_a1 x_n1 x_c1, .slice x_a2 x_n2 x_c2, .slice x_a3 x_n3 x_c3, .slice x_a4 x_n4 x_c4, .slice x_a5 x_n5 x_c5] 41) := ⟨_, rfl⟩
  have HWB : Hid (Below w.heap.size w W) := by unfold Hid; rw [hW]; (repeat (first | exact Below.refl _ _ | assumption | refine Below.drew ?_ | refine Below.alloc ?_ (by first | (simp; done) | (simp; omega)) _ | refine Below.setCell ?_ (by first | (simp; done) | (simp; omega)) _))
  have BXx0 : Hid (W.cell? ⟨w.heap.size, 0, none⟩ = some (.int .i64 lx.voter)) := by unfold Hid; rw [hW]; simp [go_sem]
  have BXx1 : Hid (W.cell? ⟨w.heap.size, 1, none⟩ = some (.slice x_a1 x_n1 x_c1)) := by unfold Hid; rw [hW]; simp [go_sem]
  have BXx2 : Hid (W.cell? ⟨w.heap.size, 2, none⟩ = some (.slice x_a2 x_n2 x_c2)) := by unfold Hid; rw [hW]; simp [go_sem]
  have BXx3 : Hid (W.cell? ⟨w.heap.size, 3, none⟩ = some (.slice x_a3 x_n3 x_c3)) := by unfold Hid; rw [hW]; simp [go_sem]
  have BXx4 : Hid (W.cell? ⟨w.heap.size, 4, none⟩ = some (.slice x_a4 x_n4 x_c4)) := by unfold Hid; rw [hW]; simp [go_sem]
  have BXx5 : Hid (W.cell? ⟨w.heap.size, 5, none⟩ = some (.slice x_a5 x_n5 x_c5)) := by unfold Hid; rw [hW]; simp [go_sem]
  replace hx := ((kS rSealed).rd_below hx HWB.out)
  have Hx := Lib.hid hx; clear hx
  go_enter Try.func4, Try.ntmps4
  go_wp2_with fail
  rw [← hW]
  clear hW
  have pxx0_0 := BXx0.out
  have pxx1_0 := BXx1.out
  have pxx2_0 := BXx2.out
  have pxx3_0 := BXx3.out
  have pxx4_0 := BXx4.out
  have pxx5_0 := BXx5.out
  refine (laws_szSealed _ lx 1048576 _ ((kS rSealed).rd_below Hx.out (Below.refl _ _)) (by decide) (by decide)).mono ?_
  rintro e w1 ⟨⟨r0, rfl, hr0, hsz0⟩, hb1⟩
  replace hsz0 : 0 ≤ r0 → (szSealed lx : Int) ≤ 1048576 ∧ r0 ≤ 1048576 := fun h => by have := hsz0 h; omega
  have HB1 := Lib.hid (Below.next (Below.refl _ _) hb1)
  have hs1 := hb1.size
  have AJ1 := Lib.hid hb1; clear hb1
  have pxx0_1 := box_at BXx0.out HB1.out
  clear pxx0_0
  have pxx1_1 := box_at BXx1.out HB1.out
  clear pxx1_0
  have pxx2_1 := box_at BXx2.out HB1.out
  clear pxx2_0
  have pxx3_1 := box_at BXx3.out HB1.out
  clear pxx3_0
  have pxx4_1 := box_at BXx4.out HB1.out
  clear pxx4_0
  have pxx5_1 := box_at BXx5.out HB1.out
  clear pxx5_0
  by_cases hneg0 : r0 < 0
  · go_wp2_with fail
    go_ret
    exact ⟨rfl, HWB.out.trans (HB1.out.mono HWB.out.size)⟩
  · have HZx : Hid ((szSealed lx : Int) ≤ 1000000000) := by have := (hsz0 (by omega)).1; unfold Hid; omega
    have HYx : Hid ((szSealed lx : Int) ≤ 1048576) := by have := (hsz0 (by omega)).1; unfold Hid; omega
    have hrb0 : r0 ≤ 1048576 := by have := (hsz0 (by omega)).2; omega
    clear hsz0
    go_wp2_with fail
    refine (laws_toSealed _ lx _ ((kS rSealed).rd_below Hx.out HB1.out) HZx.out).mono ?_
    rintro e w2 ⟨sx, rfl, hX, hb2⟩
    have Osx := Lib.hid (hX); clear hX
    obtain ⟨sx_a1, sx_n1, sx_c1, sx_a2, sx_n2, sx_c2, sx_a3, sx_n3, sx_c3, sx_a4, sx_n4, sx_c4, sx_a5, sx_n5, sx_c5, rfl, hrest⟩ := rdSealed.1 ((kS rSealed).own_rd Osx.out)
    clear hrest
    have HB2 := Lib.hid (Below.next HB1.out hb2)
    have hs2 := hb2.size
    have AJ2 := Lib.hid hb2; clear hb2
    have pxx0_2 := box_at BXx0.out HB2.out
    clear pxx0_1
    have pxx1_2 := box_at BXx1.out HB2.out
    clear pxx1_1
    have pxx2_2 := box_at BXx2.out HB2.out
    clear pxx2_1
    have pxx3_2 := box_at BXx3.out HB2.out
    clear pxx3_1
    have pxx4_2 := box_at BXx4.out HB2.out
    clear pxx4_1
    have pxx5_2 := box_at BXx5.out HB2.out
    clear pxx5_1
    go_wp2_with fail
    refine (spec_SealedDigest _ lx _ HYx.out ((kS rSealed).own_rd Osx.out)).mono ?_
    rintro e w3 ⟨rfl, hb3⟩
    have HB3 := Lib.hid (Below.next HB2.out hb3)
    have hs3 := hb3.size
    have AJ3 := Lib.hid hb3; clear hb3
    have pxx0_3 := box_at BXx0.out HB3.out
    clear pxx0_2
    have pxx1_3 := box_at BXx1.out HB3.out
    clear pxx1_2
    have pxx2_3 := box_at BXx2.out HB3.out
    clear pxx2_2
    have pxx3_3 := box_at BXx3.out HB3.out
    clear pxx3_2
    have pxx4_3 := box_at BXx4.out HB3.out
    clear pxx4_2
    have pxx5_3 := box_at BXx5.out HB3.out
    clear pxx5_2
    go_wp2_with fail
    refine (laws_toSealed _ lx _ ((kS rSealed).rd_below Hx.out HB3.out) HZx.out).mono ?_
    rintro e w4 ⟨xx, rfl, hX, hb4⟩
    have Oxx := Lib.hid (hX); clear hX
    obtain ⟨xx_a1, xx_n1, xx_c1, xx_a2, xx_n2, xx_c2, xx_a3, xx_n3, xx_c3, xx_a4, xx_n4, xx_c4, xx_a5, xx_n5, xx_c5, rfl, hrest⟩ := rdSealed.1 ((kS rSealed).own_rd Oxx.out)
    clear hrest
    have HB4 := Lib.hid (Below.next HB3.out hb4)
    have hs4 := hb4.size
    have AJ4 := Lib.hid hb4; clear hb4
    have pxx0_4 := box_at BXx0.out HB4.out
    clear pxx0_3
    have pxx1_4 := box_at BXx1.out HB4.out
    clear pxx1_3
    have pxx2_4 := box_at BXx2.out HB4.out
    clear pxx2_3
    have pxx3_4 := box_at BXx3.out HB4.out
    clear pxx3_3
    have pxx4_4 := box_at BXx4.out HB4.out
    clear pxx4_3
    have pxx5_4 := box_at BXx5.out HB4.out
    clear pxx5_3
    have zl0 : w.heap.size < w4.heap.size := World.block_lt_of_cell? _ _ pxx0_4
    go_wp2_with fail
    clear zl0
    obtain ⟨w5, hw5⟩ : ∃ u, u = w4.alloc (.cells #[.int .i64 lx.voter, .slice xx_a1 xx_n1 xx_c1, .slice xx_a2 xx_n2 xx_c2, .slice xx_a3 xx_n3 xx_c3, .slice xx_a4 xx_n4 xx_c4, .slice xx_a5 xx_n5 xx_c5] 49) := ⟨_, rfl⟩
    rw [← hw5]
    have hb5 : Below w4.heap.size w4 w5 := by rw [hw5]; exact (Below.refl _ _).alloc (Nat.le_refl _) _
    have hlt5 : w4.heap.size < w5.heap.size := by rw [hw5]; simp
    have pxxx0_5 : w5.cell? ⟨w4.heap.size, 0, none⟩ = some (.int .i64 lx.voter) := by rw [hw5]; simp [go_sem]
    have pxxx1_5 : w5.cell? ⟨w4.heap.size, 1, none⟩ = some (.slice xx_a1 xx_n1 xx_c1) := by rw [hw5]; simp [go_sem]
    have pxxx2_5 : w5.cell? ⟨w4.heap.size, 2, none⟩ = some (.slice xx_a2 xx_n2 xx_c2) := by rw [hw5]; simp [go_sem]
    have pxxx3_5 : w5.cell? ⟨w4.heap.size, 3, none⟩ = some (.slice xx_a3 xx_n3 xx_c3) := by rw [hw5]; simp [go_sem]
    have pxxx4_5 : w5.cell? ⟨w4.heap.size, 4, none⟩ = some (.slice xx_a4 xx_n4 xx_c4) := by rw [hw5]; simp [go_sem]
    have pxxx5_5 : w5.cell? ⟨w4.heap.size, 5, none⟩ = some (.slice xx_a5 xx_n5 xx_c5) := by rw [hw5]; simp [go_sem]
    clear hw5
    have HB5 := Lib.hid (Below.next HB4.out hb5)
    have hs5 := hb5.size
    have AJ5 := Lib.hid hb5; clear hb5
    have pxx0_5 := box_at BXx0.out HB5.out
    clear pxx0_4
    have pxx1_5 := box_at BXx1.out HB5.out
    clear pxx1_4
    have pxx2_5 := box_at BXx2.out HB5.out
    clear pxx2_4
    have pxx3_5 := box_at BXx3.out HB5.out
    clear pxx3_4
    have pxx4_5 := box_at BXx4.out HB5.out
    clear pxx4_4
    have pxx5_5 := box_at BXx5.out HB5.out
    clear pxx5_4
    refine (impl_SealedDigest _ lx _ HYx.out ((kS rSealed).own_rd (Kind.next (K := kS rSealed) Oxx.out AJ5.out))).mono ?_
    rintro e w6 ⟨rfl, hb6⟩
    have HB6 := Lib.hid (Below.next HB5.out hb6)
    have hs6 := hb6.size
    have AJ6 := Lib.hid hb6; clear hb6
    have pxx0_6 := box_at BXx0.out HB6.out
    clear pxx0_5
    have pxx1_6 := box_at BXx1.out HB6.out
    clear pxx1_5
    have pxx2_6 := box_at BXx2.out HB6.out
    clear pxx2_5
    have pxx3_6 := box_at BXx3.out HB6.out
    clear pxx3_5
    have pxx4_6 := box_at BXx4.out HB6.out
    clear pxx4_5
    have pxx5_6 := box_at BXx5.out HB6.out
    clear pxx5_5
    have pxxx0_6 := box_at pxxx0_5 AJ6.out
    clear pxxx0_5
    have pxxx1_6 := box_at pxxx1_5 AJ6.out
    clear pxxx1_5
    have pxxx2_6 := box_at pxxx2_5 AJ6.out
    clear pxxx2_5
    have pxxx3_6 := box_at pxxx3_5 AJ6.out
    clear pxxx3_5
    have pxxx4_6 := box_at pxxx4_5 AJ6.out
    clear pxxx4_5
    have pxxx5_6 := box_at pxxx5_5 AJ6.out
    clear pxxx5_5
    go_wp2_with fail
    go_region_held3 (fun w' => Below w6.heap.size w6 w' ∧ w'.cell? ⟨w.heap.size, 0, none⟩ = some (.int .i64 lx.voter) ∧ w'.cell? ⟨w.heap.size, 1, none⟩ = some (.slice x_a1 x_n1 x_c1) ∧ w'.cell? ⟨w.heap.size, 2, none⟩ = some (.slice x_a2 x_n2 x_c2) ∧ w'.cell? ⟨w.heap.size, 3, none⟩ = some (.slice x_a3 x_n3 x_c3) ∧ w'.cell? ⟨w.heap.size, 4, none⟩ = some (.slice x_a4 x_n4 x_c4) ∧ w'.cell? ⟨w.heap.size, 5, none⟩ = some (.slice x_a5 x_n5 x_c5) ∧ w'.cell? ⟨w4.heap.size, 0, none⟩ = some (.int .i64 lx.voter) ∧ w'.cell? ⟨w4.heap.size, 1, none⟩ = some (.slice xx_a1 xx_n1 xx_c1) ∧ w'.cell? ⟨w4.heap.size, 2, none⟩ = some (.slice xx_a2 xx_n2 xx_c2) ∧ w'.cell? ⟨w4.heap.size, 3, none⟩ = some (.slice xx_a3 xx_n3 xx_c3) ∧ w'.cell? ⟨w4.heap.size, 4, none⟩ = some (.slice xx_a4 xx_n4 xx_c4) ∧ w'.cell? ⟨w4.heap.size, 5, none⟩ = some (.slice xx_a5 xx_n5 xx_c5)) (first | (have hbq : Below w6.heap.size w6 _ := (Below.refl _ _).drew; exact ⟨hbq, box_at pxx0_6 hbq, box_at pxx1_6 hbq, box_at pxx2_6 hbq, box_at pxx3_6 hbq, box_at pxx4_6 hbq, box_at pxx5_6 hbq, box_at pxxx0_6 hbq, box_at pxxx1_6 hbq, box_at pxxx2_6 hbq, box_at pxxx3_6 hbq, box_at pxxx4_6 hbq, box_at pxxx5_6 hbq⟩) | (have hbq := keep_b (by assumption) (‹Below w6.heap.size w6 _ ∧ _›).1; exact ⟨hbq, box_at pxx0_6 hbq, box_at pxx1_6 hbq, box_at pxx2_6 hbq, box_at pxx3_6 hbq, box_at pxx4_6 hbq, box_at pxx5_6 hbq, box_at pxxx0_6 hbq, box_at pxxx1_6 hbq, box_at pxxx2_6 hbq, box_at pxxx3_6 hbq, box_at pxxx4_6 hbq, box_at pxxx5_6 hbq⟩) | fail) ((first
      | (go_at_call 28; refine (laws_toSealed _ lx _ ((kS rSealed).rd_below Hx.out (HB6.out.trans ((‹Below w6.heap.size w6 _ ∧ _›).1.mono HB6.out.size))) HZx.out).mono ?_; rintro e wy ⟨yy, rfl, hX, hby⟩; obtain ⟨yy_a1, yy_n1, yy_c1, yy_a2, yy_n2, yy_c2, yy_a3, yy_n3, yy_c3, yy_a4, yy_n4, yy_c4, yy_a5, yy_n5, yy_c5, rfl, hrest⟩ := rdSealed.1 ((kS rSealed).own_rd hX); clear hrest)
      | (go_at_call 30; refine (laws_eqSealed _ _ _ _ _ ((kS rSealed).rd_below ((kS rSealed).own_rd (Kind.next (K := kS rSealed) (Kind.next (K := kS rSealed) Oxx.out AJ5.out) AJ6.out)) (keep_b hby (Below.refl _ _).drew)) ((kS rSealed).own_rd hX)).mono ?_; rintro e w7 ⟨rfl, hb7⟩; rw [decide_eq_true rfl])
      | fail))
    replace hb7 : Below w6.heap.size w6 w7 := (‹Below w6.heap.size w6 _ ∧ _›).1
    clear hX
    have HB7 := Lib.hid (Below.next HB6.out hb7)
    have hs7 := hb7.size
    have AJ7 := Lib.hid hb7; clear hb7
    have pxx0_7 := box_at BXx0.out HB7.out
    clear pxx0_6
    have pxx1_7 := box_at BXx1.out HB7.out
    clear pxx1_6
    have pxx2_7 := box_at BXx2.out HB7.out
    clear pxx2_6
    have pxx3_7 := box_at BXx3.out HB7.out
    clear pxx3_6
    have pxx4_7 := box_at BXx4.out HB7.out
    clear pxx4_6
    have pxx5_7 := box_at BXx5.out HB7.out
    clear pxx5_6
    have pxxx0_7 := box_at pxxx0_6 AJ7.out
    clear pxxx0_6
    have pxxx1_7 := box_at pxxx1_6 AJ7.out
    clear pxxx1_6
    have pxxx2_7 := box_at pxxx2_6 AJ7.out
    clear pxxx2_6
    have pxxx3_7 := box_at pxxx3_6 AJ7.out
    clear pxxx3_6
    have pxxx4_7 := box_at pxxx4_6 AJ7.out
    clear pxxx4_6
    have pxxx5_7 := box_at pxxx5_6 AJ7.out
    clear pxxx5_6
    go_wp2_with fail
    go_ret
    exact ⟨rfl, HWB.out.trans (HB7.out.mono HWB.out.size)⟩
end Go.Proofs.Ytapfceghgkmgoaa

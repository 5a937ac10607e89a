/- The walks of laws, by program (genlaw4.py). -/
import Derived.Test.YtodennbdfloccaaVLeaf2
import Derived.Test.YtodennbdfloccaaKBoard
import Derived.Test.YtodennbdfloccaaGrpL
namespace Go.Proofs.Ytodennbdfloccaa
open Go.RowKit
set_option linter.unusedSimpArgs false
set_option linter.unusedVariables false

set_option maxRecDepth 100000 in
set_option maxHeartbeats 2000000 in
theorem law_BoardLeaves (gr : GroupD) (b : Value) (lb : BoardD) (w : World) (hb : (kS rBoard).rd w b lb) :
    Calls Try.prog 3 #[.agg #[.int .i64 gr.p, .int .i64 gr.q, .int .i64 gr.g], b] w fun e w' => e = .returned (.bool true) ∧ Below w.heap.size w w' := by
  obtain ⟨b_a0, b_n0, b_c0, b_a1, b_n1, b_c1, rfl, hrestb⟩ := rdBoard.1 hb
  have hb : (kS rBoard).rd w (.agg #[.slice b_a0 b_n0 b_c0, .slice b_a1 b_n1 b_c1]) lb := rdBoard.2 ⟨_, _, _, _, _, _, rfl, hrestb⟩
  clear hrestb
  obtain ⟨W, hW⟩ : ∃ W, W = (w.alloc (.cells #[.int .i64 gr.p, .int .i64 gr.q, .int .i64 gr.g] 23)).alloc (.cells #[.slice b_a0 b_n0 b_c0, .slice b_a1 b_n1 b_c1] 27) := ⟨_, rfl⟩
  have HWB : Hid (Below w.heap.size w W) := by unfold Hid; rw [hW]; (repeat (first | exact Below.refl _ _ | assumption | refine Below.drew ?_ | refine Below.alloc ?_ (by first | (simp; done) | (simp; omega)) _ | refine Below.setCell ?_ (by first | (simp; done) | (simp; omega)) _))
  have BXgr0 : Hid (W.cell? ⟨w.heap.size, 0, none⟩ = some (.int .i64 gr.p)) := by unfold Hid; rw [hW]; simp [go_sem]
  have BXgr1 : Hid (W.cell? ⟨w.heap.size, 1, none⟩ = some (.int .i64 gr.q)) := by unfold Hid; rw [hW]; simp [go_sem]
  have BXgr2 : Hid (W.cell? ⟨w.heap.size, 2, none⟩ = some (.int .i64 gr.g)) := by unfold Hid; rw [hW]; simp [go_sem]
  have BXb0 : Hid (W.cell? ⟨w.heap.size + 1, 0, none⟩ = some (.slice b_a0 b_n0 b_c0)) := by unfold Hid; rw [hW]; simp [go_sem]
  have BXb1 : Hid (W.cell? ⟨w.heap.size + 1, 1, none⟩ = some (.slice b_a1 b_n1 b_c1)) := by unfold Hid; rw [hW]; simp [go_sem]
  replace hb := ((kS rBoard).rd_below hb HWB.out)
  have Hb := Lib.hid hb; clear hb
  go_enter Try.func3, Try.ntmps3
  go_wp2_with fail
  rw [← hW]
  clear hW
  have pxgr0_0 := BXgr0.out
  have pxgr1_0 := BXgr1.out
  have pxgr2_0 := BXgr2.out
  have pxb0_0 := BXb0.out
  have pxb1_0 := BXb1.out
  refine (laws_szBoard _ lb 1048576 _ ((kS rBoard).rd_below Hb.out (Below.refl _ _)) (by decide) (by decide)).mono ?_
  rintro e w1 ⟨⟨r0, rfl, hr0, hsz0⟩, hb1⟩
  replace hsz0 : 0 ≤ r0 → (szBoard lb : Int) ≤ 1048576 ∧ r0 ≤ 1048576 := fun h => by have := hsz0 h; omega
  have HB1 := Lib.hid (Below.next (Below.refl _ _) hb1)
  have hs1 := hb1.size
  have AJ1 := Lib.hid hb1; clear hb1
  have pxgr0_1 := box_at BXgr0.out HB1.out
  clear pxgr0_0
  have pxgr1_1 := box_at BXgr1.out HB1.out
  clear pxgr1_0
  have pxgr2_1 := box_at BXgr2.out HB1.out
  clear pxgr2_0
  have pxb0_1 := box_at BXb0.out HB1.out
  clear pxb0_0
  have pxb1_1 := box_at BXb1.out HB1.out
  clear pxb1_0
  by_cases hneg0 : r0 < 0
  · go_wp2_with fail
    go_ret
    exact ⟨rfl, HWB.out.trans (HB1.out.mono HWB.out.size)⟩
  · have HZb : Hid ((szBoard lb : Int) ≤ 1000000000) := by have := (hsz0 (by omega)).1; unfold Hid; omega
    have hrb0 : r0 ≤ 1048576 := by have := (hsz0 (by omega)).2; omega
    clear hsz0
    go_wp2_with fail
    go_region_held3 (fun w' => Below w1.heap.size w1 w' ∧ w'.cell? ⟨w.heap.size, 0, none⟩ = some (.int .i64 gr.p) ∧ w'.cell? ⟨w.heap.size, 1, none⟩ = some (.int .i64 gr.q) ∧ w'.cell? ⟨w.heap.size, 2, none⟩ = some (.int .i64 gr.g) ∧ w'.cell? ⟨w.heap.size + 1, 0, none⟩ = some (.slice b_a0 b_n0 b_c0) ∧ w'.cell? ⟨w.heap.size + 1, 1, none⟩ = some (.slice b_a1 b_n1 b_c1)) (first | (have hbq : Below w1.heap.size w1 _ := (Below.refl _ _).drew; exact ⟨hbq, box_at pxgr0_1 hbq, box_at pxgr1_1 hbq, box_at pxgr2_1 hbq, box_at pxb0_1 hbq, box_at pxb1_1 hbq⟩) | (have hbq := keep_b (by assumption) (‹Below w1.heap.size w1 _ ∧ _›).1; exact ⟨hbq, box_at pxgr0_1 hbq, box_at pxgr1_1 hbq, box_at pxgr2_1 hbq, box_at pxb0_1 hbq, box_at pxb1_1 hbq⟩) | fail) ((first
      | (go_at_call 13; refine (laws_toGroup gr _).mono ?_; rintro e w2 ⟨rfl, hb2⟩; (have AJ2 := Lib.hid (keep_b hb2 (Below.refl _ _).drew)); (have HB2 := Lib.hid (Below.next HB1.out AJ2.out)); (have hs2 : w1.heap.size ≤ w2.heap.size := AJ2.out.size); (have hbz := hb2))
      | (go_at_call_of 14 (Value.slice b_a0 b_n0 b_c0); refine (laws_toBoard _ lb _ ((kS rBoard).rd_below Hb.out (HB1.out.trans ((‹Below w1.heap.size w1 _ ∧ _›).1.mono HB1.out.size))) HZb.out).mono ?_; rintro e w3 ⟨sb, rfl, hX, hb3⟩; (have Osb : Hid ((kS rBoard).own w3 w2.heap.size w3.heap.size sb lb) := hX); clear hX; obtain ⟨sb_a0, sb_n0, sb_c0, sb_a1, sb_n1, sb_c1, rfl, hrest⟩ := rdBoard.1 ((kS rBoard).own_rd Osb.out); clear hrest; (have AJ3 := Lib.hid hb3); (have HB3 := Lib.hid (Below.next HB2.out AJ3.out)); (have hs3 : w2.heap.size ≤ w3.heap.size := AJ3.out.size); (have hbz := hb3))
      | (go_at_call 12; refine (spec_BoardLeaves gr _ lb _ HZb.out ((kS rBoard).own_rd Osb.out)).mono ?_; rintro e w4 ⟨want0, rfl, hXwant0, hb4⟩; (have Owant0 := Lib.hid hXwant0); clear hXwant0; (have AJ4 := Lib.hid hb4); (have HB4 := Lib.hid (Below.next HB3.out AJ4.out)); (have hs4 : w3.heap.size ≤ w4.heap.size := AJ4.out.size); (have hbz := hb4))
      | fail))
    have hSS := (‹Below w1.heap.size w1 _ ∧ _›)
    clear pxgr0_1
    clear pxgr1_1
    clear pxgr2_1
    clear pxb0_1
    clear pxb1_1
    obtain ⟨hbS, pxgr0_4, pxgr1_4, pxgr2_4, pxb0_4, pxb1_4⟩ := hSS
    clear hbS
    clear hbz
    clear hb2
    clear hb3
    clear hb4
    go_wp2_with fail
    refine (laws_toBoard _ lb _ ((kS rBoard).rd_below Hb.out HB4.out) HZb.out).mono ?_
    rintro e w5 ⟨xb, rfl, hX, hb5⟩
    have Oxb := Lib.hid (hX); clear hX
    obtain ⟨xb_a0, xb_n0, xb_c0, xb_a1, xb_n1, xb_c1, rfl, hrest⟩ := rdBoard.1 ((kS rBoard).own_rd Oxb.out)
    clear hrest
    have HB5 := Lib.hid (Below.next HB4.out hb5)
    have hs5 := hb5.size
    have AJ5 := Lib.hid hb5; clear hb5
    have pxgr0_5 := box_at BXgr0.out HB5.out
    clear pxgr0_4
    have pxgr1_5 := box_at BXgr1.out HB5.out
    clear pxgr1_4
    have pxgr2_5 := box_at BXgr2.out HB5.out
    clear pxgr2_4
    have pxb0_5 := box_at BXb0.out HB5.out
    clear pxb0_4
    have pxb1_5 := box_at BXb1.out HB5.out
    clear pxb1_4
    have zl0 : w.heap.size < w5.heap.size := World.block_lt_of_cell? _ _ pxgr0_5
    have zl1 : w.heap.size + 1 < w5.heap.size := World.block_lt_of_cell? _ _ pxb0_5
    go_wp2_with fail
    clear zl0 zl1
    obtain ⟨w6, hw6⟩ : ∃ u, u = w5.alloc (.cells #[.slice xb_a0 xb_n0 xb_c0, .slice xb_a1 xb_n1 xb_c1] 35) := ⟨_, rfl⟩
    rw [← hw6]
    have hb6 : Below w5.heap.size w5 w6 := by rw [hw6]; exact (Below.refl _ _).alloc (Nat.le_refl _) _
    have hlt6 : w5.heap.size < w6.heap.size := by rw [hw6]; simp
    have pxxb0_6 : w6.cell? ⟨w5.heap.size, 0, none⟩ = some (.slice xb_a0 xb_n0 xb_c0) := by rw [hw6]; simp [go_sem]
    have pxxb1_6 : w6.cell? ⟨w5.heap.size, 1, none⟩ = some (.slice xb_a1 xb_n1 xb_c1) := by rw [hw6]; simp [go_sem]
    clear hw6
    have HB6 := Lib.hid (Below.next HB5.out hb6)
    have hs6 := hb6.size
    have AJ6 := Lib.hid hb6; clear hb6
    have pxgr0_6 := box_at BXgr0.out HB6.out
    clear pxgr0_5
    have pxgr1_6 := box_at BXgr1.out HB6.out
    clear pxgr1_5
    have pxgr2_6 := box_at BXgr2.out HB6.out
    clear pxgr2_5
    have pxb0_6 := box_at BXb0.out HB6.out
    clear pxb0_5
    have pxb1_6 := box_at BXb1.out HB6.out
    clear pxb1_5
    go_region_held3 (fun w' => Below w6.heap.size w6 w' ∧ w'.cell? ⟨w.heap.size, 0, none⟩ = some (.int .i64 gr.p) ∧ w'.cell? ⟨w.heap.size, 1, none⟩ = some (.int .i64 gr.q) ∧ w'.cell? ⟨w.heap.size, 2, none⟩ = some (.int .i64 gr.g) ∧ w'.cell? ⟨w.heap.size + 1, 0, none⟩ = some (.slice b_a0 b_n0 b_c0) ∧ w'.cell? ⟨w.heap.size + 1, 1, none⟩ = some (.slice b_a1 b_n1 b_c1) ∧ w'.cell? ⟨w5.heap.size, 0, none⟩ = some (.slice xb_a0 xb_n0 xb_c0) ∧ w'.cell? ⟨w5.heap.size, 1, none⟩ = some (.slice xb_a1 xb_n1 xb_c1)) (first | (have hbq : Below w6.heap.size w6 _ := (Below.refl _ _).drew; exact ⟨hbq, box_at pxgr0_6 hbq, box_at pxgr1_6 hbq, box_at pxgr2_6 hbq, box_at pxb0_6 hbq, box_at pxb1_6 hbq, box_at pxxb0_6 hbq, box_at pxxb1_6 hbq⟩) | (have hbq := keep_b (by assumption) (‹Below w6.heap.size w6 _ ∧ _›).1; exact ⟨hbq, box_at pxgr0_6 hbq, box_at pxgr1_6 hbq, box_at pxgr2_6 hbq, box_at pxb0_6 hbq, box_at pxb1_6 hbq, box_at pxxb0_6 hbq, box_at pxxb1_6 hbq⟩) | fail) ((first
      | (go_at_call 13; refine (laws_toGroup gr _).mono ?_; rintro e w7 ⟨rfl, hb7⟩; (have AJ7 := Lib.hid (keep_b hb7 (Below.refl _ _).drew)); (have HB7 := Lib.hid (Below.next HB6.out AJ7.out)); (have hs7 : w6.heap.size ≤ w7.heap.size := AJ7.out.size); (have hbz := hb7))
      | (go_at_call 15; refine (impl_BoardLeaves gr _ lb _ HZb.out ((kS rBoard).own_rd (Kind.next (K := kS rBoard) (Kind.next (K := kS rBoard) Oxb.out AJ6.out) AJ7.out))).mono ?_; rintro e w8 ⟨got0, rfl, hXgot0, hb8⟩; (have Ogot0 := Lib.hid hXgot0); clear hXgot0; (have AJ8 := Lib.hid hb8); (have HB8 := Lib.hid (Below.next HB7.out AJ8.out)); (have hs8 : w7.heap.size ≤ w8.heap.size := AJ8.out.size); (have hbz := hb8))
      | fail))
    have hSS := (‹Below w6.heap.size w6 _ ∧ _›)
    clear pxgr0_6
    clear pxgr1_6
    clear pxgr2_6
    clear pxb0_6
    clear pxb1_6
    clear pxxb0_6
    clear pxxb1_6
    obtain ⟨hbS, pxgr0_8, pxgr1_8, pxgr2_8, pxb0_8, pxb1_8, pxxb0_8, pxxb1_8⟩ := hSS
    clear hbS
    clear hbz
    clear hb7
    clear hb8
    go_wp2_with fail
    refine (laws_eqIntS _ _ _ _ _ Ogot0.out.reads ((((Owant0.out.next AJ5.out).next AJ6.out).next AJ7.out).next AJ8.out).reads).mono ?_
    rintro e w9 ⟨rfl, m9, hw9⟩
    have hb9 := Below.drewOf hw9; clear hw9
    rw [decide_eq_true rfl]
    have HB9 := Lib.hid (Below.next HB8.out hb9)
    have hs9 := hb9.size
    have AJ9 := Lib.hid hb9; clear hb9
    have pxgr0_9 := box_at BXgr0.out HB9.out
    clear pxgr0_8
    have pxgr1_9 := box_at BXgr1.out HB9.out
    clear pxgr1_8
    have pxgr2_9 := box_at BXgr2.out HB9.out
    clear pxgr2_8
    have pxb0_9 := box_at BXb0.out HB9.out
    clear pxb0_8
    have pxb1_9 := box_at BXb1.out HB9.out
    clear pxb1_8
    have pxxb0_9 := box_at pxxb0_8 AJ9.out
    clear pxxb0_8
    have pxxb1_9 := box_at pxxb1_8 AJ9.out
    clear pxxb1_8
    go_wp2_with fail
    go_region_held3 (fun w' => Below w9.heap.size w9 w' ∧ w'.cell? ⟨w.heap.size, 0, none⟩ = some (.int .i64 gr.p) ∧ w'.cell? ⟨w.heap.size, 1, none⟩ = some (.int .i64 gr.q) ∧ w'.cell? ⟨w.heap.size, 2, none⟩ = some (.int .i64 gr.g) ∧ w'.cell? ⟨w.heap.size + 1, 0, none⟩ = some (.slice b_a0 b_n0 b_c0) ∧ w'.cell? ⟨w.heap.size + 1, 1, none⟩ = some (.slice b_a1 b_n1 b_c1) ∧ w'.cell? ⟨w5.heap.size, 0, none⟩ = some (.slice xb_a0 xb_n0 xb_c0) ∧ w'.cell? ⟨w5.heap.size, 1, none⟩ = some (.slice xb_a1 xb_n1 xb_c1)) (first | (have hbq : Below w9.heap.size w9 _ := (Below.refl _ _).drew; exact ⟨hbq, box_at pxgr0_9 hbq, box_at pxgr1_9 hbq, box_at pxgr2_9 hbq, box_at pxb0_9 hbq, box_at pxb1_9 hbq, box_at pxxb0_9 hbq, box_at pxxb1_9 hbq⟩) | (have hbq := keep_b (by assumption) (‹Below w9.heap.size w9 _ ∧ _›).1; exact ⟨hbq, box_at pxgr0_9 hbq, box_at pxgr1_9 hbq, box_at pxgr2_9 hbq, box_at pxb0_9 hbq, box_at pxb1_9 hbq, box_at pxxb0_9 hbq, box_at pxxb1_9 hbq⟩) | fail) ((first
      | (go_at_call 14; refine (laws_toBoard _ lb _ ((kS rBoard).rd_below Hb.out (HB9.out.trans ((‹Below w9.heap.size w9 _ ∧ _›).1.mono HB9.out.size))) HZb.out).mono ?_; rintro e wy ⟨yy, rfl, hX, hby⟩; obtain ⟨yy_a0, yy_n0, yy_c0, yy_a1, yy_n1, yy_c1, rfl, hrest⟩ := rdBoard.1 ((kS rBoard).own_rd hX); clear hrest)
      | (go_at_call 17; refine (laws_eqBoard _ _ _ _ _ ((kS rBoard).rd_below ((kS rBoard).own_rd (Kind.next (K := kS rBoard) (Kind.next (K := kS rBoard) (Kind.next (K := kS rBoard) (Kind.next (K := kS rBoard) Oxb.out AJ6.out) AJ7.out) AJ8.out) AJ9.out)) (keep_b hby (Below.refl _ _).drew)) ((kS rBoard).own_rd hX)).mono ?_; rintro e w10 ⟨rfl, hb10⟩; rw [decide_eq_true rfl])
      | fail))
    replace hb10 : Below w9.heap.size w9 w10 := (‹Below w9.heap.size w9 _ ∧ _›).1
    clear hX
    have HB10 := Lib.hid (Below.next HB9.out hb10)
    have hs10 := hb10.size
    have AJ10 := Lib.hid hb10; clear hb10
    have pxgr0_10 := box_at BXgr0.out HB10.out
    clear pxgr0_9
    have pxgr1_10 := box_at BXgr1.out HB10.out
    clear pxgr1_9
    have pxgr2_10 := box_at BXgr2.out HB10.out
    clear pxgr2_9
    have pxb0_10 := box_at BXb0.out HB10.out
    clear pxb0_9
    have pxb1_10 := box_at BXb1.out HB10.out
    clear pxb1_9
    have pxxb0_10 := box_at pxxb0_9 AJ10.out
    clear pxxb0_9
    have pxxb1_10 := box_at pxxb1_9 AJ10.out
    clear pxxb1_9
    go_wp2_with fail
    refine (laws_markBoard _ _ _ 1 _ _ (Kind.next (K := kS rBoard) (Kind.next (K := kS rBoard) (Kind.next (K := kS rBoard) (Kind.next (K := kS rBoard) (Kind.next (K := kS rBoard) Oxb.out AJ6.out) AJ7.out) AJ8.out) AJ9.out) AJ10.out) (by have := HZb.out; have := cnBoard_le lb; omega) (by omega)).mono ?_
    rintro e w11 ⟨rfl, hX, hG11⟩
    have Oxbm := Lib.hid hX; clear hX
    have hs11 := hG11.size
    have HB11 := Lib.hid (HB10.out.trans (hG11.below (B := W.heap.size) (by omega) (by omega)))
    have HG11 := Lib.hid hG11; clear hG11
    have pxgr0_11 := box_at BXgr0.out HB11.out
    clear pxgr0_10
    have pxgr1_11 := box_at BXgr1.out HB11.out
    clear pxgr1_10
    have pxgr2_11 := box_at BXgr2.out HB11.out
    clear pxgr2_10
    have pxb0_11 := box_at BXb0.out HB11.out
    clear pxb0_10
    have pxb1_11 := box_at BXb1.out HB11.out
    clear pxb1_10
    have pxxb0_11 := within_at HG11.out pxxb0_10 (by omega)
    clear pxxb0_10
    have pxxb1_11 := within_at HG11.out pxxb1_10 (by omega)
    clear pxxb1_10
    go_wp2_with fail
    refine (laws_eqIntS _ _ _ _ _ (((Ogot0.out.next AJ9.out).next AJ10.out).kept HG11.out (.inr (by omega))).reads (((((((Owant0.out.next AJ5.out).next AJ6.out).next AJ7.out).next AJ8.out).next AJ9.out).next AJ10.out).kept HG11.out (.inl (by omega))).reads).mono ?_
    rintro e w12 ⟨rfl, m12, hw12⟩
    have hb12 := Below.drewOf hw12; clear hw12
    rw [decide_eq_true rfl]
    have HB12 := Lib.hid (Below.next HB11.out hb12)
    have hs12 := hb12.size
    have AJ12 := Lib.hid hb12; clear hb12
    have pxgr0_12 := box_at BXgr0.out HB12.out
    clear pxgr0_11
    have pxgr1_12 := box_at BXgr1.out HB12.out
    clear pxgr1_11
    have pxgr2_12 := box_at BXgr2.out HB12.out
    clear pxgr2_11
    have pxb0_12 := box_at BXb0.out HB12.out
    clear pxb0_11
    have pxb1_12 := box_at BXb1.out HB12.out
    clear pxb1_11
    have pxxb0_12 := box_at pxxb0_11 AJ12.out
    clear pxxb0_11
    have pxxb1_12 := box_at pxxb1_11 AJ12.out
    clear pxxb1_11
    have LG0 : Hid (1 + ((blL gr lb)).length ≤ 9223372036854775806) := by have := blL_length gr lb; unfold Hid; omega
    go_wp2_with fail
    refine (laws_markIntS_in _ _ _ 1 _ _ ((((Ogot0.out.next AJ9.out).next AJ10.out).kept HG11.out (.inr (by omega))).next AJ12.out) (by omega) (by exact LG0.out)).mono ?_
    rintro e w13 ⟨rfl, hX, hG13⟩
    have Ogot0m := Lib.hid hX; clear hX
    have hs13 := hG13.size
    have HB13 := Lib.hid (HB12.out.trans (hG13.below (B := W.heap.size) (by omega) (by omega)))
    have HG13 := Lib.hid hG13; clear hG13
    have pxgr0_13 := box_at BXgr0.out HB13.out
    clear pxgr0_12
    have pxgr1_13 := box_at BXgr1.out HB13.out
    clear pxgr1_12
    have pxgr2_13 := box_at BXgr2.out HB13.out
    clear pxgr2_12
    have pxb0_13 := box_at BXb0.out HB13.out
    clear pxb0_12
    have pxb1_13 := box_at BXb1.out HB13.out
    clear pxb1_12
    have pxxb0_13 := within_at HG13.out pxxb0_12 (by omega)
    clear pxxb0_12
    have pxxb1_13 := within_at HG13.out pxxb1_12 (by omega)
    clear pxxb1_12
    go_wp2_with fail
    refine (laws_heldIntS_yes _ 1 _ _ Ogot0m.out.reads (by simp only [marks_length]; exact LG0.out) (fun j hj => nth_marks (by simpa only [marks_length] using hj))).mono ?_
    rintro e w14 ⟨rfl, m14, hw14⟩
    have hb14 := Below.drewOf hw14; clear hw14
    rw [marks_length]
    have HB14 := Lib.hid (Below.next HB13.out hb14)
    have hs14 := hb14.size
    have AJ14 := Lib.hid hb14; clear hb14
    have pxgr0_14 := box_at BXgr0.out HB14.out
    clear pxgr0_13
    have pxgr1_14 := box_at BXgr1.out HB14.out
    clear pxgr1_13
    have pxgr2_14 := box_at BXgr2.out HB14.out
    clear pxgr2_13
    have pxb0_14 := box_at BXb0.out HB14.out
    clear pxb0_13
    have pxb1_14 := box_at BXb1.out HB14.out
    clear pxb1_13
    have pxxb0_14 := box_at pxxb0_13 AJ14.out
    clear pxxb0_13
    have pxxb1_14 := box_at pxxb1_13 AJ14.out
    clear pxxb1_13
    go_wp2_with fail
    go_region_held3 (fun w' => Below w14.heap.size w14 w' ∧ w'.cell? ⟨w.heap.size, 0, none⟩ = some (.int .i64 gr.p) ∧ w'.cell? ⟨w.heap.size, 1, none⟩ = some (.int .i64 gr.q) ∧ w'.cell? ⟨w.heap.size, 2, none⟩ = some (.int .i64 gr.g) ∧ w'.cell? ⟨w.heap.size + 1, 0, none⟩ = some (.slice b_a0 b_n0 b_c0) ∧ w'.cell? ⟨w.heap.size + 1, 1, none⟩ = some (.slice b_a1 b_n1 b_c1) ∧ w'.cell? ⟨w5.heap.size, 0, none⟩ = some (.slice xb_a0 xb_n0 xb_c0) ∧ w'.cell? ⟨w5.heap.size, 1, none⟩ = some (.slice xb_a1 xb_n1 xb_c1)) (first | (have hbq : Below w14.heap.size w14 _ := (Below.refl _ _).drew; exact ⟨hbq, box_at pxgr0_14 hbq, box_at pxgr1_14 hbq, box_at pxgr2_14 hbq, box_at pxb0_14 hbq, box_at pxb1_14 hbq, box_at pxxb0_14 hbq, box_at pxxb1_14 hbq⟩) | (have hbq := keep_b (by assumption) (‹Below w14.heap.size w14 _ ∧ _›).1; exact ⟨hbq, box_at pxgr0_14 hbq, box_at pxgr1_14 hbq, box_at pxgr2_14 hbq, box_at pxb0_14 hbq, box_at pxb1_14 hbq, box_at pxxb0_14 hbq, box_at pxxb1_14 hbq⟩) | fail) ((first
      | (go_at_call 13; refine (laws_toGroup gr _).mono ?_; rintro e w15 ⟨rfl, hb15⟩; (have AJ15 := Lib.hid (keep_b hb15 (Below.refl _ _).drew)); (have HB15 := Lib.hid (Below.next HB14.out AJ15.out)); (have hs15 : w14.heap.size ≤ w15.heap.size := AJ15.out.size); (have hbz := hb15))
      | (go_at_call_of 14 (Value.slice b_a0 b_n0 b_c0); refine (laws_toBoard _ lb _ ((kS rBoard).rd_below Hb.out (HB14.out.trans ((‹Below w14.heap.size w14 _ ∧ _›).1.mono HB14.out.size))) HZb.out).mono ?_; rintro e w16 ⟨zb, rfl, hX, hb16⟩; (have Ozb : Hid ((kS rBoard).own w16 w15.heap.size w16.heap.size zb lb) := hX); clear hX; obtain ⟨zb_a0, zb_n0, zb_c0, zb_a1, zb_n1, zb_c1, rfl, hrest⟩ := rdBoard.1 ((kS rBoard).own_rd Ozb.out); clear hrest; (have AJ16 := Lib.hid hb16); (have HB16 := Lib.hid (Below.next HB15.out AJ16.out)); (have hs16 : w15.heap.size ≤ w16.heap.size := AJ16.out.size); (have hbz := hb16))
      | (go_at_call 15; refine (impl_BoardLeaves gr _ lb _ HZb.out ((kS rBoard).own_rd Ozb.out)).mono ?_; rintro e w17 ⟨again0, rfl, hXagain0, hb17⟩; (have Oagain0 := Lib.hid hXagain0); clear hXagain0; (have AJ17 := Lib.hid hb17); (have HB17 := Lib.hid (Below.next HB16.out AJ17.out)); (have hs17 : w16.heap.size ≤ w17.heap.size := AJ17.out.size); (have hbz := hb17))
      | fail))
    have hSS := (‹Below w14.heap.size w14 _ ∧ _›)
    clear pxgr0_14
    clear pxgr1_14
    clear pxgr2_14
    clear pxb0_14
    clear pxb1_14
    clear pxxb0_14
    clear pxxb1_14
    obtain ⟨hbS, pxgr0_17, pxgr1_17, pxgr2_17, pxb0_17, pxb1_17, pxxb0_17, pxxb1_17⟩ := hSS
    clear hbS
    clear hbz
    clear hb15
    clear hb16
    clear hb17
    go_wp2_with fail
    refine (laws_eqIntS _ _ _ _ _ Oagain0.out.reads (((((((((((((Owant0.out.next AJ5.out).next AJ6.out).next AJ7.out).next AJ8.out).next AJ9.out).next AJ10.out).kept HG11.out (.inl (by omega))).next AJ12.out).kept HG13.out (.inl (by omega))).next AJ14.out).next AJ15.out).next AJ16.out).next AJ17.out).reads).mono ?_
    rintro e w18 ⟨rfl, m18, hw18⟩
    have hb18 := Below.drewOf hw18; clear hw18
    rw [decide_eq_true rfl]
    have HB18 := Lib.hid (Below.next HB17.out hb18)
    have hs18 := hb18.size
    have AJ18 := Lib.hid hb18; clear hb18
    have pxgr0_18 := box_at BXgr0.out HB18.out
    clear pxgr0_17
    have pxgr1_18 := box_at BXgr1.out HB18.out
    clear pxgr1_17
    have pxgr2_18 := box_at BXgr2.out HB18.out
    clear pxgr2_17
    have pxb0_18 := box_at BXb0.out HB18.out
    clear pxb0_17
    have pxb1_18 := box_at BXb1.out HB18.out
    clear pxb1_17
    have pxxb0_18 := box_at pxxb0_17 AJ18.out
    clear pxxb0_17
    have pxxb1_18 := box_at pxxb1_17 AJ18.out
    clear pxxb1_17
    go_wp2_with fail
    refine (laws_heldIntS_yes _ 1 _ _ (((((Ogot0m.out.next AJ14.out).next AJ15.out).next AJ16.out).next AJ17.out).next AJ18.out).reads (by simp only [marks_length]; exact LG0.out) (fun j hj => nth_marks (by simpa only [marks_length] using hj))).mono ?_
    rintro e w19 ⟨rfl, m19, hw19⟩
    have hb19 := Below.drewOf hw19; clear hw19
    rw [marks_length]
    have HB19 := Lib.hid (Below.next HB18.out hb19)
    have hs19 := hb19.size
    have AJ19 := Lib.hid hb19; clear hb19
    have pxgr0_19 := box_at BXgr0.out HB19.out
    clear pxgr0_18
    have pxgr1_19 := box_at BXgr1.out HB19.out
    clear pxgr1_18
    have pxgr2_19 := box_at BXgr2.out HB19.out
    clear pxgr2_18
    have pxb0_19 := box_at BXb0.out HB19.out
    clear pxb0_18
    have pxb1_19 := box_at BXb1.out HB19.out
    clear pxb1_18
    have pxxb0_19 := box_at pxxb0_18 AJ19.out
    clear pxxb0_18
    have pxxb1_19 := box_at pxxb1_18 AJ19.out
    clear pxxb1_18
    go_wp2_with fail
    go_ret
    exact ⟨rfl, HWB.out.trans (HB19.out.mono HWB.out.size)⟩
end Go.Proofs.Ytodennbdfloccaa

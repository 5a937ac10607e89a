/- The walks of laws, by program (genlaw3.py). -/
import Derived.Test.YtapfceghgkmgoaaVBoard2
import Derived.Test.YtapfceghgkmgoaaKBoard
import Derived.Test.YtapfceghgkmgoaaGrpL
namespace Go.Proofs.Ytapfceghgkmgoaa
open Go.RowKit
set_option linter.unusedSimpArgs false
set_option linter.unusedVariables false

set_option maxRecDepth 100000 in
set_option maxHeartbeats 2000000 in
theorem law_IsValidBoard (gr : GroupD) (b : Value) (lb : BoardD) (w : World) (hb : (kS rBoard).rd w b lb) :
    Calls Try.prog 12 #[.agg #[.int .i64 gr.p, .int .i64 gr.q, .int .i64 gr.g], b] w fun e w' => e = .returned (.bool true) ∧ Below w.heap.size w w' := by
  obtain ⟨b_a0, b_n0, b_c0, b_a1, b_n1, b_c1, rfl, hrestb⟩ := rdBoard.1 hb
  have hb : (kS rBoard).rd w (.agg #[.slice b_a0 b_n0 b_c0, .slice b_a1 b_n1 b_c1]) lb := rdBoard.2 ⟨_, _, _, _, _, _, rfl, hrestb⟩
  clear hrestb
  obtain ⟨W, hW⟩ : ∃ W, W = (w.alloc (.cells #[.int .i64 gr.p, .int .i64 gr.q, .int .i64 gr.g] 83)).alloc (.cells #[.slice b_a0 b_n0 b_c0, .slice b_a1 b_n1 b_c1] 114) := ⟨_, rfl⟩
  have HWB : Hid (Below w.heap.size w W) := by unfold Hid; rw [hW]; (repeat (first | exact Below.refl _ _ | assumption | refine Below.drew ?_ | refine Below.alloc ?_ (by first | (simp; done) | (simp; omega)) _ | refine Below.setCell ?_ (by first | (simp; done) | (simp; omega)) _))
  have BXgr0 : Hid (W.cell? ⟨w.heap.size, 0, none⟩ = some (.int .i64 gr.p)) := by unfold Hid; rw [hW]; simp [go_sem]
  have BXgr1 : Hid (W.cell? ⟨w.heap.size, 1, none⟩ = some (.int .i64 gr.q)) := by unfold Hid; rw [hW]; simp [go_sem]
  have BXgr2 : Hid (W.cell? ⟨w.heap.size, 2, none⟩ = some (.int .i64 gr.g)) := by unfold Hid; rw [hW]; simp [go_sem]
  have BXb0 : Hid (W.cell? ⟨w.heap.size + 1, 0, none⟩ = some (.slice b_a0 b_n0 b_c0)) := by unfold Hid; rw [hW]; simp [go_sem]
  have BXb1 : Hid (W.cell? ⟨w.heap.size + 1, 1, none⟩ = some (.slice b_a1 b_n1 b_c1)) := by unfold Hid; rw [hW]; simp [go_sem]
  replace hb := ((kS rBoard).rd_below hb HWB.out)
  have Hb := Lib.hid hb; clear hb
  go_enter Try.func12, Try.ntmps12
  go_wp2_with fail
  rw [← hW]
  clear hW
  have pxgr0_0 := BXgr0.out
  have pxgr1_0 := BXgr1.out
  have pxgr2_0 := BXgr2.out
  have pxb0_0 := BXb0.out
  have pxb1_0 := BXb1.out
  refine (laws_szBoard _ lb 1048576 _ ((kS rBoard).rd_below Hb.out (Below.refl _ _)) (by decide) (by decide)).mono ?_
  rintro e w1 ⟨⟨r0, rfl, hr0, hsz0⟩, hb1⟩
  replace hsz0 : 0 ≤ r0 → (szBoard lb : Int) ≤ 1048576 ∧ r0 ≤ 1048576 := fun h => by have := hsz0 h; omega
  have HB1 := Lib.hid (Below.next (Below.refl _ _) hb1)
  have hs1 := hb1.size
  have AJ1 := Lib.hid hb1; clear hb1
  have pxgr0_1 := box_at BXgr0.out HB1.out
  clear pxgr0_0
  have pxgr1_1 := box_at BXgr1.out HB1.out
  clear pxgr1_0
  have pxgr2_1 := box_at BXgr2.out HB1.out
  clear pxgr2_0
  have pxb0_1 := box_at BXb0.out HB1.out
  clear pxb0_0
  have pxb1_1 := box_at BXb1.out HB1.out
  clear pxb1_0
  by_cases hneg0 : r0 < 0
  · go_wp2_with fail
    go_ret
    exact ⟨rfl, HWB.out.trans (HB1.out.mono HWB.out.size)⟩
  · have HZb : Hid ((szBoard lb : Int) ≤ 1000000000) := by have := (hsz0 (by omega)).1; unfold Hid; omega
    have hrb0 : r0 ≤ 1048576 := by have := (hsz0 (by omega)).2; omega
    clear hsz0
    go_wp2_with fail
    go_region_held3 (fun w' => Below w1.heap.size w1 w' ∧ w'.cell? ⟨w.heap.size, 0, none⟩ = some (.int .i64 gr.p) ∧ w'.cell? ⟨w.heap.size, 1, none⟩ = some (.int .i64 gr.q) ∧ w'.cell? ⟨w.heap.size, 2, none⟩ = some (.int .i64 gr.g) ∧ w'.cell? ⟨w.heap.size + 1, 0, none⟩ = some (.slice b_a0 b_n0 b_c0) ∧ w'.cell? ⟨w.heap.size + 1, 1, none⟩ = some (.slice b_a1 b_n1 b_c1)) (first | (have hbq : Below w1.heap.size w1 _ := (Below.refl _ _).drew; exact ⟨hbq, box_at pxgr0_1 hbq, box_at pxgr1_1 hbq, box_at pxgr2_1 hbq, box_at pxb0_1 hbq, box_at pxb1_1 hbq⟩) | (have hbq := keep_b (by assumption) (‹Below w1.heap.size w1 _ ∧ _›).1; exact ⟨hbq, box_at pxgr0_1 hbq, box_at pxgr1_1 hbq, box_at pxgr2_1 hbq, box_at pxb0_1 hbq, box_at pxb1_1 hbq⟩) | fail) ((first
      | (go_at_call 51; refine (laws_toGroup gr _).mono ?_; rintro e w2 ⟨rfl, hb2⟩; (have AJ2 := Lib.hid (keep_b hb2 (Below.refl _ _).drew)); (have HB2 := Lib.hid (Below.next HB1.out AJ2.out)); (have hs2 : w1.heap.size ≤ w2.heap.size := AJ2.out.size); (have hbz := hb2))
      | (go_at_call_of 68 (Value.slice b_a0 b_n0 b_c0); refine (laws_toBoard _ lb _ ((kS rBoard).rd_below Hb.out (HB1.out.trans ((‹Below w1.heap.size w1 _ ∧ _›).1.mono HB1.out.size))) HZb.out).mono ?_; rintro e w3 ⟨sb, rfl, hX, hb3⟩; (have Osb : Hid ((kS rBoard).own w3 w2.heap.size w3.heap.size sb lb) := hX); clear hX; obtain ⟨sb_a0, sb_n0, sb_c0, sb_a1, sb_n1, sb_c1, rfl, hrest⟩ := rdBoard.1 ((kS rBoard).own_rd Osb.out); clear hrest; (have AJ3 := Lib.hid hb3); (have HB3 := Lib.hid (Below.next HB2.out AJ3.out)); (have hs3 : w2.heap.size ≤ w3.heap.size := AJ3.out.size); (have hbz := hb3))
      | (go_at_call 67; refine (spec_IsValidBoard gr _ lb _ HZb.out ((kS rBoard).own_rd Osb.out)).mono ?_; rintro e w4 ⟨rfl, hb4⟩; (have AJ4 := Lib.hid hb4); (have HB4 := Lib.hid (Below.next HB3.out AJ4.out)); (have hs4 : w3.heap.size ≤ w4.heap.size := AJ4.out.size); (have hbz := hb4))
      | fail))
    have hSS := (‹Below w1.heap.size w1 _ ∧ _›)
    clear pxgr0_1
    clear pxgr1_1
    clear pxgr2_1
    clear pxb0_1
    clear pxb1_1
    obtain ⟨hbS, pxgr0_4, pxgr1_4, pxgr2_4, pxb0_4, pxb1_4⟩ := hSS
    clear hbS
    clear hbz
    clear hb2
    clear hb3
    clear hb4
    go_wp2_with fail
    refine (laws_toBoard _ lb _ ((kS rBoard).rd_below Hb.out HB4.out) HZb.out).mono ?_
    rintro e w5 ⟨xb, rfl, hX, hb5⟩
    have Oxb := Lib.hid (hX); clear hX
    obtain ⟨xb_a0, xb_n0, xb_c0, xb_a1, xb_n1, xb_c1, rfl, hrest⟩ := rdBoard.1 ((kS rBoard).own_rd Oxb.out)
    clear hrest
    have HB5 := Lib.hid (Below.next HB4.out hb5)
    have hs5 := hb5.size
    have AJ5 := Lib.hid hb5; clear hb5
    have pxgr0_5 := box_at BXgr0.out HB5.out
    clear pxgr0_4
    have pxgr1_5 := box_at BXgr1.out HB5.out
    clear pxgr1_4
    have pxgr2_5 := box_at BXgr2.out HB5.out
    clear pxgr2_4
    have pxb0_5 := box_at BXb0.out HB5.out
    clear pxb0_4
    have pxb1_5 := box_at BXb1.out HB5.out
    clear pxb1_4
    have zl0 : w.heap.size < w5.heap.size := World.block_lt_of_cell? _ _ pxgr0_5
    have zl1 : w.heap.size + 1 < w5.heap.size := World.block_lt_of_cell? _ _ pxb0_5
    go_wp2_with fail
    clear zl0 zl1
    obtain ⟨w6, hw6⟩ : ∃ u, u = w5.alloc (.cells #[.slice xb_a0 xb_n0 xb_c0, .slice xb_a1 xb_n1 xb_c1] 119) := ⟨_, rfl⟩
    rw [← hw6]
    have hb6 : Below w5.heap.size w5 w6 := by rw [hw6]; exact (Below.refl _ _).alloc (Nat.le_refl _) _
    have hlt6 : w5.heap.size < w6.heap.size := by rw [hw6]; simp
    have pxxb0_6 : w6.cell? ⟨w5.heap.size, 0, none⟩ = some (.slice xb_a0 xb_n0 xb_c0) := by rw [hw6]; simp [go_sem]
    have pxxb1_6 : w6.cell? ⟨w5.heap.size, 1, none⟩ = some (.slice xb_a1 xb_n1 xb_c1) := by rw [hw6]; simp [go_sem]
    clear hw6
    have HB6 := Lib.hid (Below.next HB5.out hb6)
    have hs6 := hb6.size
    have AJ6 := Lib.hid hb6; clear hb6
    have pxgr0_6 := box_at BXgr0.out HB6.out
    clear pxgr0_5
    have pxgr1_6 := box_at BXgr1.out HB6.out
    clear pxgr1_5
    have pxgr2_6 := box_at BXgr2.out HB6.out
    clear pxgr2_5
    have pxb0_6 := box_at BXb0.out HB6.out
    clear pxb0_5
    have pxb1_6 := box_at BXb1.out HB6.out
    clear pxb1_5
    go_region_held3 (fun w' => Below w6.heap.size w6 w' ∧ w'.cell? ⟨w.heap.size, 0, none⟩ = some (.int .i64 gr.p) ∧ w'.cell? ⟨w.heap.size, 1, none⟩ = some (.int .i64 gr.q) ∧ w'.cell? ⟨w.heap.size, 2, none⟩ = some (.int .i64 gr.g) ∧ w'.cell? ⟨w.heap.size + 1, 0, none⟩ = some (.slice b_a0 b_n0 b_c0) ∧ w'.cell? ⟨w.heap.size + 1, 1, none⟩ = some (.slice b_a1 b_n1 b_c1) ∧ w'.cell? ⟨w5.heap.size, 0, none⟩ = some (.slice xb_a0 xb_n0 xb_c0) ∧ w'.cell? ⟨w5.heap.size, 1, none⟩ = some (.slice xb_a1 xb_n1 xb_c1)) (first | (have hbq : Below w6.heap.size w6 _ := (Below.refl _ _).drew; exact ⟨hbq, box_at pxgr0_6 hbq, box_at pxgr1_6 hbq, box_at pxgr2_6 hbq, box_at pxb0_6 hbq, box_at pxb1_6 hbq, box_at pxxb0_6 hbq, box_at pxxb1_6 hbq⟩) | (have hbq := keep_b (by assumption) (‹Below w6.heap.size w6 _ ∧ _›).1; exact ⟨hbq, box_at pxgr0_6 hbq, box_at pxgr1_6 hbq, box_at pxgr2_6 hbq, box_at pxb0_6 hbq, box_at pxb1_6 hbq, box_at pxxb0_6 hbq, box_at pxxb1_6 hbq⟩) | fail) ((first
      | (go_at_call 51; refine (laws_toGroup gr _).mono ?_; rintro e w7 ⟨rfl, hb7⟩; (have AJ7 := Lib.hid (keep_b hb7 (Below.refl _ _).drew)); (have HB7 := Lib.hid (Below.next HB6.out AJ7.out)); (have hs7 : w6.heap.size ≤ w7.heap.size := AJ7.out.size); (have hbz := hb7))
      | (go_at_call 69; refine (impl_IsValidBoard gr _ lb _ HZb.out ((kS rBoard).own_rd (Kind.next (K := kS rBoard) (Kind.next (K := kS rBoard) Oxb.out AJ6.out) AJ7.out))).mono ?_; rintro e w8 ⟨rfl, hb8⟩; (have AJ8 := Lib.hid hb8); (have HB8 := Lib.hid (Below.next HB7.out AJ8.out)); (have hs8 : w7.heap.size ≤ w8.heap.size := AJ8.out.size); (have hbz := hb8))
      | fail))
    have hSS := (‹Below w6.heap.size w6 _ ∧ _›)
    clear pxgr0_6
    clear pxgr1_6
    clear pxgr2_6
    clear pxb0_6
    clear pxb1_6
    clear pxxb0_6
    clear pxxb1_6
    obtain ⟨hbS, pxgr0_8, pxgr1_8, pxgr2_8, pxb0_8, pxb1_8, pxxb0_8, pxxb1_8⟩ := hSS
    clear hbS
    clear hbz
    clear hb7
    clear hb8
    go_wp2_with fail
    go_region_held3 (fun w' => Below w8.heap.size w8 w' ∧ w'.cell? ⟨w.heap.size, 0, none⟩ = some (.int .i64 gr.p) ∧ w'.cell? ⟨w.heap.size, 1, none⟩ = some (.int .i64 gr.q) ∧ w'.cell? ⟨w.heap.size, 2, none⟩ = some (.int .i64 gr.g) ∧ w'.cell? ⟨w.heap.size + 1, 0, none⟩ = some (.slice b_a0 b_n0 b_c0) ∧ w'.cell? ⟨w.heap.size + 1, 1, none⟩ = some (.slice b_a1 b_n1 b_c1) ∧ w'.cell? ⟨w5.heap.size, 0, none⟩ = some (.slice xb_a0 xb_n0 xb_c0) ∧ w'.cell? ⟨w5.heap.size, 1, none⟩ = some (.slice xb_a1 xb_n1 xb_c1)) (first | (have hbq : Below w8.heap.size w8 _ := (Below.refl _ _).drew; exact ⟨hbq, box_at pxgr0_8 hbq, box_at pxgr1_8 hbq, box_at pxgr2_8 hbq, box_at pxb0_8 hbq, box_at pxb1_8 hbq, box_at pxxb0_8 hbq, box_at pxxb1_8 hbq⟩) | (have hbq := keep_b (by assumption) (‹Below w8.heap.size w8 _ ∧ _›).1; exact ⟨hbq, box_at pxgr0_8 hbq, box_at pxgr1_8 hbq, box_at pxgr2_8 hbq, box_at pxb0_8 hbq, box_at pxb1_8 hbq, box_at pxxb0_8 hbq, box_at pxxb1_8 hbq⟩) | fail) ((first
      | (go_at_call 68; refine (laws_toBoard _ lb _ ((kS rBoard).rd_below Hb.out (HB8.out.trans ((‹Below w8.heap.size w8 _ ∧ _›).1.mono HB8.out.size))) HZb.out).mono ?_; rintro e wy ⟨yy, rfl, hX, hby⟩; obtain ⟨yy_a0, yy_n0, yy_c0, yy_a1, yy_n1, yy_c1, rfl, hrest⟩ := rdBoard.1 ((kS rBoard).own_rd hX); clear hrest)
      | (go_at_call 70; refine (laws_eqBoard _ _ _ _ _ ((kS rBoard).rd_below ((kS rBoard).own_rd (Kind.next (K := kS rBoard) (Kind.next (K := kS rBoard) (Kind.next (K := kS rBoard) Oxb.out AJ6.out) AJ7.out) AJ8.out)) (keep_b hby (Below.refl _ _).drew)) ((kS rBoard).own_rd hX)).mono ?_; rintro e w9 ⟨rfl, hb9⟩; rw [decide_eq_true rfl])
      | fail))
    replace hb9 : Below w8.heap.size w8 w9 := (‹Below w8.heap.size w8 _ ∧ _›).1
    clear hX
    have HB9 := Lib.hid (Below.next HB8.out hb9)
    have hs9 := hb9.size
    have AJ9 := Lib.hid hb9; clear hb9
    have pxgr0_9 := box_at BXgr0.out HB9.out
    clear pxgr0_8
    have pxgr1_9 := box_at BXgr1.out HB9.out
    clear pxgr1_8
    have pxgr2_9 := box_at BXgr2.out HB9.out
    clear pxgr2_8
    have pxb0_9 := box_at BXb0.out HB9.out
    clear pxb0_8
    have pxb1_9 := box_at BXb1.out HB9.out
    clear pxb1_8
    have pxxb0_9 := box_at pxxb0_8 AJ9.out
    clear pxxb0_8
    have pxxb1_9 := box_at pxxb1_8 AJ9.out
    clear pxxb1_8
    go_wp2_with fail
    go_ret
    exact ⟨rfl, HWB.out.trans (HB9.out.mono HWB.out.size)⟩
end Go.Proofs.Ytapfceghgkmgoaa

/- The walks of laws, by program (genlaw4.py). -/
import Derived.Test.YtodennbdfloccaaGreatVFits2
import Derived.Test.YtodennbdfloccaaGreatKBoard
import Derived.Test.YtodennbdfloccaaGreatBk
import Derived.Test.YtodennbdfloccaaGreatKHeadS
import Derived.Test.YtodennbdfloccaaGreatGrpL
namespace Go.Proofs.YtodennbdfloccaaGreat
open Go.RowKit
set_option linter.unusedSimpArgs false
set_option linter.unusedVariables false

set_option maxRecDepth 100000 in
set_option maxHeartbeats 2000000 in
theorem law_CheckHead (gr : GroupD) (b : Value) (lb : BoardD) (h : Value) (lh : HeadD) (w : World) (hb : (kS rBoard).rd w b lb) (hh : (kS rHead).rd w h lh) :
    Calls Tryz.prog 3 #[.agg #[.int .i64 gr.p, .int .i64 gr.q, .int .i64 gr.g], b, h] w fun e w' => e = .returned (.bool true) ∧ Below w.heap.size w w' := by
  obtain ⟨b_a0, b_n0, b_c0, b_a1, b_n1, b_c1, rfl, hrestb⟩ := rdBoard.1 hb
  have hb : (kS rBoard).rd w (.agg #[.slice b_a0 b_n0 b_c0, .slice b_a1 b_n1 b_c1]) lb := rdBoard.2 ⟨_, _, _, _, _, _, rfl, hrestb⟩
  clear hrestb
  obtain ⟨h_a3, h_n3, h_c3, h_a4, h_n4, h_c4, h_a5, h_n5, h_c5, rfl, hresth⟩ := rdHead.1 hh
  have hh : (kS rHead).rd w (.agg #[.int .i64 lh.author, .int .i64 lh.size, .int .i64 lh.root, .slice h_a3 h_n3 h_c3, .slice h_a4 h_n4 h_c4, .slice h_a5 h_n5 h_c5]) lh := rdHead.2 ⟨_, _, _, _, _, _, _, _, _, rfl, hresth⟩
  clear hresth
  obtain ⟨W, hW⟩ : ∃ W, W = ((w.alloc (.cells #[.int .i64 gr.p, .int .i64 gr.q, .int .i64 gr.g] 23)).alloc (.cells #[.slice b_a0 b_n0 b_c0, .slice b_a1 b_n1 b_c1] 27)).alloc (.cells #[.int .i64 lh.author, .int .i64 lh.size, .int .i64 lh.root, .slice h_a3 h_n3 h_c3, .slice h_a4 h_n4 h_c4, .slice h_a5 h_n5 h_c5] 31) := ⟨_, rfl⟩
  have HWB : Hid (Below w.heap.size w W) := by unfold Hid; rw [hW]; (repeat (first | exact Below.refl _ _ | assumption | refine Below.drew ?_ | refine Below.alloc ?_ (by first | (simp; done) | (simp; omega)) _ | refine Below.setCell ?_ (by first | (simp; done) | (simp; omega)) _))
  have BXgr0 : Hid (W.cell? ⟨w.heap.size, 0, none⟩ = some (.int .i64 gr.p)) := by unfold Hid; rw [hW]; simp [go_sem]
  have BXgr1 : Hid (W.cell? ⟨w.heap.size, 1, none⟩ = some (.int .i64 gr.q)) := by unfold Hid; rw [hW]; simp [go_sem]
  have BXgr2 : Hid (W.cell? ⟨w.heap.size, 2, none⟩ = some (.int .i64 gr.g)) := by unfold Hid; rw [hW]; simp [go_sem]
  have BXb0 : Hid (W.cell? ⟨w.heap.size + 1, 0, none⟩ = some (.slice b_a0 b_n0 b_c0)) := by unfold Hid; rw [hW]; simp [go_sem]
  have BXb1 : Hid (W.cell? ⟨w.heap.size + 1, 1, none⟩ = some (.slice b_a1 b_n1 b_c1)) := by unfold Hid; rw [hW]; simp [go_sem]
  have BXh0 : Hid (W.cell? ⟨w.heap.size + 1 + 1, 0, none⟩ = some (.int .i64 lh.author)) := by unfold Hid; rw [hW]; simp [go_sem]
  have BXh1 : Hid (W.cell? ⟨w.heap.size + 1 + 1, 1, none⟩ = some (.int .i64 lh.size)) := by unfold Hid; rw [hW]; simp [go_sem]
  have BXh2 : Hid (W.cell? ⟨w.heap.size + 1 + 1, 2, none⟩ = some (.int .i64 lh.root)) := by unfold Hid; rw [hW]; simp [go_sem]
  have BXh3 : Hid (W.cell? ⟨w.heap.size + 1 + 1, 3, none⟩ = some (.slice h_a3 h_n3 h_c3)) := by unfold Hid; rw [hW]; simp [go_sem]
  have BXh4 : Hid (W.cell? ⟨w.heap.size + 1 + 1, 4, none⟩ = some (.slice h_a4 h_n4 h_c4)) := by unfold Hid; rw [hW]; simp [go_sem]
  have BXh5 : Hid (W.cell? ⟨w.heap.size + 1 + 1, 5, none⟩ = some (.slice h_a5 h_n5 h_c5)) := by unfold Hid; rw [hW]; simp [go_sem]
  replace hb := ((kS rBoard).rd_below hb HWB.out)
  replace hh := ((kS rHead).rd_below hh HWB.out)
  have Hb := Lib.hid hb; clear hb
  have Hh := Lib.hid hh; clear hh
  go_enter Tryz.func3, Tryz.ntmps3
  go_wp2_with fail
  rw [← hW]
  clear hW
  have pxgr0_0 := BXgr0.out
  have pxgr1_0 := BXgr1.out
  have pxgr2_0 := BXgr2.out
  have pxb0_0 := BXb0.out
  have pxb1_0 := BXb1.out
  have pxh0_0 := BXh0.out
  have pxh1_0 := BXh1.out
  have pxh2_0 := BXh2.out
  have pxh3_0 := BXh3.out
  have pxh4_0 := BXh4.out
  have pxh5_0 := BXh5.out
  refine (laws_szBoard _ lb 1048576 _ ((kS rBoard).rd_below Hb.out (Below.refl _ _)) (by decide) (by decide)).mono ?_
  rintro e w1 ⟨⟨r0, rfl, hr0, hsz0⟩, hb1⟩
  replace hsz0 : 0 ≤ r0 → (szBoard lb : Int) ≤ 1048576 ∧ r0 ≤ 1048576 := fun h => by have := hsz0 h; omega
  have HB1 := Lib.hid (Below.next (Below.refl _ _) hb1)
  have hs1 := hb1.size
  have AJ1 := Lib.hid hb1; clear hb1
  have pxgr0_1 := box_at BXgr0.out HB1.out
  clear pxgr0_0
  have pxgr1_1 := box_at BXgr1.out HB1.out
  clear pxgr1_0
  have pxgr2_1 := box_at BXgr2.out HB1.out
  clear pxgr2_0
  have pxb0_1 := box_at BXb0.out HB1.out
  clear pxb0_0
  have pxb1_1 := box_at BXb1.out HB1.out
  clear pxb1_0
  have pxh0_1 := box_at BXh0.out HB1.out
  clear pxh0_0
  have pxh1_1 := box_at BXh1.out HB1.out
  clear pxh1_0
  have pxh2_1 := box_at BXh2.out HB1.out
  clear pxh2_0
  have pxh3_1 := box_at BXh3.out HB1.out
  clear pxh3_0
  have pxh4_1 := box_at BXh4.out HB1.out
  clear pxh4_0
  have pxh5_1 := box_at BXh5.out HB1.out
  clear pxh5_0
  by_cases hneg0 : r0 < 0
  · go_wp2_with fail
    go_ret
    exact ⟨rfl, HWB.out.trans (HB1.out.mono HWB.out.size)⟩
  · have HZb : Hid ((szBoard lb : Int) ≤ 1000000000) := by have := (hsz0 (by omega)).1; unfold Hid; omega
    have hrb0 : r0 ≤ 1048576 := by have := (hsz0 (by omega)).2; omega
    clear hsz0
    go_wp2_with fail
    refine (laws_szHead _ lh r0 _ ((kS rHead).rd_below Hh.out HB1.out) (by omega) (by omega)).mono ?_
    rintro e w2 ⟨⟨r1, rfl, hr1, hsz1⟩, hb2⟩
    replace hsz1 : 0 ≤ r1 → (szHead lh : Int) ≤ r0 ∧ r1 ≤ r0 := fun h => by have := hsz1 h; omega
    have HB2 := Lib.hid (Below.next HB1.out hb2)
    have hs2 := hb2.size
    have AJ2 := Lib.hid hb2; clear hb2
    have pxgr0_2 := box_at BXgr0.out HB2.out
    clear pxgr0_1
    have pxgr1_2 := box_at BXgr1.out HB2.out
    clear pxgr1_1
    have pxgr2_2 := box_at BXgr2.out HB2.out
    clear pxgr2_1
    have pxb0_2 := box_at BXb0.out HB2.out
    clear pxb0_1
    have pxb1_2 := box_at BXb1.out HB2.out
    clear pxb1_1
    have pxh0_2 := box_at BXh0.out HB2.out
    clear pxh0_1
    have pxh1_2 := box_at BXh1.out HB2.out
    clear pxh1_1
    have pxh2_2 := box_at BXh2.out HB2.out
    clear pxh2_1
    have pxh3_2 := box_at BXh3.out HB2.out
    clear pxh3_1
    have pxh4_2 := box_at BXh4.out HB2.out
    clear pxh4_1
    have pxh5_2 := box_at BXh5.out HB2.out
    clear pxh5_1
    by_cases hneg1 : r1 < 0
    · go_wp2_with fail
      go_ret
      exact ⟨rfl, HWB.out.trans (HB2.out.mono HWB.out.size)⟩
    · have HZh : Hid ((szHead lh : Int) ≤ 1000000000) := by have := (hsz1 (by omega)).1; unfold Hid; omega
      have hrb1 : r1 ≤ 1048576 := by have := (hsz1 (by omega)).2; omega
      clear hsz1
      go_wp2_with fail
      go_region_held3 (fun w' => Below w2.heap.size w2 w' ∧ w'.cell? ⟨w.heap.size, 0, none⟩ = some (.int .i64 gr.p) ∧ w'.cell? ⟨w.heap.size, 1, none⟩ = some (.int .i64 gr.q) ∧ w'.cell? ⟨w.heap.size, 2, none⟩ = some (.int .i64 gr.g) ∧ w'.cell? ⟨w.heap.size + 1, 0, none⟩ = some (.slice b_a0 b_n0 b_c0) ∧ w'.cell? ⟨w.heap.size + 1, 1, none⟩ = some (.slice b_a1 b_n1 b_c1) ∧ w'.cell? ⟨w.heap.size + 1 + 1, 0, none⟩ = some (.int .i64 lh.author) ∧ w'.cell? ⟨w.heap.size + 1 + 1, 1, none⟩ = some (.int .i64 lh.size) ∧ w'.cell? ⟨w.heap.size + 1 + 1, 2, none⟩ = some (.int .i64 lh.root) ∧ w'.cell? ⟨w.heap.size + 1 + 1, 3, none⟩ = some (.slice h_a3 h_n3 h_c3) ∧ w'.cell? ⟨w.heap.size + 1 + 1, 4, none⟩ = some (.slice h_a4 h_n4 h_c4) ∧ w'.cell? ⟨w.heap.size + 1 + 1, 5, none⟩ = some (.slice h_a5 h_n5 h_c5)) (first | (have hbq : Below w2.heap.size w2 _ := (Below.refl _ _).drew; exact ⟨hbq, box_at pxgr0_2 hbq, box_at pxgr1_2 hbq, box_at pxgr2_2 hbq, box_at pxb0_2 hbq, box_at pxb1_2 hbq, box_at pxh0_2 hbq, box_at pxh1_2 hbq, box_at pxh2_2 hbq, box_at pxh3_2 hbq, box_at pxh4_2 hbq, box_at pxh5_2 hbq⟩) | (have hbq := keep_b (by assumption) (‹Below w2.heap.size w2 _ ∧ _›).1; exact ⟨hbq, box_at pxgr0_2 hbq, box_at pxgr1_2 hbq, box_at pxgr2_2 hbq, box_at pxb0_2 hbq, box_at pxb1_2 hbq, box_at pxh0_2 hbq, box_at pxh1_2 hbq, box_at pxh2_2 hbq, box_at pxh3_2 hbq, box_at pxh4_2 hbq, box_at pxh5_2 hbq⟩) | fail) ((first
        | (go_at_call 10; refine (laws_toGroup gr _).mono ?_; rintro e w3 ⟨rfl, hb3⟩; (have AJ3 := Lib.hid (keep_b hb3 (Below.refl _ _).drew)); (have HB3 := Lib.hid (Below.next HB2.out AJ3.out)); (have hs3 : w2.heap.size ≤ w3.heap.size := AJ3.out.size); (have hbz := hb3))
        | (go_at_call_of 11 (Value.slice b_a0 b_n0 b_c0); refine (laws_toBoard _ lb _ ((kS rBoard).rd_below Hb.out (HB2.out.trans ((‹Below w2.heap.size w2 _ ∧ _›).1.mono HB2.out.size))) HZb.out).mono ?_; rintro e w4 ⟨sb, rfl, hX, hb4⟩; (have Osb : Hid ((kS rBoard).own w4 w3.heap.size w4.heap.size sb lb) := hX); clear hX; obtain ⟨sb_a0, sb_n0, sb_c0, sb_a1, sb_n1, sb_c1, rfl, hrest⟩ := rdBoard.1 ((kS rBoard).own_rd Osb.out); clear hrest; (have AJ4 := Lib.hid hb4); (have HB4 := Lib.hid (Below.next HB3.out AJ4.out)); (have hs4 : w3.heap.size ≤ w4.heap.size := AJ4.out.size); (have hbz := hb4))
        | (go_at_call_of 12 (Value.int .i64 lh.author); refine (laws_toHead _ lh _ ((kS rHead).rd_below Hh.out (HB2.out.trans ((‹Below w2.heap.size w2 _ ∧ _›).1.mono HB2.out.size))) HZh.out).mono ?_; rintro e w5 ⟨sh, rfl, hX, hb5⟩; (have Osh : Hid ((kS rHead).own w5 w4.heap.size w5.heap.size sh lh) := hX); clear hX; obtain ⟨sh_a3, sh_n3, sh_c3, sh_a4, sh_n4, sh_c4, sh_a5, sh_n5, sh_c5, rfl, hrest⟩ := rdHead.1 ((kS rHead).own_rd Osh.out); clear hrest; (have AJ5 := Lib.hid hb5); (have HB5 := Lib.hid (Below.next HB4.out AJ5.out)); (have hs5 : w4.heap.size ≤ w5.heap.size := AJ5.out.size); (have hbz := hb5))
        | (go_at_call 9; refine (spec_CheckHead gr _ lb _ lh _ HZb.out ((kS rBoard).own_rd (Kind.next (K := kS rBoard) Osb.out AJ5.out)) HZh.out ((kS rHead).own_rd Osh.out)).mono ?_; rintro e w6 ⟨rfl, hb6⟩; (have AJ6 := Lib.hid hb6); (have HB6 := Lib.hid (Below.next HB5.out AJ6.out)); (have hs6 : w5.heap.size ≤ w6.heap.size := AJ6.out.size); (have hbz := hb6))
        | fail))
      have hSS := (‹Below w2.heap.size w2 _ ∧ _›)
      clear pxgr0_2
      clear pxgr1_2
      clear pxgr2_2
      clear pxb0_2
      clear pxb1_2
      clear pxh0_2
      clear pxh1_2
      clear pxh2_2
      clear pxh3_2
      clear pxh4_2
      clear pxh5_2
      obtain ⟨hbS, pxgr0_6, pxgr1_6, pxgr2_6, pxb0_6, pxb1_6, pxh0_6, pxh1_6, pxh2_6, pxh3_6, pxh4_6, pxh5_6⟩ := hSS
      clear hbS
      clear hbz
      clear hb3
      clear hb4
      clear hb5
      clear hb6
      go_wp2_with fail
      refine (laws_toBoard _ lb _ ((kS rBoard).rd_below Hb.out HB6.out) HZb.out).mono ?_
      rintro e w7 ⟨xb, rfl, hX, hb7⟩
      have Oxb := Lib.hid (hX); clear hX
      obtain ⟨xb_a0, xb_n0, xb_c0, xb_a1, xb_n1, xb_c1, rfl, hrest⟩ := rdBoard.1 ((kS rBoard).own_rd Oxb.out)
      clear hrest
      have HB7 := Lib.hid (Below.next HB6.out hb7)
      have hs7 := hb7.size
      have AJ7 := Lib.hid hb7; clear hb7
      have pxgr0_7 := box_at BXgr0.out HB7.out
      clear pxgr0_6
      have pxgr1_7 := box_at BXgr1.out HB7.out
      clear pxgr1_6
      have pxgr2_7 := box_at BXgr2.out HB7.out
      clear pxgr2_6
      have pxb0_7 := box_at BXb0.out HB7.out
      clear pxb0_6
      have pxb1_7 := box_at BXb1.out HB7.out
      clear pxb1_6
      have pxh0_7 := box_at BXh0.out HB7.out
      clear pxh0_6
      have pxh1_7 := box_at BXh1.out HB7.out
      clear pxh1_6
      have pxh2_7 := box_at BXh2.out HB7.out
      clear pxh2_6
      have pxh3_7 := box_at BXh3.out HB7.out
      clear pxh3_6
      have pxh4_7 := box_at BXh4.out HB7.out
      clear pxh4_6
      have pxh5_7 := box_at BXh5.out HB7.out
      clear pxh5_6
      have zl0 : w.heap.size < w7.heap.size := World.block_lt_of_cell? _ _ pxgr0_7
      have zl1 : w.heap.size + 1 < w7.heap.size := World.block_lt_of_cell? _ _ pxb0_7
      have zl2 : w.heap.size + 1 + 1 < w7.heap.size := World.block_lt_of_cell? _ _ pxh0_7
      go_wp2_with fail
      clear zl0 zl1 zl2
      obtain ⟨w8, hw8⟩ : ∃ u, u = w7.alloc (.cells #[.slice xb_a0 xb_n0 xb_c0, .slice xb_a1 xb_n1 xb_c1] 40) := ⟨_, rfl⟩
      rw [← hw8]
      have hb8 : Below w7.heap.size w7 w8 := by rw [hw8]; exact (Below.refl _ _).alloc (Nat.le_refl _) _
      have hlt8 : w7.heap.size < w8.heap.size := by rw [hw8]; simp
      have pxxb0_8 : w8.cell? ⟨w7.heap.size, 0, none⟩ = some (.slice xb_a0 xb_n0 xb_c0) := by rw [hw8]; simp [go_sem]
      have pxxb1_8 : w8.cell? ⟨w7.heap.size, 1, none⟩ = some (.slice xb_a1 xb_n1 xb_c1) := by rw [hw8]; simp [go_sem]
      clear hw8
      have HB8 := Lib.hid (Below.next HB7.out hb8)
      have hs8 := hb8.size
      have AJ8 := Lib.hid hb8; clear hb8
      have pxgr0_8 := box_at BXgr0.out HB8.out
      clear pxgr0_7
      have pxgr1_8 := box_at BXgr1.out HB8.out
      clear pxgr1_7
      have pxgr2_8 := box_at BXgr2.out HB8.out
      clear pxgr2_7
      have pxb0_8 := box_at BXb0.out HB8.out
      clear pxb0_7
      have pxb1_8 := box_at BXb1.out HB8.out
      clear pxb1_7
      have pxh0_8 := box_at BXh0.out HB8.out
      clear pxh0_7
      have pxh1_8 := box_at BXh1.out HB8.out
      clear pxh1_7
      have pxh2_8 := box_at BXh2.out HB8.out
      clear pxh2_7
      have pxh3_8 := box_at BXh3.out HB8.out
      clear pxh3_7
      have pxh4_8 := box_at BXh4.out HB8.out
      clear pxh4_7
      have pxh5_8 := box_at BXh5.out HB8.out
      clear pxh5_7
      refine (laws_toHead _ lh _ ((kS rHead).rd_below Hh.out HB8.out) HZh.out).mono ?_
      rintro e w9 ⟨xh, rfl, hX, hb9⟩
      have Oxh := Lib.hid (hX); clear hX
      obtain ⟨xh_a3, xh_n3, xh_c3, xh_a4, xh_n4, xh_c4, xh_a5, xh_n5, xh_c5, rfl, hrest⟩ := rdHead.1 ((kS rHead).own_rd Oxh.out)
      clear hrest
      have HB9 := Lib.hid (Below.next HB8.out hb9)
      have hs9 := hb9.size
      have AJ9 := Lib.hid hb9; clear hb9
      have pxgr0_9 := box_at BXgr0.out HB9.out
      clear pxgr0_8
      have pxgr1_9 := box_at BXgr1.out HB9.out
      clear pxgr1_8
      have pxgr2_9 := box_at BXgr2.out HB9.out
      clear pxgr2_8
      have pxb0_9 := box_at BXb0.out HB9.out
      clear pxb0_8
      have pxb1_9 := box_at BXb1.out HB9.out
      clear pxb1_8
      have pxh0_9 := box_at BXh0.out HB9.out
      clear pxh0_8
      have pxh1_9 := box_at BXh1.out HB9.out
      clear pxh1_8
      have pxh2_9 := box_at BXh2.out HB9.out
      clear pxh2_8
      have pxh3_9 := box_at BXh3.out HB9.out
      clear pxh3_8
      have pxh4_9 := box_at BXh4.out HB9.out
      clear pxh4_8
      have pxh5_9 := box_at BXh5.out HB9.out
      clear pxh5_8
      have pxxb0_9 := box_at pxxb0_8 AJ9.out
      clear pxxb0_8
      have pxxb1_9 := box_at pxxb1_8 AJ9.out
      clear pxxb1_8
      have zl0 : w.heap.size < w9.heap.size := World.block_lt_of_cell? _ _ pxgr0_9
      have zl1 : w.heap.size + 1 < w9.heap.size := World.block_lt_of_cell? _ _ pxb0_9
      have zl2 : w.heap.size + 1 + 1 < w9.heap.size := World.block_lt_of_cell? _ _ pxh0_9
      have zl3 : w7.heap.size < w9.heap.size := World.block_lt_of_cell? _ _ pxxb0_9
      go_wp2_with fail
      clear zl0 zl1 zl2 zl3
      obtain ⟨w10, hw10⟩ : ∃ u, u = w9.alloc (.cells #[.int .i64 lh.author, .int .i64 lh.size, .int .i64 lh.root, .slice xh_a3 xh_n3 xh_c3, .slice xh_a4 xh_n4 xh_c4, .slice xh_a5 xh_n5 xh_c5] 44) := ⟨_, rfl⟩
      rw [← hw10]
      have hb10 : Below w9.heap.size w9 w10 := by rw [hw10]; exact (Below.refl _ _).alloc (Nat.le_refl _) _
      have hlt10 : w9.heap.size < w10.heap.size := by rw [hw10]; simp
      have pxxh0_10 : w10.cell? ⟨w9.heap.size, 0, none⟩ = some (.int .i64 lh.author) := by rw [hw10]; simp [go_sem]
      have pxxh1_10 : w10.cell? ⟨w9.heap.size, 1, none⟩ = some (.int .i64 lh.size) := by rw [hw10]; simp [go_sem]
      have pxxh2_10 : w10.cell? ⟨w9.heap.size, 2, none⟩ = some (.int .i64 lh.root) := by rw [hw10]; simp [go_sem]
      have pxxh3_10 : w10.cell? ⟨w9.heap.size, 3, none⟩ = some (.slice xh_a3 xh_n3 xh_c3) := by rw [hw10]; simp [go_sem]
      have pxxh4_10 : w10.cell? ⟨w9.heap.size, 4, none⟩ = some (.slice xh_a4 xh_n4 xh_c4) := by rw [hw10]; simp [go_sem]
      have pxxh5_10 : w10.cell? ⟨w9.heap.size, 5, none⟩ = some (.slice xh_a5 xh_n5 xh_c5) := by rw [hw10]; simp [go_sem]
      clear hw10
      have HB10 := Lib.hid (Below.next HB9.out hb10)
      have hs10 := hb10.size
      have AJ10 := Lib.hid hb10; clear hb10
      have pxgr0_10 := box_at BXgr0.out HB10.out
      clear pxgr0_9
      have pxgr1_10 := box_at BXgr1.out HB10.out
      clear pxgr1_9
      have pxgr2_10 := box_at BXgr2.out HB10.out
      clear pxgr2_9
      have pxb0_10 := box_at BXb0.out HB10.out
      clear pxb0_9
      have pxb1_10 := box_at BXb1.out HB10.out
      clear pxb1_9
      have pxh0_10 := box_at BXh0.out HB10.out
      clear pxh0_9
      have pxh1_10 := box_at BXh1.out HB10.out
      clear pxh1_9
      have pxh2_10 := box_at BXh2.out HB10.out
      clear pxh2_9
      have pxh3_10 := box_at BXh3.out HB10.out
      clear pxh3_9
      have pxh4_10 := box_at BXh4.out HB10.out
      clear pxh4_9
      have pxh5_10 := box_at BXh5.out HB10.out
      clear pxh5_9
      have pxxb0_10 := box_at pxxb0_9 AJ10.out
      clear pxxb0_9
      have pxxb1_10 := box_at pxxb1_9 AJ10.out
      clear pxxb1_9
      go_region_held3 (fun w' => Below w10.heap.size w10 w' ∧ w'.cell? ⟨w.heap.size, 0, none⟩ = some (.int .i64 gr.p) ∧ w'.cell? ⟨w.heap.size, 1, none⟩ = some (.int .i64 gr.q) ∧ w'.cell? ⟨w.heap.size, 2, none⟩ = some (.int .i64 gr.g) ∧ w'.cell? ⟨w.heap.size + 1, 0, none⟩ = some (.slice b_a0 b_n0 b_c0) ∧ w'.cell? ⟨w.heap.size + 1, 1, none⟩ = some (.slice b_a1 b_n1 b_c1) ∧ w'.cell? ⟨w.heap.size + 1 + 1, 0, none⟩ = some (.int .i64 lh.author) ∧ w'.cell? ⟨w.heap.size + 1 + 1, 1, none⟩ = some (.int .i64 lh.size) ∧ w'.cell? ⟨w.heap.size + 1 + 1, 2, none⟩ = some (.int .i64 lh.root) ∧ w'.cell? ⟨w.heap.size + 1 + 1, 3, none⟩ = some (.slice h_a3 h_n3 h_c3) ∧ w'.cell? ⟨w.heap.size + 1 + 1, 4, none⟩ = some (.slice h_a4 h_n4 h_c4) ∧ w'.cell? ⟨w.heap.size + 1 + 1, 5, none⟩ = some (.slice h_a5 h_n5 h_c5) ∧ w'.cell? ⟨w7.heap.size, 0, none⟩ = some (.slice xb_a0 xb_n0 xb_c0) ∧ w'.cell? ⟨w7.heap.size, 1, none⟩ = some (.slice xb_a1 xb_n1 xb_c1) ∧ w'.cell? ⟨w9.heap.size, 0, none⟩ = some (.int .i64 lh.author) ∧ w'.cell? ⟨w9.heap.size, 1, none⟩ = some (.int .i64 lh.size) ∧ w'.cell? ⟨w9.heap.size, 2, none⟩ = some (.int .i64 lh.root) ∧ w'.cell? ⟨w9.heap.size, 3, none⟩ = some (.slice xh_a3 xh_n3 xh_c3) ∧ w'.cell? ⟨w9.heap.size, 4, none⟩ = some (.slice xh_a4 xh_n4 xh_c4) ∧ w'.cell? ⟨w9.heap.size, 5, none⟩ = some (.slice xh_a5 xh_n5 xh_c5)) (first | (have hbq : Below w10.heap.size w10 _ := (Below.refl _ _).drew; exact ⟨hbq, box_at pxgr0_10 hbq, box_at pxgr1_10 hbq, box_at pxgr2_10 hbq, box_at pxb0_10 hbq, box_at pxb1_10 hbq, box_at pxh0_10 hbq, box_at pxh1_10 hbq, box_at pxh2_10 hbq, box_at pxh3_10 hbq, box_at pxh4_10 hbq, box_at pxh5_10 hbq, box_at pxxb0_10 hbq, box_at pxxb1_10 hbq, box_at pxxh0_10 hbq, box_at pxxh1_10 hbq, box_at pxxh2_10 hbq, box_at pxxh3_10 hbq, box_at pxxh4_10 hbq, box_at pxxh5_10 hbq⟩) | (have hbq := keep_b (by assumption) (‹Below w10.heap.size w10 _ ∧ _›).1; exact ⟨hbq, box_at pxgr0_10 hbq, box_at pxgr1_10 hbq, box_at pxgr2_10 hbq, box_at pxb0_10 hbq, box_at pxb1_10 hbq, box_at pxh0_10 hbq, box_at pxh1_10 hbq, box_at pxh2_10 hbq, box_at pxh3_10 hbq, box_at pxh4_10 hbq, box_at pxh5_10 hbq, box_at pxxb0_10 hbq, box_at pxxb1_10 hbq, box_at pxxh0_10 hbq, box_at pxxh1_10 hbq, box_at pxxh2_10 hbq, box_at pxxh3_10 hbq, box_at pxxh4_10 hbq, box_at pxxh5_10 hbq⟩) | fail) ((first
        | (go_at_call 10; refine (laws_toGroup gr _).mono ?_; rintro e w11 ⟨rfl, hb11⟩; (have AJ11 := Lib.hid (keep_b hb11 (Below.refl _ _).drew)); (have HB11 := Lib.hid (Below.next HB10.out AJ11.out)); (have hs11 : w10.heap.size ≤ w11.heap.size := AJ11.out.size); (have hbz := hb11))
        | (go_at_call 13; refine (impl_CheckHead gr _ lb _ lh _ HZb.out ((kS rBoard).own_rd (Kind.next (K := kS rBoard) (Kind.next (K := kS rBoard) (Kind.next (K := kS rBoard) (Kind.next (K := kS rBoard) Oxb.out AJ8.out) AJ9.out) AJ10.out) AJ11.out)) HZh.out ((kS rHead).own_rd (Kind.next (K := kS rHead) (Kind.next (K := kS rHead) Oxh.out AJ10.out) AJ11.out))).mono ?_; rintro e w12 ⟨rfl, hb12⟩; (have AJ12 := Lib.hid hb12); (have HB12 := Lib.hid (Below.next HB11.out AJ12.out)); (have hs12 : w11.heap.size ≤ w12.heap.size := AJ12.out.size); (have hbz := hb12))
        | fail))
      have hSS := (‹Below w10.heap.size w10 _ ∧ _›)
      clear pxgr0_10
      clear pxgr1_10
      clear pxgr2_10
      clear pxb0_10
      clear pxb1_10
      clear pxh0_10
      clear pxh1_10
      clear pxh2_10
      clear pxh3_10
      clear pxh4_10
      clear pxh5_10
      clear pxxb0_10
      clear pxxb1_10
      clear pxxh0_10
      clear pxxh1_10
      clear pxxh2_10
      clear pxxh3_10
      clear pxxh4_10
      clear pxxh5_10
      obtain ⟨hbS, pxgr0_12, pxgr1_12, pxgr2_12, pxb0_12, pxb1_12, pxh0_12, pxh1_12, pxh2_12, pxh3_12, pxh4_12, pxh5_12, pxxb0_12, pxxb1_12, pxxh0_12, pxxh1_12, pxxh2_12, pxxh3_12, pxxh4_12, pxxh5_12⟩ := hSS
      clear hbS
      clear hbz
      clear hb11
      clear hb12
      go_wp2_with fail
      go_region_held3 (fun w' => Below w12.heap.size w12 w' ∧ w'.cell? ⟨w.heap.size, 0, none⟩ = some (.int .i64 gr.p) ∧ w'.cell? ⟨w.heap.size, 1, none⟩ = some (.int .i64 gr.q) ∧ w'.cell? ⟨w.heap.size, 2, none⟩ = some (.int .i64 gr.g) ∧ w'.cell? ⟨w.heap.size + 1, 0, none⟩ = some (.slice b_a0 b_n0 b_c0) ∧ w'.cell? ⟨w.heap.size + 1, 1, none⟩ = some (.slice b_a1 b_n1 b_c1) ∧ w'.cell? ⟨w.heap.size + 1 + 1, 0, none⟩ = some (.int .i64 lh.author) ∧ w'.cell? ⟨w.heap.size + 1 + 1, 1, none⟩ = some (.int .i64 lh.size) ∧ w'.cell? ⟨w.heap.size + 1 + 1, 2, none⟩ = some (.int .i64 lh.root) ∧ w'.cell? ⟨w.heap.size + 1 + 1, 3, none⟩ = some (.slice h_a3 h_n3 h_c3) ∧ w'.cell? ⟨w.heap.size + 1 + 1, 4, none⟩ = some (.slice h_a4 h_n4 h_c4) ∧ w'.cell? ⟨w.heap.size + 1 + 1, 5, none⟩ = some (.slice h_a5 h_n5 h_c5) ∧ w'.cell? ⟨w7.heap.size, 0, none⟩ = some (.slice xb_a0 xb_n0 xb_c0) ∧ w'.cell? ⟨w7.heap.size, 1, none⟩ = some (.slice xb_a1 xb_n1 xb_c1) ∧ w'.cell? ⟨w9.heap.size, 0, none⟩ = some (.int .i64 lh.author) ∧ w'.cell? ⟨w9.heap.size, 1, none⟩ = some (.int .i64 lh.size) ∧ w'.cell? ⟨w9.heap.size, 2, none⟩ = some (.int .i64 lh.root) ∧ w'.cell? ⟨w9.heap.size, 3, none⟩ = some (.slice xh_a3 xh_n3 xh_c3) ∧ w'.cell? ⟨w9.heap.size, 4, none⟩ = some (.slice xh_a4 xh_n4 xh_c4) ∧ w'.cell? ⟨w9.heap.size, 5, none⟩ = some (.slice xh_a5 xh_n5 xh_c5)) (first | (have hbq : Below w12.heap.size w12 _ := (Below.refl _ _).drew; exact ⟨hbq, box_at pxgr0_12 hbq, box_at pxgr1_12 hbq, box_at pxgr2_12 hbq, box_at pxb0_12 hbq, box_at pxb1_12 hbq, box_at pxh0_12 hbq, box_at pxh1_12 hbq, box_at pxh2_12 hbq, box_at pxh3_12 hbq, box_at pxh4_12 hbq, box_at pxh5_12 hbq, box_at pxxb0_12 hbq, box_at pxxb1_12 hbq, box_at pxxh0_12 hbq, box_at pxxh1_12 hbq, box_at pxxh2_12 hbq, box_at pxxh3_12 hbq, box_at pxxh4_12 hbq, box_at pxxh5_12 hbq⟩) | (have hbq := keep_b (by assumption) (‹Below w12.heap.size w12 _ ∧ _›).1; exact ⟨hbq, box_at pxgr0_12 hbq, box_at pxgr1_12 hbq, box_at pxgr2_12 hbq, box_at pxb0_12 hbq, box_at pxb1_12 hbq, box_at pxh0_12 hbq, box_at pxh1_12 hbq, box_at pxh2_12 hbq, box_at pxh3_12 hbq, box_at pxh4_12 hbq, box_at pxh5_12 hbq, box_at pxxb0_12 hbq, box_at pxxb1_12 hbq, box_at pxxh0_12 hbq, box_at pxxh1_12 hbq, box_at pxxh2_12 hbq, box_at pxxh3_12 hbq, box_at pxxh4_12 hbq, box_at pxxh5_12 hbq⟩) | fail) ((first
        | (go_at_call 11; refine (laws_toBoard _ lb _ ((kS rBoard).rd_below Hb.out (HB12.out.trans ((‹Below w12.heap.size w12 _ ∧ _›).1.mono HB12.out.size))) HZb.out).mono ?_; rintro e wy ⟨yy, rfl, hX, hby⟩; obtain ⟨yy_a0, yy_n0, yy_c0, yy_a1, yy_n1, yy_c1, rfl, hrest⟩ := rdBoard.1 ((kS rBoard).own_rd hX); clear hrest)
        | (go_at_call 14; refine (laws_eqBoard _ _ _ _ _ ((kS rBoard).rd_below ((kS rBoard).own_rd (Kind.next (K := kS rBoard) (Kind.next (K := kS rBoard) (Kind.next (K := kS rBoard) (Kind.next (K := kS rBoard) (Kind.next (K := kS rBoard) Oxb.out AJ8.out) AJ9.out) AJ10.out) AJ11.out) AJ12.out)) (keep_b hby (Below.refl _ _).drew)) ((kS rBoard).own_rd hX)).mono ?_; rintro e w13 ⟨rfl, hb13⟩; rw [decide_eq_true rfl])
        | fail))
      replace hb13 : Below w12.heap.size w12 w13 := (‹Below w12.heap.size w12 _ ∧ _›).1
      clear hX
      have HB13 := Lib.hid (Below.next HB12.out hb13)
      have hs13 := hb13.size
      have AJ13 := Lib.hid hb13; clear hb13
      have pxgr0_13 := box_at BXgr0.out HB13.out
      clear pxgr0_12
      have pxgr1_13 := box_at BXgr1.out HB13.out
      clear pxgr1_12
      have pxgr2_13 := box_at BXgr2.out HB13.out
      clear pxgr2_12
      have pxb0_13 := box_at BXb0.out HB13.out
      clear pxb0_12
      have pxb1_13 := box_at BXb1.out HB13.out
      clear pxb1_12
      have pxh0_13 := box_at BXh0.out HB13.out
      clear pxh0_12
      have pxh1_13 := box_at BXh1.out HB13.out
      clear pxh1_12
      have pxh2_13 := box_at BXh2.out HB13.out
      clear pxh2_12
      have pxh3_13 := box_at BXh3.out HB13.out
      clear pxh3_12
      have pxh4_13 := box_at BXh4.out HB13.out
      clear pxh4_12
      have pxh5_13 := box_at BXh5.out HB13.out
      clear pxh5_12
      have pxxb0_13 := box_at pxxb0_12 AJ13.out
      clear pxxb0_12
      have pxxb1_13 := box_at pxxb1_12 AJ13.out
      clear pxxb1_12
      have pxxh0_13 := box_at pxxh0_12 AJ13.out
      clear pxxh0_12
      have pxxh1_13 := box_at pxxh1_12 AJ13.out
      clear pxxh1_12
      have pxxh2_13 := box_at pxxh2_12 AJ13.out
      clear pxxh2_12
      have pxxh3_13 := box_at pxxh3_12 AJ13.out
      clear pxxh3_12
      have pxxh4_13 := box_at pxxh4_12 AJ13.out
      clear pxxh4_12
      have pxxh5_13 := box_at pxxh5_12 AJ13.out
      clear pxxh5_12
      go_wp2_with fail
      go_region_held3 (fun w' => Below w13.heap.size w13 w' ∧ w'.cell? ⟨w.heap.size, 0, none⟩ = some (.int .i64 gr.p) ∧ w'.cell? ⟨w.heap.size, 1, none⟩ = some (.int .i64 gr.q) ∧ w'.cell? ⟨w.heap.size, 2, none⟩ = some (.int .i64 gr.g) ∧ w'.cell? ⟨w.heap.size + 1, 0, none⟩ = some (.slice b_a0 b_n0 b_c0) ∧ w'.cell? ⟨w.heap.size + 1, 1, none⟩ = some (.slice b_a1 b_n1 b_c1) ∧ w'.cell? ⟨w.heap.size + 1 + 1, 0, none⟩ = some (.int .i64 lh.author) ∧ w'.cell? ⟨w.heap.size + 1 + 1, 1, none⟩ = some (.int .i64 lh.size) ∧ w'.cell? ⟨w.heap.size + 1 + 1, 2, none⟩ = some (.int .i64 lh.root) ∧ w'.cell? ⟨w.heap.size + 1 + 1, 3, none⟩ = some (.slice h_a3 h_n3 h_c3) ∧ w'.cell? ⟨w.heap.size + 1 + 1, 4, none⟩ = some (.slice h_a4 h_n4 h_c4) ∧ w'.cell? ⟨w.heap.size + 1 + 1, 5, none⟩ = some (.slice h_a5 h_n5 h_c5) ∧ w'.cell? ⟨w7.heap.size, 0, none⟩ = some (.slice xb_a0 xb_n0 xb_c0) ∧ w'.cell? ⟨w7.heap.size, 1, none⟩ = some (.slice xb_a1 xb_n1 xb_c1) ∧ w'.cell? ⟨w9.heap.size, 0, none⟩ = some (.int .i64 lh.author) ∧ w'.cell? ⟨w9.heap.size, 1, none⟩ = some (.int .i64 lh.size) ∧ w'.cell? ⟨w9.heap.size, 2, none⟩ = some (.int .i64 lh.root) ∧ w'.cell? ⟨w9.heap.size, 3, none⟩ = some (.slice xh_a3 xh_n3 xh_c3) ∧ w'.cell? ⟨w9.heap.size, 4, none⟩ = some (.slice xh_a4 xh_n4 xh_c4) ∧ w'.cell? ⟨w9.heap.size, 5, none⟩ = some (.slice xh_a5 xh_n5 xh_c5)) (first | (have hbq : Below w13.heap.size w13 _ := (Below.refl _ _).drew; exact ⟨hbq, box_at pxgr0_13 hbq, box_at pxgr1_13 hbq, box_at pxgr2_13 hbq, box_at pxb0_13 hbq, box_at pxb1_13 hbq, box_at pxh0_13 hbq, box_at pxh1_13 hbq, box_at pxh2_13 hbq, box_at pxh3_13 hbq, box_at pxh4_13 hbq, box_at pxh5_13 hbq, box_at pxxb0_13 hbq, box_at pxxb1_13 hbq, box_at pxxh0_13 hbq, box_at pxxh1_13 hbq, box_at pxxh2_13 hbq, box_at pxxh3_13 hbq, box_at pxxh4_13 hbq, box_at pxxh5_13 hbq⟩) | (have hbq := keep_b (by assumption) (‹Below w13.heap.size w13 _ ∧ _›).1; exact ⟨hbq, box_at pxgr0_13 hbq, box_at pxgr1_13 hbq, box_at pxgr2_13 hbq, box_at pxb0_13 hbq, box_at pxb1_13 hbq, box_at pxh0_13 hbq, box_at pxh1_13 hbq, box_at pxh2_13 hbq, box_at pxh3_13 hbq, box_at pxh4_13 hbq, box_at pxh5_13 hbq, box_at pxxb0_13 hbq, box_at pxxb1_13 hbq, box_at pxxh0_13 hbq, box_at pxxh1_13 hbq, box_at pxxh2_13 hbq, box_at pxxh3_13 hbq, box_at pxxh4_13 hbq, box_at pxxh5_13 hbq⟩) | fail) ((first
        | (go_at_call 12; refine (laws_toHead _ lh _ ((kS rHead).rd_below Hh.out (HB13.out.trans ((‹Below w13.heap.size w13 _ ∧ _›).1.mono HB13.out.size))) HZh.out).mono ?_; rintro e wy ⟨yy, rfl, hX, hby⟩; obtain ⟨yy_a3, yy_n3, yy_c3, yy_a4, yy_n4, yy_c4, yy_a5, yy_n5, yy_c5, rfl, hrest⟩ := rdHead.1 ((kS rHead).own_rd hX); clear hrest)
        | (go_at_call 15; refine (laws_eqHead _ _ _ _ _ ((kS rHead).rd_below ((kS rHead).own_rd (Kind.next (K := kS rHead) (Kind.next (K := kS rHead) (Kind.next (K := kS rHead) (Kind.next (K := kS rHead) Oxh.out AJ10.out) AJ11.out) AJ12.out) AJ13.out)) (keep_b hby (Below.refl _ _).drew)) ((kS rHead).own_rd hX)).mono ?_; rintro e w14 ⟨rfl, hb14⟩; rw [decide_eq_true rfl])
        | fail))
      replace hb14 : Below w13.heap.size w13 w14 := (‹Below w13.heap.size w13 _ ∧ _›).1
      clear hX
      have HB14 := Lib.hid (Below.next HB13.out hb14)
      have hs14 := hb14.size
      have AJ14 := Lib.hid hb14; clear hb14
      have pxgr0_14 := box_at BXgr0.out HB14.out
      clear pxgr0_13
      have pxgr1_14 := box_at BXgr1.out HB14.out
      clear pxgr1_13
      have pxgr2_14 := box_at BXgr2.out HB14.out
      clear pxgr2_13
      have pxb0_14 := box_at BXb0.out HB14.out
      clear pxb0_13
      have pxb1_14 := box_at BXb1.out HB14.out
      clear pxb1_13
      have pxh0_14 := box_at BXh0.out HB14.out
      clear pxh0_13
      have pxh1_14 := box_at BXh1.out HB14.out
      clear pxh1_13
      have pxh2_14 := box_at BXh2.out HB14.out
      clear pxh2_13
      have pxh3_14 := box_at BXh3.out HB14.out
      clear pxh3_13
      have pxh4_14 := box_at BXh4.out HB14.out
      clear pxh4_13
      have pxh5_14 := box_at BXh5.out HB14.out
      clear pxh5_13
      have pxxb0_14 := box_at pxxb0_13 AJ14.out
      clear pxxb0_13
      have pxxb1_14 := box_at pxxb1_13 AJ14.out
      clear pxxb1_13
      have pxxh0_14 := box_at pxxh0_13 AJ14.out
      clear pxxh0_13
      have pxxh1_14 := box_at pxxh1_13 AJ14.out
      clear pxxh1_13
      have pxxh2_14 := box_at pxxh2_13 AJ14.out
      clear pxxh2_13
      have pxxh3_14 := box_at pxxh3_13 AJ14.out
      clear pxxh3_13
      have pxxh4_14 := box_at pxxh4_13 AJ14.out
      clear pxxh4_13
      have pxxh5_14 := box_at pxxh5_13 AJ14.out
      clear pxxh5_13
      go_wp2_with fail
      go_ret
      exact ⟨rfl, HWB.out.trans (HB14.out.mono HWB.out.size)⟩
set_option maxRecDepth 100000 in
set_option maxHeartbeats 2000000 in
theorem law_FirstWrongHead (gr : GroupD) (b : Value) (lb : BoardD) (hs : Value) (lhs : List HeadD) (w : World) (hb : (kS rBoard).rd w b lb) (hhs : (kR 44 rHead).rd w hs lhs) :
    Calls Tryz.prog 4 #[.agg #[.int .i64 gr.p, .int .i64 gr.q, .int .i64 gr.g], b, hs] w fun e w' => e = .returned (.bool true) ∧ Below w.heap.size w w' := by
  obtain ⟨b_a0, b_n0, b_c0, b_a1, b_n1, b_c1, rfl, hrestb⟩ := rdBoard.1 hb
  have hb : (kS rBoard).rd w (.agg #[.slice b_a0 b_n0 b_c0, .slice b_a1 b_n1 b_c1]) lb := rdBoard.2 ⟨_, _, _, _, _, _, rfl, hrestb⟩
  clear hrestb
  obtain ⟨W, hW⟩ : ∃ W, W = (w.alloc (.cells #[.int .i64 gr.p, .int .i64 gr.q, .int .i64 gr.g] 23)).alloc (.cells #[.slice b_a0 b_n0 b_c0, .slice b_a1 b_n1 b_c1] 27) := ⟨_, rfl⟩
  have HWB : Hid (Below w.heap.size w W) := by unfold Hid; rw [hW]; (repeat (first | exact Below.refl _ _ | assumption | refine Below.drew ?_ | refine Below.alloc ?_ (by first | (simp; done) | (simp; omega)) _ | refine Below.setCell ?_ (by first | (simp; done) | (simp; omega)) _))
  have BXgr0 : Hid (W.cell? ⟨w.heap.size, 0, none⟩ = some (.int .i64 gr.p)) := by unfold Hid; rw [hW]; simp [go_sem]
  have BXgr1 : Hid (W.cell? ⟨w.heap.size, 1, none⟩ = some (.int .i64 gr.q)) := by unfold Hid; rw [hW]; simp [go_sem]
  have BXgr2 : Hid (W.cell? ⟨w.heap.size, 2, none⟩ = some (.int .i64 gr.g)) := by unfold Hid; rw [hW]; simp [go_sem]
  have BXb0 : Hid (W.cell? ⟨w.heap.size + 1, 0, none⟩ = some (.slice b_a0 b_n0 b_c0)) := by unfold Hid; rw [hW]; simp [go_sem]
  have BXb1 : Hid (W.cell? ⟨w.heap.size + 1, 1, none⟩ = some (.slice b_a1 b_n1 b_c1)) := by unfold Hid; rw [hW]; simp [go_sem]
  replace hb := ((kS rBoard).rd_below hb HWB.out)
  replace hhs := ((kR 44 rHead).rd_below hhs HWB.out)
  have Hb := Lib.hid hb; clear hb
  have Hhs := Lib.hid hhs; clear hhs
  go_enter Tryz.func4, Tryz.ntmps4
  go_wp2_with fail
  rw [← hW]
  clear hW
  have pxgr0_0 := BXgr0.out
  have pxgr1_0 := BXgr1.out
  have pxgr2_0 := BXgr2.out
  have pxb0_0 := BXb0.out
  have pxb1_0 := BXb1.out
  refine (laws_szBoard _ lb 1048576 _ ((kS rBoard).rd_below Hb.out (Below.refl _ _)) (by decide) (by decide)).mono ?_
  rintro e w1 ⟨⟨r0, rfl, hr0, hsz0⟩, hb1⟩
  replace hsz0 : 0 ≤ r0 → (szBoard lb : Int) ≤ 1048576 ∧ r0 ≤ 1048576 := fun h => by have := hsz0 h; omega
  have HB1 := Lib.hid (Below.next (Below.refl _ _) hb1)
  have hs1 := hb1.size
  have AJ1 := Lib.hid hb1; clear hb1
  have pxgr0_1 := box_at BXgr0.out HB1.out
  clear pxgr0_0
  have pxgr1_1 := box_at BXgr1.out HB1.out
  clear pxgr1_0
  have pxgr2_1 := box_at BXgr2.out HB1.out
  clear pxgr2_0
  have pxb0_1 := box_at BXb0.out HB1.out
  clear pxb0_0
  have pxb1_1 := box_at BXb1.out HB1.out
  clear pxb1_0
  by_cases hneg0 : r0 < 0
  · go_wp2_with fail
    go_ret
    exact ⟨rfl, HWB.out.trans (HB1.out.mono HWB.out.size)⟩
  · have HZb : Hid ((szBoard lb : Int) ≤ 1000000000) := by have := (hsz0 (by omega)).1; unfold Hid; omega
    have hrb0 : r0 ≤ 1048576 := by have := (hsz0 (by omega)).2; omega
    clear hsz0
    go_wp2_with fail
    refine (laws_szHeadS _ lhs r0 _ ((kR 44 rHead).rd_below Hhs.out HB1.out) (by omega) (by omega)).mono ?_
    rintro e w2 ⟨⟨r1, rfl, hr1, hsz1⟩, hb2⟩
    replace hsz1 : 0 ≤ r1 → (szHeadS lhs : Int) ≤ r0 ∧ r1 ≤ r0 := fun h => by have := hsz1 h; omega
    have HB2 := Lib.hid (Below.next HB1.out hb2)
    have hs2 := hb2.size
    have AJ2 := Lib.hid hb2; clear hb2
    have pxgr0_2 := box_at BXgr0.out HB2.out
    clear pxgr0_1
    have pxgr1_2 := box_at BXgr1.out HB2.out
    clear pxgr1_1
    have pxgr2_2 := box_at BXgr2.out HB2.out
    clear pxgr2_1
    have pxb0_2 := box_at BXb0.out HB2.out
    clear pxb0_1
    have pxb1_2 := box_at BXb1.out HB2.out
    clear pxb1_1
    by_cases hneg1 : r1 < 0
    · go_wp2_with fail
      go_ret
      exact ⟨rfl, HWB.out.trans (HB2.out.mono HWB.out.size)⟩
    · have HZhs : Hid ((szHeadS lhs : Int) ≤ 1000000000) := by have := (hsz1 (by omega)).1; unfold Hid; omega
      have hrb1 : r1 ≤ 1048576 := by have := (hsz1 (by omega)).2; omega
      clear hsz1
      go_wp2_with fail
      go_region_held3 (fun w' => Below w2.heap.size w2 w' ∧ w'.cell? ⟨w.heap.size, 0, none⟩ = some (.int .i64 gr.p) ∧ w'.cell? ⟨w.heap.size, 1, none⟩ = some (.int .i64 gr.q) ∧ w'.cell? ⟨w.heap.size, 2, none⟩ = some (.int .i64 gr.g) ∧ w'.cell? ⟨w.heap.size + 1, 0, none⟩ = some (.slice b_a0 b_n0 b_c0) ∧ w'.cell? ⟨w.heap.size + 1, 1, none⟩ = some (.slice b_a1 b_n1 b_c1)) (first | (have hbq : Below w2.heap.size w2 _ := (Below.refl _ _).drew; exact ⟨hbq, box_at pxgr0_2 hbq, box_at pxgr1_2 hbq, box_at pxgr2_2 hbq, box_at pxb0_2 hbq, box_at pxb1_2 hbq⟩) | (have hbq := keep_b (by assumption) (‹Below w2.heap.size w2 _ ∧ _›).1; exact ⟨hbq, box_at pxgr0_2 hbq, box_at pxgr1_2 hbq, box_at pxgr2_2 hbq, box_at pxb0_2 hbq, box_at pxb1_2 hbq⟩) | fail) ((first
        | (go_at_call 10; refine (laws_toGroup gr _).mono ?_; rintro e w3 ⟨rfl, hb3⟩; (have AJ3 := Lib.hid (keep_b hb3 (Below.refl _ _).drew)); (have HB3 := Lib.hid (Below.next HB2.out AJ3.out)); (have hs3 : w2.heap.size ≤ w3.heap.size := AJ3.out.size); (have hbz := hb3))
        | (go_at_call_of 11 (Value.slice b_a0 b_n0 b_c0); refine (laws_toBoard _ lb _ ((kS rBoard).rd_below Hb.out (HB2.out.trans ((‹Below w2.heap.size w2 _ ∧ _›).1.mono HB2.out.size))) HZb.out).mono ?_; rintro e w4 ⟨sb, rfl, hX, hb4⟩; (have Osb : Hid ((kS rBoard).own w4 w3.heap.size w4.heap.size sb lb) := hX); clear hX; obtain ⟨sb_a0, sb_n0, sb_c0, sb_a1, sb_n1, sb_c1, rfl, hrest⟩ := rdBoard.1 ((kS rBoard).own_rd Osb.out); clear hrest; (have AJ4 := Lib.hid hb4); (have HB4 := Lib.hid (Below.next HB3.out AJ4.out)); (have hs4 : w3.heap.size ≤ w4.heap.size := AJ4.out.size); (have hbz := hb4))
        | (go_at_call_of 18 (hs); refine (laws_toHeadS _ lhs _ ((kR 44 rHead).rd_below Hhs.out (HB2.out.trans ((‹Below w2.heap.size w2 _ ∧ _›).1.mono HB2.out.size))) HZhs.out).mono ?_; rintro e w5 ⟨shs, rfl, hX, hb5⟩; (have Oshs : Hid ((kR 44 rHead).own w5 w4.heap.size w5.heap.size shs lhs) := hX); clear hX; (have AJ5 := Lib.hid hb5); (have HB5 := Lib.hid (Below.next HB4.out AJ5.out)); (have hs5 : w4.heap.size ≤ w5.heap.size := AJ5.out.size); (have hbz := hb5))
        | (go_at_call 17; refine (spec_FirstWrongHead gr _ lb _ lhs _ HZb.out ((kS rBoard).own_rd (Kind.next (K := kS rBoard) Osb.out AJ5.out)) HZhs.out ((kR 44 rHead).own_rd Oshs.out)).mono ?_; rintro e w6 ⟨rfl, hb6⟩; (have AJ6 := Lib.hid hb6); (have HB6 := Lib.hid (Below.next HB5.out AJ6.out)); (have hs6 : w5.heap.size ≤ w6.heap.size := AJ6.out.size); (have hbz := hb6))
        | fail))
      have hSS := (‹Below w2.heap.size w2 _ ∧ _›)
      clear pxgr0_2
      clear pxgr1_2
      clear pxgr2_2
      clear pxb0_2
      clear pxb1_2
      obtain ⟨hbS, pxgr0_6, pxgr1_6, pxgr2_6, pxb0_6, pxb1_6⟩ := hSS
      clear hbS
      clear hbz
      clear hb3
      clear hb4
      clear hb5
      clear hb6
      go_wp2_with fail
      refine (laws_toBoard _ lb _ ((kS rBoard).rd_below Hb.out HB6.out) HZb.out).mono ?_
      rintro e w7 ⟨xb, rfl, hX, hb7⟩
      have Oxb := Lib.hid (hX); clear hX
      obtain ⟨xb_a0, xb_n0, xb_c0, xb_a1, xb_n1, xb_c1, rfl, hrest⟩ := rdBoard.1 ((kS rBoard).own_rd Oxb.out)
      clear hrest
      have HB7 := Lib.hid (Below.next HB6.out hb7)
      have hs7 := hb7.size
      have AJ7 := Lib.hid hb7; clear hb7
      have pxgr0_7 := box_at BXgr0.out HB7.out
      clear pxgr0_6
      have pxgr1_7 := box_at BXgr1.out HB7.out
      clear pxgr1_6
      have pxgr2_7 := box_at BXgr2.out HB7.out
      clear pxgr2_6
      have pxb0_7 := box_at BXb0.out HB7.out
      clear pxb0_6
      have pxb1_7 := box_at BXb1.out HB7.out
      clear pxb1_6
      have zl0 : w.heap.size < w7.heap.size := World.block_lt_of_cell? _ _ pxgr0_7
      have zl1 : w.heap.size + 1 < w7.heap.size := World.block_lt_of_cell? _ _ pxb0_7
      go_wp2_with fail
      clear zl0 zl1
      obtain ⟨w8, hw8⟩ : ∃ u, u = w7.alloc (.cells #[.slice xb_a0 xb_n0 xb_c0, .slice xb_a1 xb_n1 xb_c1] 40) := ⟨_, rfl⟩
      rw [← hw8]
      have hb8 : Below w7.heap.size w7 w8 := by rw [hw8]; exact (Below.refl _ _).alloc (Nat.le_refl _) _
      have hlt8 : w7.heap.size < w8.heap.size := by rw [hw8]; simp
      have pxxb0_8 : w8.cell? ⟨w7.heap.size, 0, none⟩ = some (.slice xb_a0 xb_n0 xb_c0) := by rw [hw8]; simp [go_sem]
      have pxxb1_8 : w8.cell? ⟨w7.heap.size, 1, none⟩ = some (.slice xb_a1 xb_n1 xb_c1) := by rw [hw8]; simp [go_sem]
      clear hw8
      have HB8 := Lib.hid (Below.next HB7.out hb8)
      have hs8 := hb8.size
      have AJ8 := Lib.hid hb8; clear hb8
      have pxgr0_8 := box_at BXgr0.out HB8.out
      clear pxgr0_7
      have pxgr1_8 := box_at BXgr1.out HB8.out
      clear pxgr1_7
      have pxgr2_8 := box_at BXgr2.out HB8.out
      clear pxgr2_7
      have pxb0_8 := box_at BXb0.out HB8.out
      clear pxb0_7
      have pxb1_8 := box_at BXb1.out HB8.out
      clear pxb1_7
      refine (laws_toHeadS _ lhs _ ((kR 44 rHead).rd_below Hhs.out HB8.out) HZhs.out).mono ?_
      rintro e w9 ⟨xhs, rfl, hX, hb9⟩
      have Oxhs := Lib.hid (hX); clear hX
      have HB9 := Lib.hid (Below.next HB8.out hb9)
      have hs9 := hb9.size
      have AJ9 := Lib.hid hb9; clear hb9
      have pxgr0_9 := box_at BXgr0.out HB9.out
      clear pxgr0_8
      have pxgr1_9 := box_at BXgr1.out HB9.out
      clear pxgr1_8
      have pxgr2_9 := box_at BXgr2.out HB9.out
      clear pxgr2_8
      have pxb0_9 := box_at BXb0.out HB9.out
      clear pxb0_8
      have pxb1_9 := box_at BXb1.out HB9.out
      clear pxb1_8
      have pxxb0_9 := box_at pxxb0_8 AJ9.out
      clear pxxb0_8
      have pxxb1_9 := box_at pxxb1_8 AJ9.out
      clear pxxb1_8
      go_wp2_with fail
      go_region_held3 (fun w' => Below w9.heap.size w9 w' ∧ w'.cell? ⟨w.heap.size, 0, none⟩ = some (.int .i64 gr.p) ∧ w'.cell? ⟨w.heap.size, 1, none⟩ = some (.int .i64 gr.q) ∧ w'.cell? ⟨w.heap.size, 2, none⟩ = some (.int .i64 gr.g) ∧ w'.cell? ⟨w.heap.size + 1, 0, none⟩ = some (.slice b_a0 b_n0 b_c0) ∧ w'.cell? ⟨w.heap.size + 1, 1, none⟩ = some (.slice b_a1 b_n1 b_c1) ∧ w'.cell? ⟨w7.heap.size, 0, none⟩ = some (.slice xb_a0 xb_n0 xb_c0) ∧ w'.cell? ⟨w7.heap.size, 1, none⟩ = some (.slice xb_a1 xb_n1 xb_c1)) (first | (have hbq : Below w9.heap.size w9 _ := (Below.refl _ _).drew; exact ⟨hbq, box_at pxgr0_9 hbq, box_at pxgr1_9 hbq, box_at pxgr2_9 hbq, box_at pxb0_9 hbq, box_at pxb1_9 hbq, box_at pxxb0_9 hbq, box_at pxxb1_9 hbq⟩) | (have hbq := keep_b (by assumption) (‹Below w9.heap.size w9 _ ∧ _›).1; exact ⟨hbq, box_at pxgr0_9 hbq, box_at pxgr1_9 hbq, box_at pxgr2_9 hbq, box_at pxb0_9 hbq, box_at pxb1_9 hbq, box_at pxxb0_9 hbq, box_at pxxb1_9 hbq⟩) | fail) ((first
        | (go_at_call 10; refine (laws_toGroup gr _).mono ?_; rintro e w10 ⟨rfl, hb10⟩; (have AJ10 := Lib.hid (keep_b hb10 (Below.refl _ _).drew)); (have HB10 := Lib.hid (Below.next HB9.out AJ10.out)); (have hs10 : w9.heap.size ≤ w10.heap.size := AJ10.out.size); (have hbz := hb10))
        | (go_at_call 19; refine (impl_FirstWrongHead gr _ lb _ lhs _ HZb.out ((kS rBoard).own_rd (Kind.next (K := kS rBoard) (Kind.next (K := kS rBoard) (Kind.next (K := kS rBoard) Oxb.out AJ8.out) AJ9.out) AJ10.out)) HZhs.out ((kR 44 rHead).own_rd (Kind.next (K := (kR 44 rHead).toKind) Oxhs.out AJ10.out))).mono ?_; rintro e w11 ⟨rfl, hb11⟩; (have AJ11 := Lib.hid hb11); (have HB11 := Lib.hid (Below.next HB10.out AJ11.out)); (have hs11 : w10.heap.size ≤ w11.heap.size := AJ11.out.size); (have hbz := hb11))
        | fail))
      have hSS := (‹Below w9.heap.size w9 _ ∧ _›)
      clear pxgr0_9
      clear pxgr1_9
      clear pxgr2_9
      clear pxb0_9
      clear pxb1_9
      clear pxxb0_9
      clear pxxb1_9
      obtain ⟨hbS, pxgr0_11, pxgr1_11, pxgr2_11, pxb0_11, pxb1_11, pxxb0_11, pxxb1_11⟩ := hSS
      clear hbS
      clear hbz
      clear hb10
      clear hb11
      go_wp2_with fail
      go_region_held3 (fun w' => Below w11.heap.size w11 w' ∧ w'.cell? ⟨w.heap.size, 0, none⟩ = some (.int .i64 gr.p) ∧ w'.cell? ⟨w.heap.size, 1, none⟩ = some (.int .i64 gr.q) ∧ w'.cell? ⟨w.heap.size, 2, none⟩ = some (.int .i64 gr.g) ∧ w'.cell? ⟨w.heap.size + 1, 0, none⟩ = some (.slice b_a0 b_n0 b_c0) ∧ w'.cell? ⟨w.heap.size + 1, 1, none⟩ = some (.slice b_a1 b_n1 b_c1) ∧ w'.cell? ⟨w7.heap.size, 0, none⟩ = some (.slice xb_a0 xb_n0 xb_c0) ∧ w'.cell? ⟨w7.heap.size, 1, none⟩ = some (.slice xb_a1 xb_n1 xb_c1)) (first | (have hbq : Below w11.heap.size w11 _ := (Below.refl _ _).drew; exact ⟨hbq, box_at pxgr0_11 hbq, box_at pxgr1_11 hbq, box_at pxgr2_11 hbq, box_at pxb0_11 hbq, box_at pxb1_11 hbq, box_at pxxb0_11 hbq, box_at pxxb1_11 hbq⟩) | (have hbq := keep_b (by assumption) (‹Below w11.heap.size w11 _ ∧ _›).1; exact ⟨hbq, box_at pxgr0_11 hbq, box_at pxgr1_11 hbq, box_at pxgr2_11 hbq, box_at pxb0_11 hbq, box_at pxb1_11 hbq, box_at pxxb0_11 hbq, box_at pxxb1_11 hbq⟩) | fail) ((first
        | (go_at_call 11; refine (laws_toBoard _ lb _ ((kS rBoard).rd_below Hb.out (HB11.out.trans ((‹Below w11.heap.size w11 _ ∧ _›).1.mono HB11.out.size))) HZb.out).mono ?_; rintro e wy ⟨yy, rfl, hX, hby⟩; obtain ⟨yy_a0, yy_n0, yy_c0, yy_a1, yy_n1, yy_c1, rfl, hrest⟩ := rdBoard.1 ((kS rBoard).own_rd hX); clear hrest)
        | (go_at_call 14; refine (laws_eqBoard _ _ _ _ _ ((kS rBoard).rd_below ((kS rBoard).own_rd (Kind.next (K := kS rBoard) (Kind.next (K := kS rBoard) (Kind.next (K := kS rBoard) (Kind.next (K := kS rBoard) Oxb.out AJ8.out) AJ9.out) AJ10.out) AJ11.out)) (keep_b hby (Below.refl _ _).drew)) ((kS rBoard).own_rd hX)).mono ?_; rintro e w12 ⟨rfl, hb12⟩; rw [decide_eq_true rfl])
        | fail))
      replace hb12 : Below w11.heap.size w11 w12 := (‹Below w11.heap.size w11 _ ∧ _›).1
      clear hX
      have HB12 := Lib.hid (Below.next HB11.out hb12)
      have hs12 := hb12.size
      have AJ12 := Lib.hid hb12; clear hb12
      have pxgr0_12 := box_at BXgr0.out HB12.out
      clear pxgr0_11
      have pxgr1_12 := box_at BXgr1.out HB12.out
      clear pxgr1_11
      have pxgr2_12 := box_at BXgr2.out HB12.out
      clear pxgr2_11
      have pxb0_12 := box_at BXb0.out HB12.out
      clear pxb0_11
      have pxb1_12 := box_at BXb1.out HB12.out
      clear pxb1_11
      have pxxb0_12 := box_at pxxb0_11 AJ12.out
      clear pxxb0_11
      have pxxb1_12 := box_at pxxb1_11 AJ12.out
      clear pxxb1_11
      go_wp2_with fail
      refine (laws_toHeadS _ lhs _ ((kR 44 rHead).rd_below Hhs.out HB12.out) HZhs.out).mono ?_
      rintro e w13 ⟨yhs, rfl, hX, hb13⟩
      have Oyhs := Lib.hid (hX); clear hX
      have HB13 := Lib.hid (Below.next HB12.out hb13)
      have hs13 := hb13.size
      have AJ13 := Lib.hid hb13; clear hb13
      have pxgr0_13 := box_at BXgr0.out HB13.out
      clear pxgr0_12
      have pxgr1_13 := box_at BXgr1.out HB13.out
      clear pxgr1_12
      have pxgr2_13 := box_at BXgr2.out HB13.out
      clear pxgr2_12
      have pxb0_13 := box_at BXb0.out HB13.out
      clear pxb0_12
      have pxb1_13 := box_at BXb1.out HB13.out
      clear pxb1_12
      have pxxb0_13 := box_at pxxb0_12 AJ13.out
      clear pxxb0_12
      have pxxb1_13 := box_at pxxb1_12 AJ13.out
      clear pxxb1_12
      go_wp2_with fail
      refine (laws_eqHeadS _ _ _ _ _ ((kR 44 rHead).own_rd (Kind.next (K := (kR 44 rHead).toKind) (Kind.next (K := (kR 44 rHead).toKind) (Kind.next (K := (kR 44 rHead).toKind) (Kind.next (K := (kR 44 rHead).toKind) Oxhs.out AJ10.out) AJ11.out) AJ12.out) AJ13.out)) ((kR 44 rHead).own_rd Oyhs.out)).mono ?_
      rintro e w14 ⟨rfl, hb14⟩
      rw [decide_eq_true rfl]
      have HB14 := Lib.hid (Below.next HB13.out hb14)
      have hs14 := hb14.size
      have AJ14 := Lib.hid hb14; clear hb14
      have pxgr0_14 := box_at BXgr0.out HB14.out
      clear pxgr0_13
      have pxgr1_14 := box_at BXgr1.out HB14.out
      clear pxgr1_13
      have pxgr2_14 := box_at BXgr2.out HB14.out
      clear pxgr2_13
      have pxb0_14 := box_at BXb0.out HB14.out
      clear pxb0_13
      have pxb1_14 := box_at BXb1.out HB14.out
      clear pxb1_13
      have pxxb0_14 := box_at pxxb0_13 AJ14.out
      clear pxxb0_13
      have pxxb1_14 := box_at pxxb1_13 AJ14.out
      clear pxxb1_13
      go_wp2_with fail
      go_ret
      exact ⟨rfl, HWB.out.trans (HB14.out.mono HWB.out.size)⟩
end Go.Proofs.YtodennbdfloccaaGreat

/- The walks of laws, by program (genlaw3.py). -/
import Derived.Test.YtapfceghgkmgoaaVReplica
import Derived.Test.YtapfceghgkmgoaaKBoard
import Derived.Test.YtapfceghgkmgoaaGrpL
namespace Go.Proofs.Ytapfceghgkmgoaa
open Go.RowKit
set_option linter.unusedSimpArgs false
set_option linter.unusedVariables false

set_option maxRecDepth 100000 in
set_option maxHeartbeats 2000000 in
theorem law_CompareReplicas (gr : GroupD) (a : Value) (la : BoardD) (b : Value) (lb : BoardD) (w : World) (ha : (kS rBoard).rd w a la) (hb : (kS rBoard).rd w b lb) :
    Calls Try.prog 13 #[.agg #[.int .i64 gr.p, .int .i64 gr.q, .int .i64 gr.g], a, b] w fun e w' => e = .returned (.bool true) ∧ Below w.heap.size w w' := by
  obtain ⟨a_a0, a_n0, a_c0, a_a1, a_n1, a_c1, rfl, hresta⟩ := rdBoard.1 ha
  have ha : (kS rBoard).rd w (.agg #[.slice a_a0 a_n0 a_c0, .slice a_a1 a_n1 a_c1]) la := rdBoard.2 ⟨_, _, _, _, _, _, rfl, hresta⟩
  clear hresta
  obtain ⟨b_a0, b_n0, b_c0, b_a1, b_n1, b_c1, rfl, hrestb⟩ := rdBoard.1 hb
  have hb : (kS rBoard).rd w (.agg #[.slice b_a0 b_n0 b_c0, .slice b_a1 b_n1 b_c1]) lb := rdBoard.2 ⟨_, _, _, _, _, _, rfl, hrestb⟩
  clear hrestb
  obtain ⟨W, hW⟩ : ∃ W, W = ((w.alloc (.cells #[.int .i64 gr.p, .int .i64 gr.q, .int .i64 gr.g] 83)).alloc (.cells #[.slice a_a0 a_n0 a_c0, .slice a_a1 a_n1 a_c1] 114)).alloc (.cells #[.slice b_a0 b_n0 b_c0, .slice b_a1 b_n1 b_c1] 114) := ⟨_, rfl⟩
  have HWB : Hid (Below w.heap.size w W) := by unfold Hid; rw [hW]; (repeat (first | exact Below.refl _ _ | assumption | refine Below.drew ?_ | refine Below.alloc ?_ (by first | (simp; done) | (simp; omega)) _ | refine Below.setCell ?_ (by first | (simp; done) | (simp; omega)) _))
  have BXgr0 : Hid (W.cell? ⟨w.heap.size, 0, none⟩ = some (.int .i64 gr.p)) := by unfold Hid; rw [hW]; simp [go_sem]
  have BXgr1 : Hid (W.cell? ⟨w.heap.size, 1, none⟩ = some (.int .i64 gr.q)) := by unfold Hid; rw [hW]; simp [go_sem]
  have BXgr2 : Hid (W.cell? ⟨w.heap.size, 2, none⟩ = some (.int .i64 gr.g)) := by unfold Hid; rw [hW]; simp [go_sem]
  have BXa0 : Hid (W.cell? ⟨w.heap.size + 1, 0, none⟩ = some (.slice a_a0 a_n0 a_c0)) := by unfold Hid; rw [hW]; simp [go_sem]
  have BXa1 : Hid (W.cell? ⟨w.heap.size + 1, 1, none⟩ = some (.slice a_a1 a_n1 a_c1)) := by unfold Hid; rw [hW]; simp [go_sem]
  have BXb0 : Hid (W.cell? ⟨w.heap.size + 1 + 1, 0, none⟩ = some (.slice b_a0 b_n0 b_c0)) := by unfold Hid; rw [hW]; simp [go_sem]
  have BXb1 : Hid (W.cell? ⟨w.heap.size + 1 + 1, 1, none⟩ = some (.slice b_a1 b_n1 b_c1)) := by unfold Hid; rw [hW]; simp [go_sem]
  replace ha := ((kS rBoard).rd_below ha HWB.out)
  replace hb := ((kS rBoard).rd_below hb HWB.out)
  have Ha := Lib.hid ha; clear ha
  have Hb := Lib.hid hb; clear hb
  go_enter Try.func13, Try.ntmps13
  go_wp2_with fail
  rw [← hW]
  clear hW
  have pxgr0_0 := BXgr0.out
  have pxgr1_0 := BXgr1.out
  have pxgr2_0 := BXgr2.out
  have pxa0_0 := BXa0.out
  have pxa1_0 := BXa1.out
  have pxb0_0 := BXb0.out
  have pxb1_0 := BXb1.out
  refine (laws_szBoard _ la 1048576 _ ((kS rBoard).rd_below Ha.out (Below.refl _ _)) (by decide) (by decide)).mono ?_
  rintro e w1 ⟨⟨r0, rfl, hr0, hsz0⟩, hb1⟩
  replace hsz0 : 0 ≤ r0 → (szBoard la : Int) ≤ 1048576 ∧ r0 ≤ 1048576 := fun h => by have := hsz0 h; omega
  have HB1 := Lib.hid (Below.next (Below.refl _ _) hb1)
  have hs1 := hb1.size
  have AJ1 := Lib.hid hb1; clear hb1
  have pxgr0_1 := box_at BXgr0.out HB1.out
  clear pxgr0_0
  have pxgr1_1 := box_at BXgr1.out HB1.out
  clear pxgr1_0
  have pxgr2_1 := box_at BXgr2.out HB1.out
  clear pxgr2_0
  have pxa0_1 := box_at BXa0.out HB1.out
  clear pxa0_0
  have pxa1_1 := box_at BXa1.out HB1.out
  clear pxa1_0
  have pxb0_1 := box_at BXb0.out HB1.out
  clear pxb0_0
  have pxb1_1 := box_at BXb1.out HB1.out
  clear pxb1_0
  by_cases hneg0 : r0 < 0
  · go_wp2_with fail
    go_ret
    exact ⟨rfl, HWB.out.trans (HB1.out.mono HWB.out.size)⟩
  · have HZa : Hid ((szBoard la : Int) ≤ 1000000000) := by have := (hsz0 (by omega)).1; unfold Hid; omega
    have hrb0 : r0 ≤ 1048576 := by have := (hsz0 (by omega)).2; omega
    clear hsz0
    go_wp2_with fail
    refine (laws_szBoard _ lb r0 _ ((kS rBoard).rd_below Hb.out HB1.out) (by omega) (by omega)).mono ?_
    rintro e w2 ⟨⟨r1, rfl, hr1, hsz1⟩, hb2⟩
    replace hsz1 : 0 ≤ r1 → (szBoard lb : Int) ≤ r0 ∧ r1 ≤ r0 := fun h => by have := hsz1 h; omega
    have HB2 := Lib.hid (Below.next HB1.out hb2)
    have hs2 := hb2.size
    have AJ2 := Lib.hid hb2; clear hb2
    have pxgr0_2 := box_at BXgr0.out HB2.out
    clear pxgr0_1
    have pxgr1_2 := box_at BXgr1.out HB2.out
    clear pxgr1_1
    have pxgr2_2 := box_at BXgr2.out HB2.out
    clear pxgr2_1
    have pxa0_2 := box_at BXa0.out HB2.out
    clear pxa0_1
    have pxa1_2 := box_at BXa1.out HB2.out
    clear pxa1_1
    have pxb0_2 := box_at BXb0.out HB2.out
    clear pxb0_1
    have pxb1_2 := box_at BXb1.out HB2.out
    clear pxb1_1
    by_cases hneg1 : r1 < 0
    · go_wp2_with fail
      go_ret
      exact ⟨rfl, HWB.out.trans (HB2.out.mono HWB.out.size)⟩
    · have HZb : Hid ((szBoard lb : Int) ≤ 1000000000) := by have := (hsz1 (by omega)).1; unfold Hid; omega
      have hrb1 : r1 ≤ 1048576 := by have := (hsz1 (by omega)).2; omega
      clear hsz1
      go_wp2_with fail
      go_region_held3 (fun w' => Below w2.heap.size w2 w' ∧ w'.cell? ⟨w.heap.size, 0, none⟩ = some (.int .i64 gr.p) ∧ w'.cell? ⟨w.heap.size, 1, none⟩ = some (.int .i64 gr.q) ∧ w'.cell? ⟨w.heap.size, 2, none⟩ = some (.int .i64 gr.g) ∧ w'.cell? ⟨w.heap.size + 1, 0, none⟩ = some (.slice a_a0 a_n0 a_c0) ∧ w'.cell? ⟨w.heap.size + 1, 1, none⟩ = some (.slice a_a1 a_n1 a_c1) ∧ w'.cell? ⟨w.heap.size + 1 + 1, 0, none⟩ = some (.slice b_a0 b_n0 b_c0) ∧ w'.cell? ⟨w.heap.size + 1 + 1, 1, none⟩ = some (.slice b_a1 b_n1 b_c1)) (first | (have hbq : Below w2.heap.size w2 _ := (Below.refl _ _).drew; exact ⟨hbq, box_at pxgr0_2 hbq, box_at pxgr1_2 hbq, box_at pxgr2_2 hbq, box_at pxa0_2 hbq, box_at pxa1_2 hbq, box_at pxb0_2 hbq, box_at pxb1_2 hbq⟩) | (have hbq := keep_b (by assumption) (‹Below w2.heap.size w2 _ ∧ _›).1; exact ⟨hbq, box_at pxgr0_2 hbq, box_at pxgr1_2 hbq, box_at pxgr2_2 hbq, box_at pxa0_2 hbq, box_at pxa1_2 hbq, box_at pxb0_2 hbq, box_at pxb1_2 hbq⟩) | fail) ((first
        | (go_at_call 51; refine (laws_toGroup gr _).mono ?_; rintro e w3 ⟨rfl, hb3⟩; (have AJ3 := Lib.hid (keep_b hb3 (Below.refl _ _).drew)); (have HB3 := Lib.hid (Below.next HB2.out AJ3.out)); (have hs3 : w2.heap.size ≤ w3.heap.size := AJ3.out.size); (have hbz := hb3))
        | (go_at_call_of 68 (Value.slice a_a0 a_n0 a_c0); refine (laws_toBoard _ la _ ((kS rBoard).rd_below Ha.out (HB2.out.trans ((‹Below w2.heap.size w2 _ ∧ _›).1.mono HB2.out.size))) HZa.out).mono ?_; rintro e w4 ⟨sa, rfl, hX, hb4⟩; (have Osa : Hid ((kS rBoard).own w4 w3.heap.size w4.heap.size sa la) := hX); clear hX; obtain ⟨sa_a0, sa_n0, sa_c0, sa_a1, sa_n1, sa_c1, rfl, hrest⟩ := rdBoard.1 ((kS rBoard).own_rd Osa.out); clear hrest; (have AJ4 := Lib.hid hb4); (have HB4 := Lib.hid (Below.next HB3.out AJ4.out)); (have hs4 : w3.heap.size ≤ w4.heap.size := AJ4.out.size); (have hbz := hb4))
        | (go_at_call_of 68 (Value.slice b_a0 b_n0 b_c0); refine (laws_toBoard _ lb _ ((kS rBoard).rd_below Hb.out (HB2.out.trans ((‹Below w2.heap.size w2 _ ∧ _›).1.mono HB2.out.size))) HZb.out).mono ?_; rintro e w5 ⟨sb, rfl, hX, hb5⟩; (have Osb : Hid ((kS rBoard).own w5 w4.heap.size w5.heap.size sb lb) := hX); clear hX; obtain ⟨sb_a0, sb_n0, sb_c0, sb_a1, sb_n1, sb_c1, rfl, hrest⟩ := rdBoard.1 ((kS rBoard).own_rd Osb.out); clear hrest; (have AJ5 := Lib.hid hb5); (have HB5 := Lib.hid (Below.next HB4.out AJ5.out)); (have hs5 : w4.heap.size ≤ w5.heap.size := AJ5.out.size); (have hbz := hb5))
        | (go_at_call 71; refine (spec_CompareReplicas gr _ la _ lb _ HZa.out ((kS rBoard).own_rd (Kind.next (K := kS rBoard) Osa.out AJ5.out)) HZb.out ((kS rBoard).own_rd Osb.out)).mono ?_; rintro e w6 ⟨rfl, hb6⟩; (have AJ6 := Lib.hid hb6); (have HB6 := Lib.hid (Below.next HB5.out AJ6.out)); (have hs6 : w5.heap.size ≤ w6.heap.size := AJ6.out.size); (have hbz := hb6))
        | fail))
      have hSS := (‹Below w2.heap.size w2 _ ∧ _›)
      clear pxgr0_2
      clear pxgr1_2
      clear pxgr2_2
      clear pxa0_2
      clear pxa1_2
      clear pxb0_2
      clear pxb1_2
      obtain ⟨hbS, pxgr0_6, pxgr1_6, pxgr2_6, pxa0_6, pxa1_6, pxb0_6, pxb1_6⟩ := hSS
      clear hbS
      clear hbz
      clear hb3
      clear hb4
      clear hb5
      clear hb6
      go_wp2_with fail
      refine (laws_toBoard _ la _ ((kS rBoard).rd_below Ha.out HB6.out) HZa.out).mono ?_
      rintro e w7 ⟨xa, rfl, hX, hb7⟩
      have Oxa := Lib.hid (hX); clear hX
      obtain ⟨xa_a0, xa_n0, xa_c0, xa_a1, xa_n1, xa_c1, rfl, hrest⟩ := rdBoard.1 ((kS rBoard).own_rd Oxa.out)
      clear hrest
      have HB7 := Lib.hid (Below.next HB6.out hb7)
      have hs7 := hb7.size
      have AJ7 := Lib.hid hb7; clear hb7
      have pxgr0_7 := box_at BXgr0.out HB7.out
      clear pxgr0_6
      have pxgr1_7 := box_at BXgr1.out HB7.out
      clear pxgr1_6
      have pxgr2_7 := box_at BXgr2.out HB7.out
      clear pxgr2_6
      have pxa0_7 := box_at BXa0.out HB7.out
      clear pxa0_6
      have pxa1_7 := box_at BXa1.out HB7.out
      clear pxa1_6
      have pxb0_7 := box_at BXb0.out HB7.out
      clear pxb0_6
      have pxb1_7 := box_at BXb1.out HB7.out
      clear pxb1_6
      have zl0 : w.heap.size < w7.heap.size := World.block_lt_of_cell? _ _ pxgr0_7
      have zl1 : w.heap.size + 1 < w7.heap.size := World.block_lt_of_cell? _ _ pxa0_7
      have zl2 : w.heap.size + 1 + 1 < w7.heap.size := World.block_lt_of_cell? _ _ pxb0_7
      go_wp2_with fail
      clear zl0 zl1 zl2
      obtain ⟨w8, hw8⟩ : ∃ u, u = w7.alloc (.cells #[.slice xa_a0 xa_n0 xa_c0, .slice xa_a1 xa_n1 xa_c1] 119) := ⟨_, rfl⟩
      rw [← hw8]
      have hb8 : Below w7.heap.size w7 w8 := by rw [hw8]; exact (Below.refl _ _).alloc (Nat.le_refl _) _
      have hlt8 : w7.heap.size < w8.heap.size := by rw [hw8]; simp
      have pxxa0_8 : w8.cell? ⟨w7.heap.size, 0, none⟩ = some (.slice xa_a0 xa_n0 xa_c0) := by rw [hw8]; simp [go_sem]
      have pxxa1_8 : w8.cell? ⟨w7.heap.size, 1, none⟩ = some (.slice xa_a1 xa_n1 xa_c1) := by rw [hw8]; simp [go_sem]
      clear hw8
      have HB8 := Lib.hid (Below.next HB7.out hb8)
      have hs8 := hb8.size
      have AJ8 := Lib.hid hb8; clear hb8
      have pxgr0_8 := box_at BXgr0.out HB8.out
      clear pxgr0_7
      have pxgr1_8 := box_at BXgr1.out HB8.out
      clear pxgr1_7
      have pxgr2_8 := box_at BXgr2.out HB8.out
      clear pxgr2_7
      have pxa0_8 := box_at BXa0.out HB8.out
      clear pxa0_7
      have pxa1_8 := box_at BXa1.out HB8.out
      clear pxa1_7
      have pxb0_8 := box_at BXb0.out HB8.out
      clear pxb0_7
      have pxb1_8 := box_at BXb1.out HB8.out
      clear pxb1_7
      refine (laws_toBoard _ lb _ ((kS rBoard).rd_below Hb.out HB8.out) HZb.out).mono ?_
      rintro e w9 ⟨xb, rfl, hX, hb9⟩
      have Oxb := Lib.hid (hX); clear hX
      obtain ⟨xb_a0, xb_n0, xb_c0, xb_a1, xb_n1, xb_c1, rfl, hrest⟩ := rdBoard.1 ((kS rBoard).own_rd Oxb.out)
      clear hrest
      have HB9 := Lib.hid (Below.next HB8.out hb9)
      have hs9 := hb9.size
      have AJ9 := Lib.hid hb9; clear hb9
      have pxgr0_9 := box_at BXgr0.out HB9.out
      clear pxgr0_8
      have pxgr1_9 := box_at BXgr1.out HB9.out
      clear pxgr1_8
      have pxgr2_9 := box_at BXgr2.out HB9.out
      clear pxgr2_8
      have pxa0_9 := box_at BXa0.out HB9.out
      clear pxa0_8
      have pxa1_9 := box_at BXa1.out HB9.out
      clear pxa1_8
      have pxb0_9 := box_at BXb0.out HB9.out
      clear pxb0_8
      have pxb1_9 := box_at BXb1.out HB9.out
      clear pxb1_8
      have pxxa0_9 := box_at pxxa0_8 AJ9.out
      clear pxxa0_8
      have pxxa1_9 := box_at pxxa1_8 AJ9.out
      clear pxxa1_8
      have zl0 : w.heap.size < w9.heap.size := World.block_lt_of_cell? _ _ pxgr0_9
      have zl1 : w.heap.size + 1 < w9.heap.size := World.block_lt_of_cell? _ _ pxa0_9
      have zl2 : w.heap.size + 1 + 1 < w9.heap.size := World.block_lt_of_cell? _ _ pxb0_9
      have zl3 : w7.heap.size < w9.heap.size := World.block_lt_of_cell? _ _ pxxa0_9
      go_wp2_with fail
      clear zl0 zl1 zl2 zl3
      obtain ⟨w10, hw10⟩ : ∃ u, u = w9.alloc (.cells #[.slice xb_a0 xb_n0 xb_c0, .slice xb_a1 xb_n1 xb_c1] 119) := ⟨_, rfl⟩
      rw [← hw10]
      have hb10 : Below w9.heap.size w9 w10 := by rw [hw10]; exact (Below.refl _ _).alloc (Nat.le_refl _) _
      have hlt10 : w9.heap.size < w10.heap.size := by rw [hw10]; simp
      have pxxb0_10 : w10.cell? ⟨w9.heap.size, 0, none⟩ = some (.slice xb_a0 xb_n0 xb_c0) := by rw [hw10]; simp [go_sem]
      have pxxb1_10 : w10.cell? ⟨w9.heap.size, 1, none⟩ = some (.slice xb_a1 xb_n1 xb_c1) := by rw [hw10]; simp [go_sem]
      clear hw10
      have HB10 := Lib.hid (Below.next HB9.out hb10)
      have hs10 := hb10.size
      have AJ10 := Lib.hid hb10; clear hb10
      have pxgr0_10 := box_at BXgr0.out HB10.out
      clear pxgr0_9
      have pxgr1_10 := box_at BXgr1.out HB10.out
      clear pxgr1_9
      have pxgr2_10 := box_at BXgr2.out HB10.out
      clear pxgr2_9
      have pxa0_10 := box_at BXa0.out HB10.out
      clear pxa0_9
      have pxa1_10 := box_at BXa1.out HB10.out
      clear pxa1_9
      have pxb0_10 := box_at BXb0.out HB10.out
      clear pxb0_9
      have pxb1_10 := box_at BXb1.out HB10.out
      clear pxb1_9
      have pxxa0_10 := box_at pxxa0_9 AJ10.out
      clear pxxa0_9
      have pxxa1_10 := box_at pxxa1_9 AJ10.out
      clear pxxa1_9
      go_region_held3 (fun w' => Below w10.heap.size w10 w' ∧ w'.cell? ⟨w.heap.size, 0, none⟩ = some (.int .i64 gr.p) ∧ w'.cell? ⟨w.heap.size, 1, none⟩ = some (.int .i64 gr.q) ∧ w'.cell? ⟨w.heap.size, 2, none⟩ = some (.int .i64 gr.g) ∧ w'.cell? ⟨w.heap.size + 1, 0, none⟩ = some (.slice a_a0 a_n0 a_c0) ∧ w'.cell? ⟨w.heap.size + 1, 1, none⟩ = some (.slice a_a1 a_n1 a_c1) ∧ w'.cell? ⟨w.heap.size + 1 + 1, 0, none⟩ = some (.slice b_a0 b_n0 b_c0) ∧ w'.cell? ⟨w.heap.size + 1 + 1, 1, none⟩ = some (.slice b_a1 b_n1 b_c1) ∧ w'.cell? ⟨w7.heap.size, 0, none⟩ = some (.slice xa_a0 xa_n0 xa_c0) ∧ w'.cell? ⟨w7.heap.size, 1, none⟩ = some (.slice xa_a1 xa_n1 xa_c1) ∧ w'.cell? ⟨w9.heap.size, 0, none⟩ = some (.slice xb_a0 xb_n0 xb_c0) ∧ w'.cell? ⟨w9.heap.size, 1, none⟩ = some (.slice xb_a1 xb_n1 xb_c1)) (first | (have hbq : Below w10.heap.size w10 _ := (Below.refl _ _).drew; exact ⟨hbq, box_at pxgr0_10 hbq, box_at pxgr1_10 hbq, box_at pxgr2_10 hbq, box_at pxa0_10 hbq, box_at pxa1_10 hbq, box_at pxb0_10 hbq, box_at pxb1_10 hbq, box_at pxxa0_10 hbq, box_at pxxa1_10 hbq, box_at pxxb0_10 hbq, box_at pxxb1_10 hbq⟩) | (have hbq := keep_b (by assumption) (‹Below w10.heap.size w10 _ ∧ _›).1; exact ⟨hbq, box_at pxgr0_10 hbq, box_at pxgr1_10 hbq, box_at pxgr2_10 hbq, box_at pxa0_10 hbq, box_at pxa1_10 hbq, box_at pxb0_10 hbq, box_at pxb1_10 hbq, box_at pxxa0_10 hbq, box_at pxxa1_10 hbq, box_at pxxb0_10 hbq, box_at pxxb1_10 hbq⟩) | fail) ((first
        | (go_at_call 51; refine (laws_toGroup gr _).mono ?_; rintro e w11 ⟨rfl, hb11⟩; (have AJ11 := Lib.hid (keep_b hb11 (Below.refl _ _).drew)); (have HB11 := Lib.hid (Below.next HB10.out AJ11.out)); (have hs11 : w10.heap.size ≤ w11.heap.size := AJ11.out.size); (have hbz := hb11))
        | (go_at_call 72; refine (impl_CompareReplicas gr _ la _ lb _ HZa.out ((kS rBoard).own_rd (Kind.next (K := kS rBoard) (Kind.next (K := kS rBoard) (Kind.next (K := kS rBoard) (Kind.next (K := kS rBoard) Oxa.out AJ8.out) AJ9.out) AJ10.out) AJ11.out)) HZb.out ((kS rBoard).own_rd (Kind.next (K := kS rBoard) (Kind.next (K := kS rBoard) Oxb.out AJ10.out) AJ11.out))).mono ?_; rintro e w12 ⟨rfl, hb12⟩; (have AJ12 := Lib.hid hb12); (have HB12 := Lib.hid (Below.next HB11.out AJ12.out)); (have hs12 : w11.heap.size ≤ w12.heap.size := AJ12.out.size); (have hbz := hb12))
        | fail))
      have hSS := (‹Below w10.heap.size w10 _ ∧ _›)
      clear pxgr0_10
      clear pxgr1_10
      clear pxgr2_10
      clear pxa0_10
      clear pxa1_10
      clear pxb0_10
      clear pxb1_10
      clear pxxa0_10
      clear pxxa1_10
      clear pxxb0_10
      clear pxxb1_10
      obtain ⟨hbS, pxgr0_12, pxgr1_12, pxgr2_12, pxa0_12, pxa1_12, pxb0_12, pxb1_12, pxxa0_12, pxxa1_12, pxxb0_12, pxxb1_12⟩ := hSS
      clear hbS
      clear hbz
      clear hb11
      clear hb12
      go_wp2_with fail
      go_region_held3 (fun w' => Below w12.heap.size w12 w' ∧ w'.cell? ⟨w.heap.size, 0, none⟩ = some (.int .i64 gr.p) ∧ w'.cell? ⟨w.heap.size, 1, none⟩ = some (.int .i64 gr.q) ∧ w'.cell? ⟨w.heap.size, 2, none⟩ = some (.int .i64 gr.g) ∧ w'.cell? ⟨w.heap.size + 1, 0, none⟩ = some (.slice a_a0 a_n0 a_c0) ∧ w'.cell? ⟨w.heap.size + 1, 1, none⟩ = some (.slice a_a1 a_n1 a_c1) ∧ w'.cell? ⟨w.heap.size + 1 + 1, 0, none⟩ = some (.slice b_a0 b_n0 b_c0) ∧ w'.cell? ⟨w.heap.size + 1 + 1, 1, none⟩ = some (.slice b_a1 b_n1 b_c1) ∧ w'.cell? ⟨w7.heap.size, 0, none⟩ = some (.slice xa_a0 xa_n0 xa_c0) ∧ w'.cell? ⟨w7.heap.size, 1, none⟩ = some (.slice xa_a1 xa_n1 xa_c1) ∧ w'.cell? ⟨w9.heap.size, 0, none⟩ = some (.slice xb_a0 xb_n0 xb_c0) ∧ w'.cell? ⟨w9.heap.size, 1, none⟩ = some (.slice xb_a1 xb_n1 xb_c1)) (first | (have hbq : Below w12.heap.size w12 _ := (Below.refl _ _).drew; exact ⟨hbq, box_at pxgr0_12 hbq, box_at pxgr1_12 hbq, box_at pxgr2_12 hbq, box_at pxa0_12 hbq, box_at pxa1_12 hbq, box_at pxb0_12 hbq, box_at pxb1_12 hbq, box_at pxxa0_12 hbq, box_at pxxa1_12 hbq, box_at pxxb0_12 hbq, box_at pxxb1_12 hbq⟩) | (have hbq := keep_b (by assumption) (‹Below w12.heap.size w12 _ ∧ _›).1; exact ⟨hbq, box_at pxgr0_12 hbq, box_at pxgr1_12 hbq, box_at pxgr2_12 hbq, box_at pxa0_12 hbq, box_at pxa1_12 hbq, box_at pxb0_12 hbq, box_at pxb1_12 hbq, box_at pxxa0_12 hbq, box_at pxxa1_12 hbq, box_at pxxb0_12 hbq, box_at pxxb1_12 hbq⟩) | fail) ((first
        | (go_at_call 68; refine (laws_toBoard _ la _ ((kS rBoard).rd_below Ha.out (HB12.out.trans ((‹Below w12.heap.size w12 _ ∧ _›).1.mono HB12.out.size))) HZa.out).mono ?_; rintro e wy ⟨yy, rfl, hX, hby⟩; obtain ⟨yy_a0, yy_n0, yy_c0, yy_a1, yy_n1, yy_c1, rfl, hrest⟩ := rdBoard.1 ((kS rBoard).own_rd hX); clear hrest)
        | (go_at_call 70; refine (laws_eqBoard _ _ _ _ _ ((kS rBoard).rd_below ((kS rBoard).own_rd (Kind.next (K := kS rBoard) (Kind.next (K := kS rBoard) (Kind.next (K := kS rBoard) (Kind.next (K := kS rBoard) (Kind.next (K := kS rBoard) Oxa.out AJ8.out) AJ9.out) AJ10.out) AJ11.out) AJ12.out)) (keep_b hby (Below.refl _ _).drew)) ((kS rBoard).own_rd hX)).mono ?_; rintro e w13 ⟨rfl, hb13⟩; rw [decide_eq_true rfl])
        | fail))
      replace hb13 : Below w12.heap.size w12 w13 := (‹Below w12.heap.size w12 _ ∧ _›).1
      clear hX
      have HB13 := Lib.hid (Below.next HB12.out hb13)
      have hs13 := hb13.size
      have AJ13 := Lib.hid hb13; clear hb13
      have pxgr0_13 := box_at BXgr0.out HB13.out
      clear pxgr0_12
      have pxgr1_13 := box_at BXgr1.out HB13.out
      clear pxgr1_12
      have pxgr2_13 := box_at BXgr2.out HB13.out
      clear pxgr2_12
      have pxa0_13 := box_at BXa0.out HB13.out
      clear pxa0_12
      have pxa1_13 := box_at BXa1.out HB13.out
      clear pxa1_12
      have pxb0_13 := box_at BXb0.out HB13.out
      clear pxb0_12
      have pxb1_13 := box_at BXb1.out HB13.out
      clear pxb1_12
      have pxxa0_13 := box_at pxxa0_12 AJ13.out
      clear pxxa0_12
      have pxxa1_13 := box_at pxxa1_12 AJ13.out
      clear pxxa1_12
      have pxxb0_13 := box_at pxxb0_12 AJ13.out
      clear pxxb0_12
      have pxxb1_13 := box_at pxxb1_12 AJ13.out
      clear pxxb1_12
      go_wp2_with fail
      go_region_held3 (fun w' => Below w13.heap.size w13 w' ∧ w'.cell? ⟨w.heap.size, 0, none⟩ = some (.int .i64 gr.p) ∧ w'.cell? ⟨w.heap.size, 1, none⟩ = some (.int .i64 gr.q) ∧ w'.cell? ⟨w.heap.size, 2, none⟩ = some (.int .i64 gr.g) ∧ w'.cell? ⟨w.heap.size + 1, 0, none⟩ = some (.slice a_a0 a_n0 a_c0) ∧ w'.cell? ⟨w.heap.size + 1, 1, none⟩ = some (.slice a_a1 a_n1 a_c1) ∧ w'.cell? ⟨w.heap.size + 1 + 1, 0, none⟩ = some (.slice b_a0 b_n0 b_c0) ∧ w'.cell? ⟨w.heap.size + 1 + 1, 1, none⟩ = some (.slice b_a1 b_n1 b_c1) ∧ w'.cell? ⟨w7.heap.size, 0, none⟩ = some (.slice xa_a0 xa_n0 xa_c0) ∧ w'.cell? ⟨w7.heap.size, 1, none⟩ = some (.slice xa_a1 xa_n1 xa_c1) ∧ w'.cell? ⟨w9.heap.size, 0, none⟩ = some (.slice xb_a0 xb_n0 xb_c0) ∧ w'.cell? ⟨w9.heap.size, 1, none⟩ = some (.slice xb_a1 xb_n1 xb_c1)) (first | (have hbq : Below w13.heap.size w13 _ := (Below.refl _ _).drew; exact ⟨hbq, box_at pxgr0_13 hbq, box_at pxgr1_13 hbq, box_at pxgr2_13 hbq, box_at pxa0_13 hbq, box_at pxa1_13 hbq, box_at pxb0_13 hbq, box_at pxb1_13 hbq, box_at pxxa0_13 hbq, box_at pxxa1_13 hbq, box_at pxxb0_13 hbq, box_at pxxb1_13 hbq⟩) | (have hbq := keep_b (by assumption) (‹Below w13.heap.size w13 _ ∧ _›).1; exact ⟨hbq, box_at pxgr0_13 hbq, box_at pxgr1_13 hbq, box_at pxgr2_13 hbq, box_at pxa0_13 hbq, box_at pxa1_13 hbq, box_at pxb0_13 hbq, box_at pxb1_13 hbq, box_at pxxa0_13 hbq, box_at pxxa1_13 hbq, box_at pxxb0_13 hbq, box_at pxxb1_13 hbq⟩) | fail) ((first
        | (go_at_call 68; refine (laws_toBoard _ lb _ ((kS rBoard).rd_below Hb.out (HB13.out.trans ((‹Below w13.heap.size w13 _ ∧ _›).1.mono HB13.out.size))) HZb.out).mono ?_; rintro e wy ⟨yy, rfl, hX, hby⟩; obtain ⟨yy_a0, yy_n0, yy_c0, yy_a1, yy_n1, yy_c1, rfl, hrest⟩ := rdBoard.1 ((kS rBoard).own_rd hX); clear hrest)
        | (go_at_call 70; refine (laws_eqBoard _ _ _ _ _ ((kS rBoard).rd_below ((kS rBoard).own_rd (Kind.next (K := kS rBoard) (Kind.next (K := kS rBoard) (Kind.next (K := kS rBoard) (Kind.next (K := kS rBoard) Oxb.out AJ10.out) AJ11.out) AJ12.out) AJ13.out)) (keep_b hby (Below.refl _ _).drew)) ((kS rBoard).own_rd hX)).mono ?_; rintro e w14 ⟨rfl, hb14⟩; rw [decide_eq_true rfl])
        | fail))
      replace hb14 : Below w13.heap.size w13 w14 := (‹Below w13.heap.size w13 _ ∧ _›).1
      clear hX
      have HB14 := Lib.hid (Below.next HB13.out hb14)
      have hs14 := hb14.size
      have AJ14 := Lib.hid hb14; clear hb14
      have pxgr0_14 := box_at BXgr0.out HB14.out
      clear pxgr0_13
      have pxgr1_14 := box_at BXgr1.out HB14.out
      clear pxgr1_13
      have pxgr2_14 := box_at BXgr2.out HB14.out
      clear pxgr2_13
      have pxa0_14 := box_at BXa0.out HB14.out
      clear pxa0_13
      have pxa1_14 := box_at BXa1.out HB14.out
      clear pxa1_13
      have pxb0_14 := box_at BXb0.out HB14.out
      clear pxb0_13
      have pxb1_14 := box_at BXb1.out HB14.out
      clear pxb1_13
      have pxxa0_14 := box_at pxxa0_13 AJ14.out
      clear pxxa0_13
      have pxxa1_14 := box_at pxxa1_13 AJ14.out
      clear pxxa1_13
      have pxxb0_14 := box_at pxxb0_13 AJ14.out
      clear pxxb0_13
      have pxxb1_14 := box_at pxxb1_13 AJ14.out
      clear pxxb1_13
      go_wp2_with fail
      go_ret
      exact ⟨rfl, HWB.out.trans (HB14.out.mono HWB.out.size)⟩
end Go.Proofs.Ytapfceghgkmgoaa

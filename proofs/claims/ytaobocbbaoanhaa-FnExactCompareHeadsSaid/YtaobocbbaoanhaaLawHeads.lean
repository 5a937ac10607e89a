/- The walks of laws, by program (genlaw2.py). -/
import Derived.Test.YtaobocbbaoanhaaHeads
namespace Go.Proofs.Ytaobocbbaoanhaa
open Go.RowKit
set_option linter.unusedSimpArgs false
set_option linter.unusedVariables false

set_option maxRecDepth 100000 in
set_option maxHeartbeats 2000000 in
theorem law_CompareHeads (a : Value) (la : HeadD) (b : Value) (lb : HeadD) (p : Value) (lp : List Int) (w : World) (ha : (kS rHead).rd w a la) (hb : (kS rHead).rd w b lb) (hp : Ints w p lp) :
    Calls Try.prog 3 #[a, b, p] w fun e w' => e = .returned (.bool true) ∧ Below w.heap.size w w' := by
  obtain ⟨a_a3, a_n3, a_c3, a_a4, a_n4, a_c4, a_a5, a_n5, a_c5, rfl, hresta⟩ := rdHead.1 ha
  have ha : (kS rHead).rd w (.agg #[.int .i64 la.author, .int .i64 la.size, .int .i64 la.root, .slice a_a3 a_n3 a_c3, .slice a_a4 a_n4 a_c4, .slice a_a5 a_n5 a_c5]) la := rdHead.2 ⟨_, _, _, _, _, _, _, _, _, rfl, hresta⟩
  clear hresta
  obtain ⟨b_a3, b_n3, b_c3, b_a4, b_n4, b_c4, b_a5, b_n5, b_c5, rfl, hrestb⟩ := rdHead.1 hb
  have hb : (kS rHead).rd w (.agg #[.int .i64 lb.author, .int .i64 lb.size, .int .i64 lb.root, .slice b_a3 b_n3 b_c3, .slice b_a4 b_n4 b_c4, .slice b_a5 b_n5 b_c5]) lb := rdHead.2 ⟨_, _, _, _, _, _, _, _, _, rfl, hrestb⟩
  clear hrestb
  obtain ⟨W, hW⟩ : ∃ W, W = (w.alloc (.cells #[.int .i64 la.author, .int .i64 la.size, .int .i64 la.root, .slice a_a3 a_n3 a_c3, .slice a_a4 a_n4 a_c4, .slice a_a5 a_n5 a_c5] 26)).alloc (.cells #[.int .i64 lb.author, .int .i64 lb.size, .int .i64 lb.root, .slice b_a3 b_n3 b_c3, .slice b_a4 b_n4 b_c4, .slice b_a5 b_n5 b_c5] 26) := ⟨_, rfl⟩
  have HWB : Hid (Below w.heap.size w W) := by unfold Hid; rw [hW]; (repeat (first | exact Below.refl _ _ | assumption | refine Below.drew ?_ | refine Below.alloc ?_ (by first | (simp; done) | (simp; omega)) _ | refine Below.setCell ?_ (by first | (simp; done) | (simp; omega)) _))
  have BXa0 : Hid (W.cell? ⟨w.heap.size, 0, none⟩ = some (.int .i64 la.author)) := by unfold Hid; rw [hW]; simp [go_sem]
  have BXa1 : Hid (W.cell? ⟨w.heap.size, 1, none⟩ = some (.int .i64 la.size)) := by unfold Hid; rw [hW]; simp [go_sem]
  have BXa2 : Hid (W.cell? ⟨w.heap.size, 2, none⟩ = some (.int .i64 la.root)) := by unfold Hid; rw [hW]; simp [go_sem]
  have BXa3 : Hid (W.cell? ⟨w.heap.size, 3, none⟩ = some (.slice a_a3 a_n3 a_c3)) := by unfold Hid; rw [hW]; simp [go_sem]
  have BXa4 : Hid (W.cell? ⟨w.heap.size, 4, none⟩ = some (.slice a_a4 a_n4 a_c4)) := by unfold Hid; rw [hW]; simp [go_sem]
  have BXa5 : Hid (W.cell? ⟨w.heap.size, 5, none⟩ = some (.slice a_a5 a_n5 a_c5)) := by unfold Hid; rw [hW]; simp [go_sem]
  have BXb0 : Hid (W.cell? ⟨w.heap.size + 1, 0, none⟩ = some (.int .i64 lb.author)) := by unfold Hid; rw [hW]; simp [go_sem]
  have BXb1 : Hid (W.cell? ⟨w.heap.size + 1, 1, none⟩ = some (.int .i64 lb.size)) := by unfold Hid; rw [hW]; simp [go_sem]
  have BXb2 : Hid (W.cell? ⟨w.heap.size + 1, 2, none⟩ = some (.int .i64 lb.root)) := by unfold Hid; rw [hW]; simp [go_sem]
  have BXb3 : Hid (W.cell? ⟨w.heap.size + 1, 3, none⟩ = some (.slice b_a3 b_n3 b_c3)) := by unfold Hid; rw [hW]; simp [go_sem]
  have BXb4 : Hid (W.cell? ⟨w.heap.size + 1, 4, none⟩ = some (.slice b_a4 b_n4 b_c4)) := by unfold Hid; rw [hW]; simp [go_sem]
  have BXb5 : Hid (W.cell? ⟨w.heap.size + 1, 5, none⟩ = some (.slice b_a5 b_n5 b_c5)) := by unfold Hid; rw [hW]; simp [go_sem]
  replace ha := ((kS rHead).rd_below ha HWB.out)
  replace hb := ((kS rHead).rd_below hb HWB.out)
  replace hp := (hp.below HWB.out)
  have Ha := Lib.hid ha; clear ha
  have Hb := Lib.hid hb; clear hb
  obtain ⟨adp, np, cp, rfl⟩ := hp.shape
  have HLp := Lib.hid hp.len
  have Hp := Lib.hid hp; clear hp
  by_cases hnp : 1048576 < (np : Int)
  · go_enter Try.func3, Try.ntmps3
    go_wp2_with fail
    go_ret
    exact ⟨rfl, by (repeat (first | exact Below.refl _ _ | assumption | refine Below.drew ?_ | refine Below.alloc ?_ (by first | (simp; done) | (simp; omega)) _ | refine Below.setCell ?_ (by first | (simp; done) | (simp; omega)) _))⟩
  · skip
    go_enter Try.func3, Try.ntmps3
    go_wp2_with fail
    rw [← hW]
    clear hW
    have pxa0_0 := BXa0.out
    have pxa1_0 := BXa1.out
    have pxa2_0 := BXa2.out
    have pxa3_0 := BXa3.out
    have pxa4_0 := BXa4.out
    have pxa5_0 := BXa5.out
    have pxb0_0 := BXb0.out
    have pxb1_0 := BXb1.out
    have pxb2_0 := BXb2.out
    have pxb3_0 := BXb3.out
    have pxb4_0 := BXb4.out
    have pxb5_0 := BXb5.out
    refine (laws_szHead _ la 1048576 _ ((kS rHead).rd_below Ha.out (Below.refl _ _)) (by decide) (by decide)).mono ?_
    rintro e w1 ⟨⟨r0, rfl, hr0, hsz0⟩, hb1⟩
    replace hsz0 : 0 ≤ r0 → (szHead la : Int) ≤ 1048576 ∧ r0 ≤ 1048576 := fun h => by have := hsz0 h; omega
    have HB1 := Lib.hid (Below.next (Below.refl _ _) hb1)
    have hs1 := hb1.size
    have AJ1 := Lib.hid hb1; clear hb1
    have pxa0_1 := box_at BXa0.out HB1.out
    clear pxa0_0
    have pxa1_1 := box_at BXa1.out HB1.out
    clear pxa1_0
    have pxa2_1 := box_at BXa2.out HB1.out
    clear pxa2_0
    have pxa3_1 := box_at BXa3.out HB1.out
    clear pxa3_0
    have pxa4_1 := box_at BXa4.out HB1.out
    clear pxa4_0
    have pxa5_1 := box_at BXa5.out HB1.out
    clear pxa5_0
    have pxb0_1 := box_at BXb0.out HB1.out
    clear pxb0_0
    have pxb1_1 := box_at BXb1.out HB1.out
    clear pxb1_0
    have pxb2_1 := box_at BXb2.out HB1.out
    clear pxb2_0
    have pxb3_1 := box_at BXb3.out HB1.out
    clear pxb3_0
    have pxb4_1 := box_at BXb4.out HB1.out
    clear pxb4_0
    have pxb5_1 := box_at BXb5.out HB1.out
    clear pxb5_0
    by_cases hneg0 : r0 < 0
    · go_wp2_with fail
      go_ret
      exact ⟨rfl, HWB.out.trans (HB1.out.mono HWB.out.size)⟩
    · have HZa : Hid ((szHead la : Int) ≤ 1000000000) := by have := (hsz0 (by omega)).1; unfold Hid; omega
      have hrb0 : r0 ≤ 1048576 := by have := (hsz0 (by omega)).2; omega
      clear hsz0
      go_wp2_with fail
      refine (laws_szHead _ lb r0 _ ((kS rHead).rd_below Hb.out HB1.out) (by omega) (by omega)).mono ?_
      rintro e w2 ⟨⟨r1, rfl, hr1, hsz1⟩, hb2⟩
      replace hsz1 : 0 ≤ r1 → (szHead lb : Int) ≤ r0 ∧ r1 ≤ r0 := fun h => by have := hsz1 h; omega
      have HB2 := Lib.hid (Below.next HB1.out hb2)
      have hs2 := hb2.size
      have AJ2 := Lib.hid hb2; clear hb2
      have pxa0_2 := box_at BXa0.out HB2.out
      clear pxa0_1
      have pxa1_2 := box_at BXa1.out HB2.out
      clear pxa1_1
      have pxa2_2 := box_at BXa2.out HB2.out
      clear pxa2_1
      have pxa3_2 := box_at BXa3.out HB2.out
      clear pxa3_1
      have pxa4_2 := box_at BXa4.out HB2.out
      clear pxa4_1
      have pxa5_2 := box_at BXa5.out HB2.out
      clear pxa5_1
      have pxb0_2 := box_at BXb0.out HB2.out
      clear pxb0_1
      have pxb1_2 := box_at BXb1.out HB2.out
      clear pxb1_1
      have pxb2_2 := box_at BXb2.out HB2.out
      clear pxb2_1
      have pxb3_2 := box_at BXb3.out HB2.out
      clear pxb3_1
      have pxb4_2 := box_at BXb4.out HB2.out
      clear pxb4_1
      have pxb5_2 := box_at BXb5.out HB2.out
      clear pxb5_1
      by_cases hneg1 : r1 < 0
      · go_wp2_with fail
        go_ret
        exact ⟨rfl, HWB.out.trans (HB2.out.mono HWB.out.size)⟩
      · have HZb : Hid ((szHead lb : Int) ≤ 1000000000) := by have := (hsz1 (by omega)).1; unfold Hid; omega
        have hrb1 : r1 ≤ 1048576 := by have := (hsz1 (by omega)).2; omega
        clear hsz1
        go_wp2_with fail
        go_region_held3 (fun w' => Below w2.heap.size w2 w' ∧ w'.cell? ⟨w.heap.size, 0, none⟩ = some (.int .i64 la.author) ∧ w'.cell? ⟨w.heap.size, 1, none⟩ = some (.int .i64 la.size) ∧ w'.cell? ⟨w.heap.size, 2, none⟩ = some (.int .i64 la.root) ∧ w'.cell? ⟨w.heap.size, 3, none⟩ = some (.slice a_a3 a_n3 a_c3) ∧ w'.cell? ⟨w.heap.size, 4, none⟩ = some (.slice a_a4 a_n4 a_c4) ∧ w'.cell? ⟨w.heap.size, 5, none⟩ = some (.slice a_a5 a_n5 a_c5) ∧ w'.cell? ⟨w.heap.size + 1, 0, none⟩ = some (.int .i64 lb.author) ∧ w'.cell? ⟨w.heap.size + 1, 1, none⟩ = some (.int .i64 lb.size) ∧ w'.cell? ⟨w.heap.size + 1, 2, none⟩ = some (.int .i64 lb.root) ∧ w'.cell? ⟨w.heap.size + 1, 3, none⟩ = some (.slice b_a3 b_n3 b_c3) ∧ w'.cell? ⟨w.heap.size + 1, 4, none⟩ = some (.slice b_a4 b_n4 b_c4) ∧ w'.cell? ⟨w.heap.size + 1, 5, none⟩ = some (.slice b_a5 b_n5 b_c5)) (first | (have hbq : Below w2.heap.size w2 _ := (Below.refl _ _).drew; exact ⟨hbq, box_at pxa0_2 hbq, box_at pxa1_2 hbq, box_at pxa2_2 hbq, box_at pxa3_2 hbq, box_at pxa4_2 hbq, box_at pxa5_2 hbq, box_at pxb0_2 hbq, box_at pxb1_2 hbq, box_at pxb2_2 hbq, box_at pxb3_2 hbq, box_at pxb4_2 hbq, box_at pxb5_2 hbq⟩) | (have hbq := keep_b (by assumption) (‹Below w2.heap.size w2 _ ∧ _›).1; exact ⟨hbq, box_at pxa0_2 hbq, box_at pxa1_2 hbq, box_at pxa2_2 hbq, box_at pxa3_2 hbq, box_at pxa4_2 hbq, box_at pxa5_2 hbq, box_at pxb0_2 hbq, box_at pxb1_2 hbq, box_at pxb2_2 hbq, box_at pxb3_2 hbq, box_at pxb4_2 hbq, box_at pxb5_2 hbq⟩) | fail) ((first
          | (go_at_call_of 16 (Value.int .i64 la.author); refine (laws_toHead _ la _ ((kS rHead).rd_below Ha.out (HB2.out.trans ((‹Below w2.heap.size w2 _ ∧ _›).1.mono HB2.out.size))) HZa.out).mono ?_; rintro e w3 ⟨sa, rfl, hX, hb3⟩; (have Osa : Hid ((kS rHead).own w3 w2.heap.size w3.heap.size sa la) := hX); clear hX; obtain ⟨sa_a3, sa_n3, sa_c3, sa_a4, sa_n4, sa_c4, sa_a5, sa_n5, sa_c5, rfl, hrest⟩ := rdHead.1 ((kS rHead).own_rd Osa.out); clear hrest; (have AJ3 := Lib.hid (keep_b hb3 (Below.refl _ _).drew)); (have HB3 := Lib.hid (Below.next HB2.out AJ3.out)); (have hs3 : w2.heap.size ≤ w3.heap.size := AJ3.out.size); (have hbz := hb3))
          | (go_at_call_of 16 (Value.int .i64 lb.author); refine (laws_toHead _ lb _ ((kS rHead).rd_below Hb.out (HB2.out.trans ((‹Below w2.heap.size w2 _ ∧ _›).1.mono HB2.out.size))) HZb.out).mono ?_; rintro e w4 ⟨sb, rfl, hX, hb4⟩; (have Osb : Hid ((kS rHead).own w4 w3.heap.size w4.heap.size sb lb) := hX); clear hX; obtain ⟨sb_a3, sb_n3, sb_c3, sb_a4, sb_n4, sb_c4, sb_a5, sb_n5, sb_c5, rfl, hrest⟩ := rdHead.1 ((kS rHead).own_rd Osb.out); clear hrest; (have AJ4 := Lib.hid hb4); (have HB4 := Lib.hid (Below.next HB3.out AJ4.out)); (have hs4 : w3.heap.size ≤ w4.heap.size := AJ4.out.size); (have hbz := hb4))
          | (go_at_call_of 17 (Value.slice adp np cp); refine (laws_toIntS _ lp _ (Hp.out.below (HB2.out.trans ((‹Below w2.heap.size w2 _ ∧ _›).1.mono HB2.out.size))) (by rw [HLp.out]; omega)).mono ?_; rintro e w5 ⟨sp, rfl, hX, hb5⟩; (have Osp : Hid (InI w5 w4.heap.size w5.heap.size sp lp) := InI.of_own hX); clear hX; (have AJ5 := Lib.hid hb5); (have HB5 := Lib.hid (Below.next HB4.out AJ5.out)); (have hs5 : w4.heap.size ≤ w5.heap.size := AJ5.out.size); (have hbz := hb5))
          | (go_at_call 15; refine (spec_CompareHeads _ la _ lb _ lp _ HZa.out ((kS rHead).own_rd (Kind.next (K := kS rHead) (Kind.next (K := kS rHead) Osa.out AJ4.out) AJ5.out)) HZb.out ((kS rHead).own_rd (Kind.next (K := kS rHead) Osb.out AJ5.out)) Osp.out.reads).mono ?_; rintro e w6 ⟨rfl, hb6⟩; (have AJ6 := Lib.hid hb6); (have HB6 := Lib.hid (Below.next HB5.out AJ6.out)); (have hs6 : w5.heap.size ≤ w6.heap.size := AJ6.out.size); (have hbz := hb6))
          | fail))
        have hSS := (‹Below w2.heap.size w2 _ ∧ _›)
        clear pxa0_2
        clear pxa1_2
        clear pxa2_2
        clear pxa3_2
        clear pxa4_2
        clear pxa5_2
        clear pxb0_2
        clear pxb1_2
        clear pxb2_2
        clear pxb3_2
        clear pxb4_2
        clear pxb5_2
        obtain ⟨hbS, pxa0_6, pxa1_6, pxa2_6, pxa3_6, pxa4_6, pxa5_6, pxb0_6, pxb1_6, pxb2_6, pxb3_6, pxb4_6, pxb5_6⟩ := hSS
        clear hbS
        clear hbz
        clear hb3
        clear hb4
        clear hb5
        clear hb6
        go_wp2_with fail
        refine (laws_toHead _ la _ ((kS rHead).rd_below Ha.out HB6.out) HZa.out).mono ?_
        rintro e w7 ⟨xa, rfl, hX, hb7⟩
        have Oxa := Lib.hid (hX); clear hX
        obtain ⟨xa_a3, xa_n3, xa_c3, xa_a4, xa_n4, xa_c4, xa_a5, xa_n5, xa_c5, rfl, hrest⟩ := rdHead.1 ((kS rHead).own_rd Oxa.out)
        clear hrest
        have HB7 := Lib.hid (Below.next HB6.out hb7)
        have hs7 := hb7.size
        have AJ7 := Lib.hid hb7; clear hb7
        have pxa0_7 := box_at BXa0.out HB7.out
        clear pxa0_6
        have pxa1_7 := box_at BXa1.out HB7.out
        clear pxa1_6
        have pxa2_7 := box_at BXa2.out HB7.out
        clear pxa2_6
        have pxa3_7 := box_at BXa3.out HB7.out
        clear pxa3_6
        have pxa4_7 := box_at BXa4.out HB7.out
        clear pxa4_6
        have pxa5_7 := box_at BXa5.out HB7.out
        clear pxa5_6
        have pxb0_7 := box_at BXb0.out HB7.out
        clear pxb0_6
        have pxb1_7 := box_at BXb1.out HB7.out
        clear pxb1_6
        have pxb2_7 := box_at BXb2.out HB7.out
        clear pxb2_6
        have pxb3_7 := box_at BXb3.out HB7.out
        clear pxb3_6
        have pxb4_7 := box_at BXb4.out HB7.out
        clear pxb4_6
        have pxb5_7 := box_at BXb5.out HB7.out
        clear pxb5_6
        have zl0 : w.heap.size < w7.heap.size := World.block_lt_of_cell? _ _ pxa0_7
        have zl1 : w.heap.size + 1 < w7.heap.size := World.block_lt_of_cell? _ _ pxb0_7
        go_wp2_with fail
        clear zl0 zl1
        obtain ⟨w8, hw8⟩ : ∃ u, u = w7.alloc (.cells #[.int .i64 la.author, .int .i64 la.size, .int .i64 la.root, .slice xa_a3 xa_n3 xa_c3, .slice xa_a4 xa_n4 xa_c4, .slice xa_a5 xa_n5 xa_c5] 32) := ⟨_, rfl⟩
        rw [← hw8]
        have hb8 : Below w7.heap.size w7 w8 := by rw [hw8]; exact (Below.refl _ _).alloc (Nat.le_refl _) _
        have hlt8 : w7.heap.size < w8.heap.size := by rw [hw8]; simp
        have pxxa0_8 : w8.cell? ⟨w7.heap.size, 0, none⟩ = some (.int .i64 la.author) := by rw [hw8]; simp [go_sem]
        have pxxa1_8 : w8.cell? ⟨w7.heap.size, 1, none⟩ = some (.int .i64 la.size) := by rw [hw8]; simp [go_sem]
        have pxxa2_8 : w8.cell? ⟨w7.heap.size, 2, none⟩ = some (.int .i64 la.root) := by rw [hw8]; simp [go_sem]
        have pxxa3_8 : w8.cell? ⟨w7.heap.size, 3, none⟩ = some (.slice xa_a3 xa_n3 xa_c3) := by rw [hw8]; simp [go_sem]
        have pxxa4_8 : w8.cell? ⟨w7.heap.size, 4, none⟩ = some (.slice xa_a4 xa_n4 xa_c4) := by rw [hw8]; simp [go_sem]
        have pxxa5_8 : w8.cell? ⟨w7.heap.size, 5, none⟩ = some (.slice xa_a5 xa_n5 xa_c5) := by rw [hw8]; simp [go_sem]
        clear hw8
        have HB8 := Lib.hid (Below.next HB7.out hb8)
        have hs8 := hb8.size
        have AJ8 := Lib.hid hb8; clear hb8
        have pxa0_8 := box_at BXa0.out HB8.out
        clear pxa0_7
        have pxa1_8 := box_at BXa1.out HB8.out
        clear pxa1_7
        have pxa2_8 := box_at BXa2.out HB8.out
        clear pxa2_7
        have pxa3_8 := box_at BXa3.out HB8.out
        clear pxa3_7
        have pxa4_8 := box_at BXa4.out HB8.out
        clear pxa4_7
        have pxa5_8 := box_at BXa5.out HB8.out
        clear pxa5_7
        have pxb0_8 := box_at BXb0.out HB8.out
        clear pxb0_7
        have pxb1_8 := box_at BXb1.out HB8.out
        clear pxb1_7
        have pxb2_8 := box_at BXb2.out HB8.out
        clear pxb2_7
        have pxb3_8 := box_at BXb3.out HB8.out
        clear pxb3_7
        have pxb4_8 := box_at BXb4.out HB8.out
        clear pxb4_7
        have pxb5_8 := box_at BXb5.out HB8.out
        clear pxb5_7
        refine (laws_toHead _ lb _ ((kS rHead).rd_below Hb.out HB8.out) HZb.out).mono ?_
        rintro e w9 ⟨xb, rfl, hX, hb9⟩
        have Oxb := Lib.hid (hX); clear hX
        obtain ⟨xb_a3, xb_n3, xb_c3, xb_a4, xb_n4, xb_c4, xb_a5, xb_n5, xb_c5, rfl, hrest⟩ := rdHead.1 ((kS rHead).own_rd Oxb.out)
        clear hrest
        have HB9 := Lib.hid (Below.next HB8.out hb9)
        have hs9 := hb9.size
        have AJ9 := Lib.hid hb9; clear hb9
        have pxa0_9 := box_at BXa0.out HB9.out
        clear pxa0_8
        have pxa1_9 := box_at BXa1.out HB9.out
        clear pxa1_8
        have pxa2_9 := box_at BXa2.out HB9.out
        clear pxa2_8
        have pxa3_9 := box_at BXa3.out HB9.out
        clear pxa3_8
        have pxa4_9 := box_at BXa4.out HB9.out
        clear pxa4_8
        have pxa5_9 := box_at BXa5.out HB9.out
        clear pxa5_8
        have pxb0_9 := box_at BXb0.out HB9.out
        clear pxb0_8
        have pxb1_9 := box_at BXb1.out HB9.out
        clear pxb1_8
        have pxb2_9 := box_at BXb2.out HB9.out
        clear pxb2_8
        have pxb3_9 := box_at BXb3.out HB9.out
        clear pxb3_8
        have pxb4_9 := box_at BXb4.out HB9.out
        clear pxb4_8
        have pxb5_9 := box_at BXb5.out HB9.out
        clear pxb5_8
        have pxxa0_9 := box_at pxxa0_8 AJ9.out
        clear pxxa0_8
        have pxxa1_9 := box_at pxxa1_8 AJ9.out
        clear pxxa1_8
        have pxxa2_9 := box_at pxxa2_8 AJ9.out
        clear pxxa2_8
        have pxxa3_9 := box_at pxxa3_8 AJ9.out
        clear pxxa3_8
        have pxxa4_9 := box_at pxxa4_8 AJ9.out
        clear pxxa4_8
        have pxxa5_9 := box_at pxxa5_8 AJ9.out
        clear pxxa5_8
        have zl0 : w.heap.size < w9.heap.size := World.block_lt_of_cell? _ _ pxa0_9
        have zl1 : w.heap.size + 1 < w9.heap.size := World.block_lt_of_cell? _ _ pxb0_9
        have zl2 : w7.heap.size < w9.heap.size := World.block_lt_of_cell? _ _ pxxa0_9
        go_wp2_with fail
        clear zl0 zl1 zl2
        obtain ⟨w10, hw10⟩ : ∃ u, u = w9.alloc (.cells #[.int .i64 lb.author, .int .i64 lb.size, .int .i64 lb.root, .slice xb_a3 xb_n3 xb_c3, .slice xb_a4 xb_n4 xb_c4, .slice xb_a5 xb_n5 xb_c5] 32) := ⟨_, rfl⟩
        rw [← hw10]
        have hb10 : Below w9.heap.size w9 w10 := by rw [hw10]; exact (Below.refl _ _).alloc (Nat.le_refl _) _
        have hlt10 : w9.heap.size < w10.heap.size := by rw [hw10]; simp
        have pxxb0_10 : w10.cell? ⟨w9.heap.size, 0, none⟩ = some (.int .i64 lb.author) := by rw [hw10]; simp [go_sem]
        have pxxb1_10 : w10.cell? ⟨w9.heap.size, 1, none⟩ = some (.int .i64 lb.size) := by rw [hw10]; simp [go_sem]
        have pxxb2_10 : w10.cell? ⟨w9.heap.size, 2, none⟩ = some (.int .i64 lb.root) := by rw [hw10]; simp [go_sem]
        have pxxb3_10 : w10.cell? ⟨w9.heap.size, 3, none⟩ = some (.slice xb_a3 xb_n3 xb_c3) := by rw [hw10]; simp [go_sem]
        have pxxb4_10 : w10.cell? ⟨w9.heap.size, 4, none⟩ = some (.slice xb_a4 xb_n4 xb_c4) := by rw [hw10]; simp [go_sem]
        have pxxb5_10 : w10.cell? ⟨w9.heap.size, 5, none⟩ = some (.slice xb_a5 xb_n5 xb_c5) := by rw [hw10]; simp [go_sem]
        clear hw10
        have HB10 := Lib.hid (Below.next HB9.out hb10)
        have hs10 := hb10.size
        have AJ10 := Lib.hid hb10; clear hb10
        have pxa0_10 := box_at BXa0.out HB10.out
        clear pxa0_9
        have pxa1_10 := box_at BXa1.out HB10.out
        clear pxa1_9
        have pxa2_10 := box_at BXa2.out HB10.out
        clear pxa2_9
        have pxa3_10 := box_at BXa3.out HB10.out
        clear pxa3_9
        have pxa4_10 := box_at BXa4.out HB10.out
        clear pxa4_9
        have pxa5_10 := box_at BXa5.out HB10.out
        clear pxa5_9
        have pxb0_10 := box_at BXb0.out HB10.out
        clear pxb0_9
        have pxb1_10 := box_at BXb1.out HB10.out
        clear pxb1_9
        have pxb2_10 := box_at BXb2.out HB10.out
        clear pxb2_9
        have pxb3_10 := box_at BXb3.out HB10.out
        clear pxb3_9
        have pxb4_10 := box_at BXb4.out HB10.out
        clear pxb4_9
        have pxb5_10 := box_at BXb5.out HB10.out
        clear pxb5_9
        have pxxa0_10 := box_at pxxa0_9 AJ10.out
        clear pxxa0_9
        have pxxa1_10 := box_at pxxa1_9 AJ10.out
        clear pxxa1_9
        have pxxa2_10 := box_at pxxa2_9 AJ10.out
        clear pxxa2_9
        have pxxa3_10 := box_at pxxa3_9 AJ10.out
        clear pxxa3_9
        have pxxa4_10 := box_at pxxa4_9 AJ10.out
        clear pxxa4_9
        have pxxa5_10 := box_at pxxa5_9 AJ10.out
        clear pxxa5_9
        refine (laws_toIntS _ lp _ (Hp.out.below HB10.out) (by rw [HLp.out]; omega)).mono ?_
        rintro e w11 ⟨xp, rfl, hX, hb11⟩
        have Oxp := Lib.hid (InI.of_own hX); clear hX
        have HB11 := Lib.hid (Below.next HB10.out hb11)
        have hs11 := hb11.size
        have AJ11 := Lib.hid hb11; clear hb11
        have pxa0_11 := box_at BXa0.out HB11.out
        clear pxa0_10
        have pxa1_11 := box_at BXa1.out HB11.out
        clear pxa1_10
        have pxa2_11 := box_at BXa2.out HB11.out
        clear pxa2_10
        have pxa3_11 := box_at BXa3.out HB11.out
        clear pxa3_10
        have pxa4_11 := box_at BXa4.out HB11.out
        clear pxa4_10
        have pxa5_11 := box_at BXa5.out HB11.out
        clear pxa5_10
        have pxb0_11 := box_at BXb0.out HB11.out
        clear pxb0_10
        have pxb1_11 := box_at BXb1.out HB11.out
        clear pxb1_10
        have pxb2_11 := box_at BXb2.out HB11.out
        clear pxb2_10
        have pxb3_11 := box_at BXb3.out HB11.out
        clear pxb3_10
        have pxb4_11 := box_at BXb4.out HB11.out
        clear pxb4_10
        have pxb5_11 := box_at BXb5.out HB11.out
        clear pxb5_10
        have pxxa0_11 := box_at pxxa0_10 AJ11.out
        clear pxxa0_10
        have pxxa1_11 := box_at pxxa1_10 AJ11.out
        clear pxxa1_10
        have pxxa2_11 := box_at pxxa2_10 AJ11.out
        clear pxxa2_10
        have pxxa3_11 := box_at pxxa3_10 AJ11.out
        clear pxxa3_10
        have pxxa4_11 := box_at pxxa4_10 AJ11.out
        clear pxxa4_10
        have pxxa5_11 := box_at pxxa5_10 AJ11.out
        clear pxxa5_10
        have pxxb0_11 := box_at pxxb0_10 AJ11.out
        clear pxxb0_10
        have pxxb1_11 := box_at pxxb1_10 AJ11.out
        clear pxxb1_10
        have pxxb2_11 := box_at pxxb2_10 AJ11.out
        clear pxxb2_10
        have pxxb3_11 := box_at pxxb3_10 AJ11.out
        clear pxxb3_10
        have pxxb4_11 := box_at pxxb4_10 AJ11.out
        clear pxxb4_10
        have pxxb5_11 := box_at pxxb5_10 AJ11.out
        clear pxxb5_10
        go_wp2_with fail
        refine (impl_CompareHeads _ la _ lb _ lp _ HZa.out ((kS rHead).own_rd (Kind.next (K := kS rHead) (Kind.next (K := kS rHead) (Kind.next (K := kS rHead) (Kind.next (K := kS rHead) Oxa.out AJ8.out) AJ9.out) AJ10.out) AJ11.out)) HZb.out ((kS rHead).own_rd (Kind.next (K := kS rHead) (Kind.next (K := kS rHead) Oxb.out AJ10.out) AJ11.out)) Oxp.out.reads).mono ?_
        rintro e w12 ⟨rfl, hb12⟩
        have HB12 := Lib.hid (Below.next HB11.out hb12)
        have hs12 := hb12.size
        have AJ12 := Lib.hid hb12; clear hb12
        have pxa0_12 := box_at BXa0.out HB12.out
        clear pxa0_11
        have pxa1_12 := box_at BXa1.out HB12.out
        clear pxa1_11
        have pxa2_12 := box_at BXa2.out HB12.out
        clear pxa2_11
        have pxa3_12 := box_at BXa3.out HB12.out
        clear pxa3_11
        have pxa4_12 := box_at BXa4.out HB12.out
        clear pxa4_11
        have pxa5_12 := box_at BXa5.out HB12.out
        clear pxa5_11
        have pxb0_12 := box_at BXb0.out HB12.out
        clear pxb0_11
        have pxb1_12 := box_at BXb1.out HB12.out
        clear pxb1_11
        have pxb2_12 := box_at BXb2.out HB12.out
        clear pxb2_11
        have pxb3_12 := box_at BXb3.out HB12.out
        clear pxb3_11
        have pxb4_12 := box_at BXb4.out HB12.out
        clear pxb4_11
        have pxb5_12 := box_at BXb5.out HB12.out
        clear pxb5_11
        have pxxa0_12 := box_at pxxa0_11 AJ12.out
        clear pxxa0_11
        have pxxa1_12 := box_at pxxa1_11 AJ12.out
        clear pxxa1_11
        have pxxa2_12 := box_at pxxa2_11 AJ12.out
        clear pxxa2_11
        have pxxa3_12 := box_at pxxa3_11 AJ12.out
        clear pxxa3_11
        have pxxa4_12 := box_at pxxa4_11 AJ12.out
        clear pxxa4_11
        have pxxa5_12 := box_at pxxa5_11 AJ12.out
        clear pxxa5_11
        have pxxb0_12 := box_at pxxb0_11 AJ12.out
        clear pxxb0_11
        have pxxb1_12 := box_at pxxb1_11 AJ12.out
        clear pxxb1_11
        have pxxb2_12 := box_at pxxb2_11 AJ12.out
        clear pxxb2_11
        have pxxb3_12 := box_at pxxb3_11 AJ12.out
        clear pxxb3_11
        have pxxb4_12 := box_at pxxb4_11 AJ12.out
        clear pxxb4_11
        have pxxb5_12 := box_at pxxb5_11 AJ12.out
        clear pxxb5_11
        go_wp2_with fail
        go_region_held3 (fun w' => Below w12.heap.size w12 w' ∧ w'.cell? ⟨w.heap.size, 0, none⟩ = some (.int .i64 la.author) ∧ w'.cell? ⟨w.heap.size, 1, none⟩ = some (.int .i64 la.size) ∧ w'.cell? ⟨w.heap.size, 2, none⟩ = some (.int .i64 la.root) ∧ w'.cell? ⟨w.heap.size, 3, none⟩ = some (.slice a_a3 a_n3 a_c3) ∧ w'.cell? ⟨w.heap.size, 4, none⟩ = some (.slice a_a4 a_n4 a_c4) ∧ w'.cell? ⟨w.heap.size, 5, none⟩ = some (.slice a_a5 a_n5 a_c5) ∧ w'.cell? ⟨w.heap.size + 1, 0, none⟩ = some (.int .i64 lb.author) ∧ w'.cell? ⟨w.heap.size + 1, 1, none⟩ = some (.int .i64 lb.size) ∧ w'.cell? ⟨w.heap.size + 1, 2, none⟩ = some (.int .i64 lb.root) ∧ w'.cell? ⟨w.heap.size + 1, 3, none⟩ = some (.slice b_a3 b_n3 b_c3) ∧ w'.cell? ⟨w.heap.size + 1, 4, none⟩ = some (.slice b_a4 b_n4 b_c4) ∧ w'.cell? ⟨w.heap.size + 1, 5, none⟩ = some (.slice b_a5 b_n5 b_c5) ∧ w'.cell? ⟨w7.heap.size, 0, none⟩ = some (.int .i64 la.author) ∧ w'.cell? ⟨w7.heap.size, 1, none⟩ = some (.int .i64 la.size) ∧ w'.cell? ⟨w7.heap.size, 2, none⟩ = some (.int .i64 la.root) ∧ w'.cell? ⟨w7.heap.size, 3, none⟩ = some (.slice xa_a3 xa_n3 xa_c3) ∧ w'.cell? ⟨w7.heap.size, 4, none⟩ = some (.slice xa_a4 xa_n4 xa_c4) ∧ w'.cell? ⟨w7.heap.size, 5, none⟩ = some (.slice xa_a5 xa_n5 xa_c5) ∧ w'.cell? ⟨w9.heap.size, 0, none⟩ = some (.int .i64 lb.author) ∧ w'.cell? ⟨w9.heap.size, 1, none⟩ = some (.int .i64 lb.size) ∧ w'.cell? ⟨w9.heap.size, 2, none⟩ = some (.int .i64 lb.root) ∧ w'.cell? ⟨w9.heap.size, 3, none⟩ = some (.slice xb_a3 xb_n3 xb_c3) ∧ w'.cell? ⟨w9.heap.size, 4, none⟩ = some (.slice xb_a4 xb_n4 xb_c4) ∧ w'.cell? ⟨w9.heap.size, 5, none⟩ = some (.slice xb_a5 xb_n5 xb_c5)) (first | (have hbq : Below w12.heap.size w12 _ := (Below.refl _ _).drew; exact ⟨hbq, box_at pxa0_12 hbq, box_at pxa1_12 hbq, box_at pxa2_12 hbq, box_at pxa3_12 hbq, box_at pxa4_12 hbq, box_at pxa5_12 hbq, box_at pxb0_12 hbq, box_at pxb1_12 hbq, box_at pxb2_12 hbq, box_at pxb3_12 hbq, box_at pxb4_12 hbq, box_at pxb5_12 hbq, box_at pxxa0_12 hbq, box_at pxxa1_12 hbq, box_at pxxa2_12 hbq, box_at pxxa3_12 hbq, box_at pxxa4_12 hbq, box_at pxxa5_12 hbq, box_at pxxb0_12 hbq, box_at pxxb1_12 hbq, box_at pxxb2_12 hbq, box_at pxxb3_12 hbq, box_at pxxb4_12 hbq, box_at pxxb5_12 hbq⟩) | (have hbq := keep_b (by assumption) (‹Below w12.heap.size w12 _ ∧ _›).1; exact ⟨hbq, box_at pxa0_12 hbq, box_at pxa1_12 hbq, box_at pxa2_12 hbq, box_at pxa3_12 hbq, box_at pxa4_12 hbq, box_at pxa5_12 hbq, box_at pxb0_12 hbq, box_at pxb1_12 hbq, box_at pxb2_12 hbq, box_at pxb3_12 hbq, box_at pxb4_12 hbq, box_at pxb5_12 hbq, box_at pxxa0_12 hbq, box_at pxxa1_12 hbq, box_at pxxa2_12 hbq, box_at pxxa3_12 hbq, box_at pxxa4_12 hbq, box_at pxxa5_12 hbq, box_at pxxb0_12 hbq, box_at pxxb1_12 hbq, box_at pxxb2_12 hbq, box_at pxxb3_12 hbq, box_at pxxb4_12 hbq, box_at pxxb5_12 hbq⟩) | fail) ((first
          | (go_at_call 16; refine (laws_toHead _ la _ ((kS rHead).rd_below Ha.out (HB12.out.trans ((‹Below w12.heap.size w12 _ ∧ _›).1.mono HB12.out.size))) HZa.out).mono ?_; rintro e wy ⟨yy, rfl, hX, hby⟩; obtain ⟨yy_a3, yy_n3, yy_c3, yy_a4, yy_n4, yy_c4, yy_a5, yy_n5, yy_c5, rfl, hrest⟩ := rdHead.1 ((kS rHead).own_rd hX); clear hrest)
          | (go_at_call 19; refine (laws_eqHead _ _ _ _ _ ((kS rHead).rd_below ((kS rHead).own_rd (Kind.next (K := kS rHead) (Kind.next (K := kS rHead) (Kind.next (K := kS rHead) (Kind.next (K := kS rHead) (Kind.next (K := kS rHead) Oxa.out AJ8.out) AJ9.out) AJ10.out) AJ11.out) AJ12.out)) (keep_b hby (Below.refl _ _).drew)) ((kS rHead).own_rd hX)).mono ?_; rintro e w13 ⟨rfl, hb13⟩; rw [decide_eq_true rfl])
          | fail))
        replace hb13 : Below w12.heap.size w12 w13 := (‹Below w12.heap.size w12 _ ∧ _›).1
        clear hX
        have HB13 := Lib.hid (Below.next HB12.out hb13)
        have hs13 := hb13.size
        have AJ13 := Lib.hid hb13; clear hb13
        have pxa0_13 := box_at BXa0.out HB13.out
        clear pxa0_12
        have pxa1_13 := box_at BXa1.out HB13.out
        clear pxa1_12
        have pxa2_13 := box_at BXa2.out HB13.out
        clear pxa2_12
        have pxa3_13 := box_at BXa3.out HB13.out
        clear pxa3_12
        have pxa4_13 := box_at BXa4.out HB13.out
        clear pxa4_12
        have pxa5_13 := box_at BXa5.out HB13.out
        clear pxa5_12
        have pxb0_13 := box_at BXb0.out HB13.out
        clear pxb0_12
        have pxb1_13 := box_at BXb1.out HB13.out
        clear pxb1_12
        have pxb2_13 := box_at BXb2.out HB13.out
        clear pxb2_12
        have pxb3_13 := box_at BXb3.out HB13.out
        clear pxb3_12
        have pxb4_13 := box_at BXb4.out HB13.out
        clear pxb4_12
        have pxb5_13 := box_at BXb5.out HB13.out
        clear pxb5_12
        have pxxa0_13 := box_at pxxa0_12 AJ13.out
        clear pxxa0_12
        have pxxa1_13 := box_at pxxa1_12 AJ13.out
        clear pxxa1_12
        have pxxa2_13 := box_at pxxa2_12 AJ13.out
        clear pxxa2_12
        have pxxa3_13 := box_at pxxa3_12 AJ13.out
        clear pxxa3_12
        have pxxa4_13 := box_at pxxa4_12 AJ13.out
        clear pxxa4_12
        have pxxa5_13 := box_at pxxa5_12 AJ13.out
        clear pxxa5_12
        have pxxb0_13 := box_at pxxb0_12 AJ13.out
        clear pxxb0_12
        have pxxb1_13 := box_at pxxb1_12 AJ13.out
        clear pxxb1_12
        have pxxb2_13 := box_at pxxb2_12 AJ13.out
        clear pxxb2_12
        have pxxb3_13 := box_at pxxb3_12 AJ13.out
        clear pxxb3_12
        have pxxb4_13 := box_at pxxb4_12 AJ13.out
        clear pxxb4_12
        have pxxb5_13 := box_at pxxb5_12 AJ13.out
        clear pxxb5_12
        go_wp2_with fail
        go_region_held3 (fun w' => Below w13.heap.size w13 w' ∧ w'.cell? ⟨w.heap.size, 0, none⟩ = some (.int .i64 la.author) ∧ w'.cell? ⟨w.heap.size, 1, none⟩ = some (.int .i64 la.size) ∧ w'.cell? ⟨w.heap.size, 2, none⟩ = some (.int .i64 la.root) ∧ w'.cell? ⟨w.heap.size, 3, none⟩ = some (.slice a_a3 a_n3 a_c3) ∧ w'.cell? ⟨w.heap.size, 4, none⟩ = some (.slice a_a4 a_n4 a_c4) ∧ w'.cell? ⟨w.heap.size, 5, none⟩ = some (.slice a_a5 a_n5 a_c5) ∧ w'.cell? ⟨w.heap.size + 1, 0, none⟩ = some (.int .i64 lb.author) ∧ w'.cell? ⟨w.heap.size + 1, 1, none⟩ = some (.int .i64 lb.size) ∧ w'.cell? ⟨w.heap.size + 1, 2, none⟩ = some (.int .i64 lb.root) ∧ w'.cell? ⟨w.heap.size + 1, 3, none⟩ = some (.slice b_a3 b_n3 b_c3) ∧ w'.cell? ⟨w.heap.size + 1, 4, none⟩ = some (.slice b_a4 b_n4 b_c4) ∧ w'.cell? ⟨w.heap.size + 1, 5, none⟩ = some (.slice b_a5 b_n5 b_c5) ∧ w'.cell? ⟨w7.heap.size, 0, none⟩ = some (.int .i64 la.author) ∧ w'.cell? ⟨w7.heap.size, 1, none⟩ = some (.int .i64 la.size) ∧ w'.cell? ⟨w7.heap.size, 2, none⟩ = some (.int .i64 la.root) ∧ w'.cell? ⟨w7.heap.size, 3, none⟩ = some (.slice xa_a3 xa_n3 xa_c3) ∧ w'.cell? ⟨w7.heap.size, 4, none⟩ = some (.slice xa_a4 xa_n4 xa_c4) ∧ w'.cell? ⟨w7.heap.size, 5, none⟩ = some (.slice xa_a5 xa_n5 xa_c5) ∧ w'.cell? ⟨w9.heap.size, 0, none⟩ = some (.int .i64 lb.author) ∧ w'.cell? ⟨w9.heap.size, 1, none⟩ = some (.int .i64 lb.size) ∧ w'.cell? ⟨w9.heap.size, 2, none⟩ = some (.int .i64 lb.root) ∧ w'.cell? ⟨w9.heap.size, 3, none⟩ = some (.slice xb_a3 xb_n3 xb_c3) ∧ w'.cell? ⟨w9.heap.size, 4, none⟩ = some (.slice xb_a4 xb_n4 xb_c4) ∧ w'.cell? ⟨w9.heap.size, 5, none⟩ = some (.slice xb_a5 xb_n5 xb_c5)) (first | (have hbq : Below w13.heap.size w13 _ := (Below.refl _ _).drew; exact ⟨hbq, box_at pxa0_13 hbq, box_at pxa1_13 hbq, box_at pxa2_13 hbq, box_at pxa3_13 hbq, box_at pxa4_13 hbq, box_at pxa5_13 hbq, box_at pxb0_13 hbq, box_at pxb1_13 hbq, box_at pxb2_13 hbq, box_at pxb3_13 hbq, box_at pxb4_13 hbq, box_at pxb5_13 hbq, box_at pxxa0_13 hbq, box_at pxxa1_13 hbq, box_at pxxa2_13 hbq, box_at pxxa3_13 hbq, box_at pxxa4_13 hbq, box_at pxxa5_13 hbq, box_at pxxb0_13 hbq, box_at pxxb1_13 hbq, box_at pxxb2_13 hbq, box_at pxxb3_13 hbq, box_at pxxb4_13 hbq, box_at pxxb5_13 hbq⟩) | (have hbq := keep_b (by assumption) (‹Below w13.heap.size w13 _ ∧ _›).1; exact ⟨hbq, box_at pxa0_13 hbq, box_at pxa1_13 hbq, box_at pxa2_13 hbq, box_at pxa3_13 hbq, box_at pxa4_13 hbq, box_at pxa5_13 hbq, box_at pxb0_13 hbq, box_at pxb1_13 hbq, box_at pxb2_13 hbq, box_at pxb3_13 hbq, box_at pxb4_13 hbq, box_at pxb5_13 hbq, box_at pxxa0_13 hbq, box_at pxxa1_13 hbq, box_at pxxa2_13 hbq, box_at pxxa3_13 hbq, box_at pxxa4_13 hbq, box_at pxxa5_13 hbq, box_at pxxb0_13 hbq, box_at pxxb1_13 hbq, box_at pxxb2_13 hbq, box_at pxxb3_13 hbq, box_at pxxb4_13 hbq, box_at pxxb5_13 hbq⟩) | fail) ((first
          | (go_at_call 16; refine (laws_toHead _ lb _ ((kS rHead).rd_below Hb.out (HB13.out.trans ((‹Below w13.heap.size w13 _ ∧ _›).1.mono HB13.out.size))) HZb.out).mono ?_; rintro e wy ⟨yy, rfl, hX, hby⟩; obtain ⟨yy_a3, yy_n3, yy_c3, yy_a4, yy_n4, yy_c4, yy_a5, yy_n5, yy_c5, rfl, hrest⟩ := rdHead.1 ((kS rHead).own_rd hX); clear hrest)
          | (go_at_call 19; refine (laws_eqHead _ _ _ _ _ ((kS rHead).rd_below ((kS rHead).own_rd (Kind.next (K := kS rHead) (Kind.next (K := kS rHead) (Kind.next (K := kS rHead) (Kind.next (K := kS rHead) Oxb.out AJ10.out) AJ11.out) AJ12.out) AJ13.out)) (keep_b hby (Below.refl _ _).drew)) ((kS rHead).own_rd hX)).mono ?_; rintro e w14 ⟨rfl, hb14⟩; rw [decide_eq_true rfl])
          | fail))
        replace hb14 : Below w13.heap.size w13 w14 := (‹Below w13.heap.size w13 _ ∧ _›).1
        clear hX
        have HB14 := Lib.hid (Below.next HB13.out hb14)
        have hs14 := hb14.size
        have AJ14 := Lib.hid hb14; clear hb14
        have pxa0_14 := box_at BXa0.out HB14.out
        clear pxa0_13
        have pxa1_14 := box_at BXa1.out HB14.out
        clear pxa1_13
        have pxa2_14 := box_at BXa2.out HB14.out
        clear pxa2_13
        have pxa3_14 := box_at BXa3.out HB14.out
        clear pxa3_13
        have pxa4_14 := box_at BXa4.out HB14.out
        clear pxa4_13
        have pxa5_14 := box_at BXa5.out HB14.out
        clear pxa5_13
        have pxb0_14 := box_at BXb0.out HB14.out
        clear pxb0_13
        have pxb1_14 := box_at BXb1.out HB14.out
        clear pxb1_13
        have pxb2_14 := box_at BXb2.out HB14.out
        clear pxb2_13
        have pxb3_14 := box_at BXb3.out HB14.out
        clear pxb3_13
        have pxb4_14 := box_at BXb4.out HB14.out
        clear pxb4_13
        have pxb5_14 := box_at BXb5.out HB14.out
        clear pxb5_13
        have pxxa0_14 := box_at pxxa0_13 AJ14.out
        clear pxxa0_13
        have pxxa1_14 := box_at pxxa1_13 AJ14.out
        clear pxxa1_13
        have pxxa2_14 := box_at pxxa2_13 AJ14.out
        clear pxxa2_13
        have pxxa3_14 := box_at pxxa3_13 AJ14.out
        clear pxxa3_13
        have pxxa4_14 := box_at pxxa4_13 AJ14.out
        clear pxxa4_13
        have pxxa5_14 := box_at pxxa5_13 AJ14.out
        clear pxxa5_13
        have pxxb0_14 := box_at pxxb0_13 AJ14.out
        clear pxxb0_13
        have pxxb1_14 := box_at pxxb1_13 AJ14.out
        clear pxxb1_13
        have pxxb2_14 := box_at pxxb2_13 AJ14.out
        clear pxxb2_13
        have pxxb3_14 := box_at pxxb3_13 AJ14.out
        clear pxxb3_13
        have pxxb4_14 := box_at pxxb4_13 AJ14.out
        clear pxxb4_13
        have pxxb5_14 := box_at pxxb5_13 AJ14.out
        clear pxxb5_13
        go_wp2_with fail
        refine (laws_toIntS _ lp _ (Hp.out.below HB14.out) (by rw [HLp.out]; omega)).mono ?_
        rintro e w15 ⟨yp, rfl, hX, hb15⟩
        have Oyp := Lib.hid (InI.of_own hX); clear hX
        have HB15 := Lib.hid (Below.next HB14.out hb15)
        have hs15 := hb15.size
        have AJ15 := Lib.hid hb15; clear hb15
        have pxa0_15 := box_at BXa0.out HB15.out
        clear pxa0_14
        have pxa1_15 := box_at BXa1.out HB15.out
        clear pxa1_14
        have pxa2_15 := box_at BXa2.out HB15.out
        clear pxa2_14
        have pxa3_15 := box_at BXa3.out HB15.out
        clear pxa3_14
        have pxa4_15 := box_at BXa4.out HB15.out
        clear pxa4_14
        have pxa5_15 := box_at BXa5.out HB15.out
        clear pxa5_14
        have pxb0_15 := box_at BXb0.out HB15.out
        clear pxb0_14
        have pxb1_15 := box_at BXb1.out HB15.out
        clear pxb1_14
        have pxb2_15 := box_at BXb2.out HB15.out
        clear pxb2_14
        have pxb3_15 := box_at BXb3.out HB15.out
        clear pxb3_14
        have pxb4_15 := box_at BXb4.out HB15.out
        clear pxb4_14
        have pxb5_15 := box_at BXb5.out HB15.out
        clear pxb5_14
        have pxxa0_15 := box_at pxxa0_14 AJ15.out
        clear pxxa0_14
        have pxxa1_15 := box_at pxxa1_14 AJ15.out
        clear pxxa1_14
        have pxxa2_15 := box_at pxxa2_14 AJ15.out
        clear pxxa2_14
        have pxxa3_15 := box_at pxxa3_14 AJ15.out
        clear pxxa3_14
        have pxxa4_15 := box_at pxxa4_14 AJ15.out
        clear pxxa4_14
        have pxxa5_15 := box_at pxxa5_14 AJ15.out
        clear pxxa5_14
        have pxxb0_15 := box_at pxxb0_14 AJ15.out
        clear pxxb0_14
        have pxxb1_15 := box_at pxxb1_14 AJ15.out
        clear pxxb1_14
        have pxxb2_15 := box_at pxxb2_14 AJ15.out
        clear pxxb2_14
        have pxxb3_15 := box_at pxxb3_14 AJ15.out
        clear pxxb3_14
        have pxxb4_15 := box_at pxxb4_14 AJ15.out
        clear pxxb4_14
        have pxxb5_15 := box_at pxxb5_14 AJ15.out
        clear pxxb5_14
        go_wp2_with fail
        refine (laws_eqIntS _ _ _ _ _ ((((Oxp.out.next AJ12.out).next AJ13.out).next AJ14.out).next AJ15.out).reads Oyp.out.reads).mono ?_
        rintro e w16 ⟨rfl, m16, hw16⟩
        have hb16 := Below.drewOf hw16; clear hw16
        rw [decide_eq_true rfl]
        have HB16 := Lib.hid (Below.next HB15.out hb16)
        have hs16 := hb16.size
        have AJ16 := Lib.hid hb16; clear hb16
        have pxa0_16 := box_at BXa0.out HB16.out
        clear pxa0_15
        have pxa1_16 := box_at BXa1.out HB16.out
        clear pxa1_15
        have pxa2_16 := box_at BXa2.out HB16.out
        clear pxa2_15
        have pxa3_16 := box_at BXa3.out HB16.out
        clear pxa3_15
        have pxa4_16 := box_at BXa4.out HB16.out
        clear pxa4_15
        have pxa5_16 := box_at BXa5.out HB16.out
        clear pxa5_15
        have pxb0_16 := box_at BXb0.out HB16.out
        clear pxb0_15
        have pxb1_16 := box_at BXb1.out HB16.out
        clear pxb1_15
        have pxb2_16 := box_at BXb2.out HB16.out
        clear pxb2_15
        have pxb3_16 := box_at BXb3.out HB16.out
        clear pxb3_15
        have pxb4_16 := box_at BXb4.out HB16.out
        clear pxb4_15
        have pxb5_16 := box_at BXb5.out HB16.out
        clear pxb5_15
        have pxxa0_16 := box_at pxxa0_15 AJ16.out
        clear pxxa0_15
        have pxxa1_16 := box_at pxxa1_15 AJ16.out
        clear pxxa1_15
        have pxxa2_16 := box_at pxxa2_15 AJ16.out
        clear pxxa2_15
        have pxxa3_16 := box_at pxxa3_15 AJ16.out
        clear pxxa3_15
        have pxxa4_16 := box_at pxxa4_15 AJ16.out
        clear pxxa4_15
        have pxxa5_16 := box_at pxxa5_15 AJ16.out
        clear pxxa5_15
        have pxxb0_16 := box_at pxxb0_15 AJ16.out
        clear pxxb0_15
        have pxxb1_16 := box_at pxxb1_15 AJ16.out
        clear pxxb1_15
        have pxxb2_16 := box_at pxxb2_15 AJ16.out
        clear pxxb2_15
        have pxxb3_16 := box_at pxxb3_15 AJ16.out
        clear pxxb3_15
        have pxxb4_16 := box_at pxxb4_15 AJ16.out
        clear pxxb4_15
        have pxxb5_16 := box_at pxxb5_15 AJ16.out
        clear pxxb5_15
        go_wp2_with fail
        go_ret
        exact ⟨rfl, HWB.out.trans (HB16.out.mono HWB.out.size)⟩
end Go.Proofs.Ytaobocbbaoanhaa

/- The walks of laws, by program (genlaw3.py). -/
import Derived.Test.YtlapmdcjfopbaaaVEntry
import Derived.Test.YtlapmdcjfopbaaaKEntry
import Derived.Test.YtlapmdcjfopbaaaGrpL
namespace Go.Proofs.Ytlapmdcjfopbaaa
open Go.RowKit
set_option linter.unusedSimpArgs false
set_option linter.unusedVariables false

set_option maxRecDepth 100000 in
set_option maxHeartbeats 2000000 in
theorem law_VerifyEntry (gr : GroupD) (key : Int) (t : Int) (a : Value) (la : EntryD) (w : World) (_hkey : I64 key) (_ht : I64 t) (ha : (kS rEntry).rd w a la) :
    Calls Try.prog 14 #[.agg #[.int .i64 gr.p, .int .i64 gr.q, .int .i64 gr.g], .int .i64 key, .int .i64 t, a] w fun e w' => e = .returned (.bool true) ∧ Below w.heap.size w w' := by
  have Jkey := Lib.hid _hkey; clear _hkey
  clear _ht
  obtain ⟨a_a2, a_n2, a_c2, a_a3, a_n3, a_c3, a_a4, a_n4, a_c4, a_a5, a_n5, a_c5, rfl, hresta⟩ := rdEntry.1 ha
  have ha : (kS rEntry).rd w (.agg #[.int .i64 la.kind, .int .i64 la.author, .slice a_a2 a_n2 a_c2, .slice a_a3 a_n3 a_c3, .slice a_a4 a_n4 a_c4, .slice a_a5 a_n5 a_c5]) la := rdEntry.2 ⟨_, _, _, _, _, _, _, _, _, _, _, _, rfl, hresta⟩
  clear hresta
  obtain ⟨W, hW⟩ : ∃ W, W = (w.alloc (.cells #[.int .i64 gr.p, .int .i64 gr.q, .int .i64 gr.g] 101)).alloc (.cells #[.int .i64 la.kind, .int .i64 la.author, .slice a_a2 a_n2 a_c2, .slice a_a3 a_n3 a_c3, .slice a_a4 a_n4 a_c4, .slice a_a5 a_n5 a_c5] 118) := ⟨_, rfl⟩
  have HWB : Hid (Below w.heap.size w W) := by unfold Hid; rw [hW]; (repeat (first | exact Below.refl _ _ | assumption | refine Below.drew ?_ | refine Below.alloc ?_ (by first | (simp; done) | (simp; omega)) _ | refine Below.setCell ?_ (by first | (simp; done) | (simp; omega)) _))
  have BXgr0 : Hid (W.cell? ⟨w.heap.size, 0, none⟩ = some (.int .i64 gr.p)) := by unfold Hid; rw [hW]; simp [go_sem]
  have BXgr1 : Hid (W.cell? ⟨w.heap.size, 1, none⟩ = some (.int .i64 gr.q)) := by unfold Hid; rw [hW]; simp [go_sem]
  have BXgr2 : Hid (W.cell? ⟨w.heap.size, 2, none⟩ = some (.int .i64 gr.g)) := by unfold Hid; rw [hW]; simp [go_sem]
  have BXa0 : Hid (W.cell? ⟨w.heap.size + 1, 0, none⟩ = some (.int .i64 la.kind)) := by unfold Hid; rw [hW]; simp [go_sem]
  have BXa1 : Hid (W.cell? ⟨w.heap.size + 1, 1, none⟩ = some (.int .i64 la.author)) := by unfold Hid; rw [hW]; simp [go_sem]
  have BXa2 : Hid (W.cell? ⟨w.heap.size + 1, 2, none⟩ = some (.slice a_a2 a_n2 a_c2)) := by unfold Hid; rw [hW]; simp [go_sem]
  have BXa3 : Hid (W.cell? ⟨w.heap.size + 1, 3, none⟩ = some (.slice a_a3 a_n3 a_c3)) := by unfold Hid; rw [hW]; simp [go_sem]
  have BXa4 : Hid (W.cell? ⟨w.heap.size + 1, 4, none⟩ = some (.slice a_a4 a_n4 a_c4)) := by unfold Hid; rw [hW]; simp [go_sem]
  have BXa5 : Hid (W.cell? ⟨w.heap.size + 1, 5, none⟩ = some (.slice a_a5 a_n5 a_c5)) := by unfold Hid; rw [hW]; simp [go_sem]
  replace ha := ((kS rEntry).rd_below ha HWB.out)
  have Ha := Lib.hid ha; clear ha
  go_enter Try.func14, Try.ntmps14
  go_wp2_with fail
  rw [← hW]
  clear hW
  have pxgr0_0 := BXgr0.out
  have pxgr1_0 := BXgr1.out
  have pxgr2_0 := BXgr2.out
  have pxa0_0 := BXa0.out
  have pxa1_0 := BXa1.out
  have pxa2_0 := BXa2.out
  have pxa3_0 := BXa3.out
  have pxa4_0 := BXa4.out
  have pxa5_0 := BXa5.out
  refine (laws_szEntry _ la 1048576 _ ((kS rEntry).rd_below Ha.out (Below.refl _ _)) (by decide) (by decide)).mono ?_
  rintro e w1 ⟨⟨r0, rfl, hr0, hsz0⟩, hb1⟩
  replace hsz0 : 0 ≤ r0 → (szEntry la : Int) ≤ 1048576 ∧ r0 ≤ 1048576 := fun h => by have := hsz0 h; omega
  have HB1 := Lib.hid (Below.next (Below.refl _ _) hb1)
  have hs1 := hb1.size
  have AJ1 := Lib.hid hb1; clear hb1
  have pxgr0_1 := box_at BXgr0.out HB1.out
  clear pxgr0_0
  have pxgr1_1 := box_at BXgr1.out HB1.out
  clear pxgr1_0
  have pxgr2_1 := box_at BXgr2.out HB1.out
  clear pxgr2_0
  have pxa0_1 := box_at BXa0.out HB1.out
  clear pxa0_0
  have pxa1_1 := box_at BXa1.out HB1.out
  clear pxa1_0
  have pxa2_1 := box_at BXa2.out HB1.out
  clear pxa2_0
  have pxa3_1 := box_at BXa3.out HB1.out
  clear pxa3_0
  have pxa4_1 := box_at BXa4.out HB1.out
  clear pxa4_0
  have pxa5_1 := box_at BXa5.out HB1.out
  clear pxa5_0
  by_cases hneg0 : r0 < 0
  · go_wp2_with fail
    go_ret
    exact ⟨rfl, HWB.out.trans (HB1.out.mono HWB.out.size)⟩
  · have HZa : Hid ((szEntry la : Int) ≤ 1000000000) := by have := (hsz0 (by omega)).1; unfold Hid; omega
    have hrb0 : r0 ≤ 1048576 := by have := (hsz0 (by omega)).2; omega
    clear hsz0
    go_wp2_with fail
    go_region_held3 (fun w' => Below w1.heap.size w1 w' ∧ w'.cell? ⟨w.heap.size, 0, none⟩ = some (.int .i64 gr.p) ∧ w'.cell? ⟨w.heap.size, 1, none⟩ = some (.int .i64 gr.q) ∧ w'.cell? ⟨w.heap.size, 2, none⟩ = some (.int .i64 gr.g) ∧ w'.cell? ⟨w.heap.size + 1, 0, none⟩ = some (.int .i64 la.kind) ∧ w'.cell? ⟨w.heap.size + 1, 1, none⟩ = some (.int .i64 la.author) ∧ w'.cell? ⟨w.heap.size + 1, 2, none⟩ = some (.slice a_a2 a_n2 a_c2) ∧ w'.cell? ⟨w.heap.size + 1, 3, none⟩ = some (.slice a_a3 a_n3 a_c3) ∧ w'.cell? ⟨w.heap.size + 1, 4, none⟩ = some (.slice a_a4 a_n4 a_c4) ∧ w'.cell? ⟨w.heap.size + 1, 5, none⟩ = some (.slice a_a5 a_n5 a_c5)) (first | (have hbq : Below w1.heap.size w1 _ := (Below.refl _ _).drew; exact ⟨hbq, box_at pxgr0_1 hbq, box_at pxgr1_1 hbq, box_at pxgr2_1 hbq, box_at pxa0_1 hbq, box_at pxa1_1 hbq, box_at pxa2_1 hbq, box_at pxa3_1 hbq, box_at pxa4_1 hbq, box_at pxa5_1 hbq⟩) | (have hbq := keep_b (by assumption) (‹Below w1.heap.size w1 _ ∧ _›).1; exact ⟨hbq, box_at pxgr0_1 hbq, box_at pxgr1_1 hbq, box_at pxgr2_1 hbq, box_at pxa0_1 hbq, box_at pxa1_1 hbq, box_at pxa2_1 hbq, box_at pxa3_1 hbq, box_at pxa4_1 hbq, box_at pxa5_1 hbq⟩) | fail) ((first
      | (go_at_call 74; refine (laws_toGroup gr _).mono ?_; rintro e w2 ⟨rfl, hb2⟩; (have AJ2 := Lib.hid (keep_b hb2 (Below.refl _ _).drew)); (have HB2 := Lib.hid (Below.next HB1.out AJ2.out)); (have hs2 : w1.heap.size ≤ w2.heap.size := AJ2.out.size); (have hbz := hb2))
      | (go_at_call_of 84 (Value.int .i64 la.kind); refine (laws_toEntry _ la _ ((kS rEntry).rd_below Ha.out (HB1.out.trans ((‹Below w1.heap.size w1 _ ∧ _›).1.mono HB1.out.size))) HZa.out).mono ?_; rintro e w3 ⟨sa, rfl, hX, hb3⟩; (have Osa : Hid ((kS rEntry).own w3 w2.heap.size w3.heap.size sa la) := hX); clear hX; obtain ⟨sa_a2, sa_n2, sa_c2, sa_a3, sa_n3, sa_c3, sa_a4, sa_n4, sa_c4, sa_a5, sa_n5, sa_c5, rfl, hrest⟩ := rdEntry.1 ((kS rEntry).own_rd Osa.out); clear hrest; (have AJ3 := Lib.hid hb3); (have HB3 := Lib.hid (Below.next HB2.out AJ3.out)); (have hs3 : w2.heap.size ≤ w3.heap.size := AJ3.out.size); (have hbz := hb3))
      | (go_at_call 83; refine (spec_VerifyEntry gr key t _ la _ Jkey.out HZa.out ((kS rEntry).own_rd Osa.out)).mono ?_; rintro e w4 ⟨rfl, hb4⟩; (have AJ4 := Lib.hid hb4); (have HB4 := Lib.hid (Below.next HB3.out AJ4.out)); (have hs4 : w3.heap.size ≤ w4.heap.size := AJ4.out.size); (have hbz := hb4))
      | fail))
    have hSS := (‹Below w1.heap.size w1 _ ∧ _›)
    clear pxgr0_1
    clear pxgr1_1
    clear pxgr2_1
    clear pxa0_1
    clear pxa1_1
    clear pxa2_1
    clear pxa3_1
    clear pxa4_1
    clear pxa5_1
    obtain ⟨hbS, pxgr0_4, pxgr1_4, pxgr2_4, pxa0_4, pxa1_4, pxa2_4, pxa3_4, pxa4_4, pxa5_4⟩ := hSS
    clear hbS
    clear hbz
    clear hb2
    clear hb3
    clear hb4
    go_wp2_with fail
    refine (laws_toEntry _ la _ ((kS rEntry).rd_below Ha.out HB4.out) HZa.out).mono ?_
    rintro e w5 ⟨xa, rfl, hX, hb5⟩
    have Oxa := Lib.hid (hX); clear hX
    obtain ⟨xa_a2, xa_n2, xa_c2, xa_a3, xa_n3, xa_c3, xa_a4, xa_n4, xa_c4, xa_a5, xa_n5, xa_c5, rfl, hrest⟩ := rdEntry.1 ((kS rEntry).own_rd Oxa.out)
    clear hrest
    have HB5 := Lib.hid (Below.next HB4.out hb5)
    have hs5 := hb5.size
    have AJ5 := Lib.hid hb5; clear hb5
    have pxgr0_5 := box_at BXgr0.out HB5.out
    clear pxgr0_4
    have pxgr1_5 := box_at BXgr1.out HB5.out
    clear pxgr1_4
    have pxgr2_5 := box_at BXgr2.out HB5.out
    clear pxgr2_4
    have pxa0_5 := box_at BXa0.out HB5.out
    clear pxa0_4
    have pxa1_5 := box_at BXa1.out HB5.out
    clear pxa1_4
    have pxa2_5 := box_at BXa2.out HB5.out
    clear pxa2_4
    have pxa3_5 := box_at BXa3.out HB5.out
    clear pxa3_4
    have pxa4_5 := box_at BXa4.out HB5.out
    clear pxa4_4
    have pxa5_5 := box_at BXa5.out HB5.out
    clear pxa5_4
    have zl0 : w.heap.size < w5.heap.size := World.block_lt_of_cell? _ _ pxgr0_5
    have zl1 : w.heap.size + 1 < w5.heap.size := World.block_lt_of_cell? _ _ pxa0_5
    go_wp2_with fail
    clear zl0 zl1
    obtain ⟨w6, hw6⟩ : ∃ u, u = w5.alloc (.cells #[.int .i64 la.kind, .int .i64 la.author, .slice xa_a2 xa_n2 xa_c2, .slice xa_a3 xa_n3 xa_c3, .slice xa_a4 xa_n4 xa_c4, .slice xa_a5 xa_n5 xa_c5] 122) := ⟨_, rfl⟩
    rw [← hw6]
    have hb6 : Below w5.heap.size w5 w6 := by rw [hw6]; exact (Below.refl _ _).alloc (Nat.le_refl _) _
    have hlt6 : w5.heap.size < w6.heap.size := by rw [hw6]; simp
    have pxxa0_6 : w6.cell? ⟨w5.heap.size, 0, none⟩ = some (.int .i64 la.kind) := by rw [hw6]; simp [go_sem]
    have pxxa1_6 : w6.cell? ⟨w5.heap.size, 1, none⟩ = some (.int .i64 la.author) := by rw [hw6]; simp [go_sem]
    have pxxa2_6 : w6.cell? ⟨w5.heap.size, 2, none⟩ = some (.slice xa_a2 xa_n2 xa_c2) := by rw [hw6]; simp [go_sem]
    have pxxa3_6 : w6.cell? ⟨w5.heap.size, 3, none⟩ = some (.slice xa_a3 xa_n3 xa_c3) := by rw [hw6]; simp [go_sem]
    have pxxa4_6 : w6.cell? ⟨w5.heap.size, 4, none⟩ = some (.slice xa_a4 xa_n4 xa_c4) := by rw [hw6]; simp [go_sem]
    have pxxa5_6 : w6.cell? ⟨w5.heap.size, 5, none⟩ = some (.slice xa_a5 xa_n5 xa_c5) := by rw [hw6]; simp [go_sem]
    clear hw6
    have HB6 := Lib.hid (Below.next HB5.out hb6)
    have hs6 := hb6.size
    have AJ6 := Lib.hid hb6; clear hb6
    have pxgr0_6 := box_at BXgr0.out HB6.out
    clear pxgr0_5
    have pxgr1_6 := box_at BXgr1.out HB6.out
    clear pxgr1_5
    have pxgr2_6 := box_at BXgr2.out HB6.out
    clear pxgr2_5
    have pxa0_6 := box_at BXa0.out HB6.out
    clear pxa0_5
    have pxa1_6 := box_at BXa1.out HB6.out
    clear pxa1_5
    have pxa2_6 := box_at BXa2.out HB6.out
    clear pxa2_5
    have pxa3_6 := box_at BXa3.out HB6.out
    clear pxa3_5
    have pxa4_6 := box_at BXa4.out HB6.out
    clear pxa4_5
    have pxa5_6 := box_at BXa5.out HB6.out
    clear pxa5_5
    go_region_held3 (fun w' => Below w6.heap.size w6 w' ∧ w'.cell? ⟨w.heap.size, 0, none⟩ = some (.int .i64 gr.p) ∧ w'.cell? ⟨w.heap.size, 1, none⟩ = some (.int .i64 gr.q) ∧ w'.cell? ⟨w.heap.size, 2, none⟩ = some (.int .i64 gr.g) ∧ w'.cell? ⟨w.heap.size + 1, 0, none⟩ = some (.int .i64 la.kind) ∧ w'.cell? ⟨w.heap.size + 1, 1, none⟩ = some (.int .i64 la.author) ∧ w'.cell? ⟨w.heap.size + 1, 2, none⟩ = some (.slice a_a2 a_n2 a_c2) ∧ w'.cell? ⟨w.heap.size + 1, 3, none⟩ = some (.slice a_a3 a_n3 a_c3) ∧ w'.cell? ⟨w.heap.size + 1, 4, none⟩ = some (.slice a_a4 a_n4 a_c4) ∧ w'.cell? ⟨w.heap.size + 1, 5, none⟩ = some (.slice a_a5 a_n5 a_c5) ∧ w'.cell? ⟨w5.heap.size, 0, none⟩ = some (.int .i64 la.kind) ∧ w'.cell? ⟨w5.heap.size, 1, none⟩ = some (.int .i64 la.author) ∧ w'.cell? ⟨w5.heap.size, 2, none⟩ = some (.slice xa_a2 xa_n2 xa_c2) ∧ w'.cell? ⟨w5.heap.size, 3, none⟩ = some (.slice xa_a3 xa_n3 xa_c3) ∧ w'.cell? ⟨w5.heap.size, 4, none⟩ = some (.slice xa_a4 xa_n4 xa_c4) ∧ w'.cell? ⟨w5.heap.size, 5, none⟩ = some (.slice xa_a5 xa_n5 xa_c5)) (first | (have hbq : Below w6.heap.size w6 _ := (Below.refl _ _).drew; exact ⟨hbq, box_at pxgr0_6 hbq, box_at pxgr1_6 hbq, box_at pxgr2_6 hbq, box_at pxa0_6 hbq, box_at pxa1_6 hbq, box_at pxa2_6 hbq, box_at pxa3_6 hbq, box_at pxa4_6 hbq, box_at pxa5_6 hbq, box_at pxxa0_6 hbq, box_at pxxa1_6 hbq, box_at pxxa2_6 hbq, box_at pxxa3_6 hbq, box_at pxxa4_6 hbq, box_at pxxa5_6 hbq⟩) | (have hbq := keep_b (by assumption) (‹Below w6.heap.size w6 _ ∧ _›).1; exact ⟨hbq, box_at pxgr0_6 hbq, box_at pxgr1_6 hbq, box_at pxgr2_6 hbq, box_at pxa0_6 hbq, box_at pxa1_6 hbq, box_at pxa2_6 hbq, box_at pxa3_6 hbq, box_at pxa4_6 hbq, box_at pxa5_6 hbq, box_at pxxa0_6 hbq, box_at pxxa1_6 hbq, box_at pxxa2_6 hbq, box_at pxxa3_6 hbq, box_at pxxa4_6 hbq, box_at pxxa5_6 hbq⟩) | fail) ((first
      | (go_at_call 74; refine (laws_toGroup gr _).mono ?_; rintro e w7 ⟨rfl, hb7⟩; (have AJ7 := Lib.hid (keep_b hb7 (Below.refl _ _).drew)); (have HB7 := Lib.hid (Below.next HB6.out AJ7.out)); (have hs7 : w6.heap.size ≤ w7.heap.size := AJ7.out.size); (have hbz := hb7))
      | (go_at_call 85; refine (impl_VerifyEntry gr key t _ la _ Jkey.out HZa.out ((kS rEntry).own_rd (Kind.next (K := kS rEntry) (Kind.next (K := kS rEntry) Oxa.out AJ6.out) AJ7.out))).mono ?_; rintro e w8 ⟨rfl, hb8⟩; (have AJ8 := Lib.hid hb8); (have HB8 := Lib.hid (Below.next HB7.out AJ8.out)); (have hs8 : w7.heap.size ≤ w8.heap.size := AJ8.out.size); (have hbz := hb8))
      | fail))
    have hSS := (‹Below w6.heap.size w6 _ ∧ _›)
    clear pxgr0_6
    clear pxgr1_6
    clear pxgr2_6
    clear pxa0_6
    clear pxa1_6
    clear pxa2_6
    clear pxa3_6
    clear pxa4_6
    clear pxa5_6
    clear pxxa0_6
    clear pxxa1_6
    clear pxxa2_6
    clear pxxa3_6
    clear pxxa4_6
    clear pxxa5_6
    obtain ⟨hbS, pxgr0_8, pxgr1_8, pxgr2_8, pxa0_8, pxa1_8, pxa2_8, pxa3_8, pxa4_8, pxa5_8, pxxa0_8, pxxa1_8, pxxa2_8, pxxa3_8, pxxa4_8, pxxa5_8⟩ := hSS
    clear hbS
    clear hbz
    clear hb7
    clear hb8
    go_wp2_with fail
    go_region_held3 (fun w' => Below w8.heap.size w8 w' ∧ w'.cell? ⟨w.heap.size, 0, none⟩ = some (.int .i64 gr.p) ∧ w'.cell? ⟨w.heap.size, 1, none⟩ = some (.int .i64 gr.q) ∧ w'.cell? ⟨w.heap.size, 2, none⟩ = some (.int .i64 gr.g) ∧ w'.cell? ⟨w.heap.size + 1, 0, none⟩ = some (.int .i64 la.kind) ∧ w'.cell? ⟨w.heap.size + 1, 1, none⟩ = some (.int .i64 la.author) ∧ w'.cell? ⟨w.heap.size + 1, 2, none⟩ = some (.slice a_a2 a_n2 a_c2) ∧ w'.cell? ⟨w.heap.size + 1, 3, none⟩ = some (.slice a_a3 a_n3 a_c3) ∧ w'.cell? ⟨w.heap.size + 1, 4, none⟩ = some (.slice a_a4 a_n4 a_c4) ∧ w'.cell? ⟨w.heap.size + 1, 5, none⟩ = some (.slice a_a5 a_n5 a_c5) ∧ w'.cell? ⟨w5.heap.size, 0, none⟩ = some (.int .i64 la.kind) ∧ w'.cell? ⟨w5.heap.size, 1, none⟩ = some (.int .i64 la.author) ∧ w'.cell? ⟨w5.heap.size, 2, none⟩ = some (.slice xa_a2 xa_n2 xa_c2) ∧ w'.cell? ⟨w5.heap.size, 3, none⟩ = some (.slice xa_a3 xa_n3 xa_c3) ∧ w'.cell? ⟨w5.heap.size, 4, none⟩ = some (.slice xa_a4 xa_n4 xa_c4) ∧ w'.cell? ⟨w5.heap.size, 5, none⟩ = some (.slice xa_a5 xa_n5 xa_c5)) (first | (have hbq : Below w8.heap.size w8 _ := (Below.refl _ _).drew; exact ⟨hbq, box_at pxgr0_8 hbq, box_at pxgr1_8 hbq, box_at pxgr2_8 hbq, box_at pxa0_8 hbq, box_at pxa1_8 hbq, box_at pxa2_8 hbq, box_at pxa3_8 hbq, box_at pxa4_8 hbq, box_at pxa5_8 hbq, box_at pxxa0_8 hbq, box_at pxxa1_8 hbq, box_at pxxa2_8 hbq, box_at pxxa3_8 hbq, box_at pxxa4_8 hbq, box_at pxxa5_8 hbq⟩) | (have hbq := keep_b (by assumption) (‹Below w8.heap.size w8 _ ∧ _›).1; exact ⟨hbq, box_at pxgr0_8 hbq, box_at pxgr1_8 hbq, box_at pxgr2_8 hbq, box_at pxa0_8 hbq, box_at pxa1_8 hbq, box_at pxa2_8 hbq, box_at pxa3_8 hbq, box_at pxa4_8 hbq, box_at pxa5_8 hbq, box_at pxxa0_8 hbq, box_at pxxa1_8 hbq, box_at pxxa2_8 hbq, box_at pxxa3_8 hbq, box_at pxxa4_8 hbq, box_at pxxa5_8 hbq⟩) | fail) ((first
      | (go_at_call 84; refine (laws_toEntry _ la _ ((kS rEntry).rd_below Ha.out (HB8.out.trans ((‹Below w8.heap.size w8 _ ∧ _›).1.mono HB8.out.size))) HZa.out).mono ?_; rintro e wy ⟨yy, rfl, hX, hby⟩; obtain ⟨yy_a2, yy_n2, yy_c2, yy_a3, yy_n3, yy_c3, yy_a4, yy_n4, yy_c4, yy_a5, yy_n5, yy_c5, rfl, hrest⟩ := rdEntry.1 ((kS rEntry).own_rd hX); clear hrest)
      | (go_at_call 86; refine (laws_eqEntry _ _ _ _ _ ((kS rEntry).rd_below ((kS rEntry).own_rd (Kind.next (K := kS rEntry) (Kind.next (K := kS rEntry) (Kind.next (K := kS rEntry) Oxa.out AJ6.out) AJ7.out) AJ8.out)) (keep_b hby (Below.refl _ _).drew)) ((kS rEntry).own_rd hX)).mono ?_; rintro e w9 ⟨rfl, hb9⟩; rw [decide_eq_true rfl])
      | fail))
    replace hb9 : Below w8.heap.size w8 w9 := (‹Below w8.heap.size w8 _ ∧ _›).1
    clear hX
    have HB9 := Lib.hid (Below.next HB8.out hb9)
    have hs9 := hb9.size
    have AJ9 := Lib.hid hb9; clear hb9
    have pxgr0_9 := box_at BXgr0.out HB9.out
    clear pxgr0_8
    have pxgr1_9 := box_at BXgr1.out HB9.out
    clear pxgr1_8
    have pxgr2_9 := box_at BXgr2.out HB9.out
    clear pxgr2_8
    have pxa0_9 := box_at BXa0.out HB9.out
    clear pxa0_8
    have pxa1_9 := box_at BXa1.out HB9.out
    clear pxa1_8
    have pxa2_9 := box_at BXa2.out HB9.out
    clear pxa2_8
    have pxa3_9 := box_at BXa3.out HB9.out
    clear pxa3_8
    have pxa4_9 := box_at BXa4.out HB9.out
    clear pxa4_8
    have pxa5_9 := box_at BXa5.out HB9.out
    clear pxa5_8
    have pxxa0_9 := box_at pxxa0_8 AJ9.out
    clear pxxa0_8
    have pxxa1_9 := box_at pxxa1_8 AJ9.out
    clear pxxa1_8
    have pxxa2_9 := box_at pxxa2_8 AJ9.out
    clear pxxa2_8
    have pxxa3_9 := box_at pxxa3_8 AJ9.out
    clear pxxa3_8
    have pxxa4_9 := box_at pxxa4_8 AJ9.out
    clear pxxa4_8
    have pxxa5_9 := box_at pxxa5_8 AJ9.out
    clear pxxa5_8
    go_wp2_with fail
    go_ret
    exact ⟨rfl, HWB.out.trans (HB9.out.mono HWB.out.size)⟩
end Go.Proofs.Ytlapmdcjfopbaaa

/- The walks of laws, by program (genlaw4.py). -/
import Derived.Test.YtapfceghgkmgoaaSign2
import Derived.Test.YtapfceghgkmgoaaGrpL
namespace Go.Proofs.Ytapfceghgkmgoaa
open Go.RowKit
set_option linter.unusedSimpArgs false
set_option linter.unusedVariables false

set_option maxRecDepth 100000 in
set_option maxHeartbeats 2000000 in
theorem law_SignHead (gr : GroupD) (x : Int) (a : Int) (s : Int) (r : Int) (c : Int) (w : World) (_hgr : I64 gr.g) (_hx : I64 x) (_ha : I64 a) (_hs : I64 s) (_hr : I64 r) (_hc : I64 c) :
    Calls Try.prog 9 #[.agg #[.int .i64 gr.p, .int .i64 gr.q, .int .i64 gr.g], .int .i64 x, .int .i64 a, .int .i64 s, .int .i64 r, .int .i64 c] w fun e w' => e = .returned (.bool true) ∧ Below w.heap.size w w' := by
  have Jgr := Lib.hid _hgr; clear _hgr
  have Jx := Lib.hid _hx; clear _hx
  have Ja := Lib.hid _ha; clear _ha
  have Js := Lib.hid _hs; clear _hs
  have Jr := Lib.hid _hr; clear _hr
  have Jc := Lib.hid _hc; clear _hc
  obtain ⟨W, hW⟩ : ∃ W, W = w.alloc (.cells #[.int .i64 gr.p, .int .i64 gr.q, .int .i64 gr.g] 83) := ⟨_, rfl⟩
  have HWB : Hid (Below w.heap.size w W) := by unfold Hid; rw [hW]; (repeat (first | exact Below.refl _ _ | assumption | refine Below.drew ?_ | refine Below.alloc ?_ (by first | (simp; done) | (simp; omega)) _ | refine Below.setCell ?_ (by first | (simp; done) | (simp; omega)) _))
  have BXgr0 : Hid (W.cell? ⟨w.heap.size, 0, none⟩ = some (.int .i64 gr.p)) := by unfold Hid; rw [hW]; simp [go_sem]
  have BXgr1 : Hid (W.cell? ⟨w.heap.size, 1, none⟩ = some (.int .i64 gr.q)) := by unfold Hid; rw [hW]; simp [go_sem]
  have BXgr2 : Hid (W.cell? ⟨w.heap.size, 2, none⟩ = some (.int .i64 gr.g)) := by unfold Hid; rw [hW]; simp [go_sem]
  have LGB0 : Hid (1 + (cnHead ((shD gr x a s r c))) ≤ 9223372036854775806) := by have := cn_shD gr x a s r c; unfold Hid; omega
  obtain ⟨lR0, hR0⟩ : ∃ d, (shD gr x a s r c) = d := ⟨_, rfl⟩
  have HR0 := Lib.hid hR0
  rw [hR0] at LGB0
  clear hR0
  go_enter Try.func9, Try.ntmps9
  go_wp2_with fail
  rw [← hW]
  clear hW
  have pxgr0_0 := BXgr0.out
  have pxgr1_0 := BXgr1.out
  have pxgr2_0 := BXgr2.out
  refine (laws_toGroup gr _).mono ?_
  rintro e w1 ⟨rfl, hb1⟩
  have HB1 := Lib.hid (Below.next (Below.refl _ _) hb1)
  have hs1 := hb1.size
  have AJ1 := Lib.hid hb1; clear hb1
  have pxgr0_1 := box_at BXgr0.out HB1.out
  clear pxgr0_0
  have pxgr1_1 := box_at BXgr1.out HB1.out
  clear pxgr1_0
  have pxgr2_1 := box_at BXgr2.out HB1.out
  clear pxgr2_0
  go_wp2_with fail
  refine (spec_SignHead gr x a s r c _ Jgr.out Jx.out Ja.out Js.out Jr.out Jc.out).mono ?_
  rintro e w2 ⟨want0, rfl, hXwant0, hb2⟩
  rw [HR0.out] at hXwant0
  have Owant0 := Lib.hid hXwant0; clear hXwant0
  obtain ⟨want0_a3, want0_n3, want0_c3, want0_a4, want0_n4, want0_c4, want0_a5, want0_n5, want0_c5, rfl, hrest⟩ := rdHead.1 ((kS rHead).own_rd Owant0.out)
  clear hrest
  have HB2 := Lib.hid (Below.next HB1.out hb2)
  have hs2 := hb2.size
  have AJ2 := Lib.hid hb2; clear hb2
  have pxgr0_2 := box_at BXgr0.out HB2.out
  clear pxgr0_1
  have pxgr1_2 := box_at BXgr1.out HB2.out
  clear pxgr1_1
  have pxgr2_2 := box_at BXgr2.out HB2.out
  clear pxgr2_1
  have zl0 : w.heap.size < w2.heap.size := World.block_lt_of_cell? _ _ pxgr0_2
  go_wp2_with fail
  clear zl0
  obtain ⟨w3, hw3⟩ : ∃ u, u = w2.alloc (.cells #[.int .i64 lR0.author, .int .i64 lR0.size, .int .i64 lR0.root, .slice want0_a3 want0_n3 want0_c3, .slice want0_a4 want0_n4 want0_c4, .slice want0_a5 want0_n5 want0_c5] 85) := ⟨_, rfl⟩
  rw [← hw3]
  have hb3 : Below w2.heap.size w2 w3 := by rw [hw3]; exact (Below.refl _ _).alloc (Nat.le_refl _) _
  have hlt3 : w2.heap.size < w3.heap.size := by rw [hw3]; simp
  have pxwant00_3 : w3.cell? ⟨w2.heap.size, 0, none⟩ = some (.int .i64 lR0.author) := by rw [hw3]; simp [go_sem]
  have pxwant01_3 : w3.cell? ⟨w2.heap.size, 1, none⟩ = some (.int .i64 lR0.size) := by rw [hw3]; simp [go_sem]
  have pxwant02_3 : w3.cell? ⟨w2.heap.size, 2, none⟩ = some (.int .i64 lR0.root) := by rw [hw3]; simp [go_sem]
  have pxwant03_3 : w3.cell? ⟨w2.heap.size, 3, none⟩ = some (.slice want0_a3 want0_n3 want0_c3) := by rw [hw3]; simp [go_sem]
  have pxwant04_3 : w3.cell? ⟨w2.heap.size, 4, none⟩ = some (.slice want0_a4 want0_n4 want0_c4) := by rw [hw3]; simp [go_sem]
  have pxwant05_3 : w3.cell? ⟨w2.heap.size, 5, none⟩ = some (.slice want0_a5 want0_n5 want0_c5) := by rw [hw3]; simp [go_sem]
  clear hw3
  have HB3 := Lib.hid (Below.next HB2.out hb3)
  have hs3 := hb3.size
  have AJ3 := Lib.hid hb3; clear hb3
  have pxgr0_3 := box_at BXgr0.out HB3.out
  clear pxgr0_2
  have pxgr1_3 := box_at BXgr1.out HB3.out
  clear pxgr1_2
  have pxgr2_3 := box_at BXgr2.out HB3.out
  clear pxgr2_2
  refine (laws_toGroup gr _).mono ?_
  rintro e w4 ⟨rfl, hb4⟩
  have HB4 := Lib.hid (Below.next HB3.out hb4)
  have hs4 := hb4.size
  have AJ4 := Lib.hid hb4; clear hb4
  have pxgr0_4 := box_at BXgr0.out HB4.out
  clear pxgr0_3
  have pxgr1_4 := box_at BXgr1.out HB4.out
  clear pxgr1_3
  have pxgr2_4 := box_at BXgr2.out HB4.out
  clear pxgr2_3
  have pxwant00_4 := box_at pxwant00_3 AJ4.out
  clear pxwant00_3
  have pxwant01_4 := box_at pxwant01_3 AJ4.out
  clear pxwant01_3
  have pxwant02_4 := box_at pxwant02_3 AJ4.out
  clear pxwant02_3
  have pxwant03_4 := box_at pxwant03_3 AJ4.out
  clear pxwant03_3
  have pxwant04_4 := box_at pxwant04_3 AJ4.out
  clear pxwant04_3
  have pxwant05_4 := box_at pxwant05_3 AJ4.out
  clear pxwant05_3
  go_wp2_with fail
  refine (impl_SignHead gr x a s r c _ Jgr.out Jx.out Ja.out Js.out Jr.out Jc.out).mono ?_
  rintro e w5 ⟨got0, rfl, hXgot0, hb5⟩
  rw [HR0.out] at hXgot0
  have Ogot0 := Lib.hid hXgot0; clear hXgot0
  obtain ⟨got0_a3, got0_n3, got0_c3, got0_a4, got0_n4, got0_c4, got0_a5, got0_n5, got0_c5, rfl, hrest⟩ := rdHead.1 ((kS rHead).own_rd Ogot0.out)
  clear hrest
  have HB5 := Lib.hid (Below.next HB4.out hb5)
  have hs5 := hb5.size
  have AJ5 := Lib.hid hb5; clear hb5
  have pxgr0_5 := box_at BXgr0.out HB5.out
  clear pxgr0_4
  have pxgr1_5 := box_at BXgr1.out HB5.out
  clear pxgr1_4
  have pxgr2_5 := box_at BXgr2.out HB5.out
  clear pxgr2_4
  have pxwant00_5 := box_at pxwant00_4 AJ5.out
  clear pxwant00_4
  have pxwant01_5 := box_at pxwant01_4 AJ5.out
  clear pxwant01_4
  have pxwant02_5 := box_at pxwant02_4 AJ5.out
  clear pxwant02_4
  have pxwant03_5 := box_at pxwant03_4 AJ5.out
  clear pxwant03_4
  have pxwant04_5 := box_at pxwant04_4 AJ5.out
  clear pxwant04_4
  have pxwant05_5 := box_at pxwant05_4 AJ5.out
  clear pxwant05_4
  have zl0 : w.heap.size < w5.heap.size := World.block_lt_of_cell? _ _ pxgr0_5
  have zl1 : w2.heap.size < w5.heap.size := World.block_lt_of_cell? _ _ pxwant00_5
  go_wp2_with fail
  clear zl0 zl1
  obtain ⟨w6, hw6⟩ : ∃ u, u = w5.alloc (.cells #[.int .i64 lR0.author, .int .i64 lR0.size, .int .i64 lR0.root, .slice got0_a3 got0_n3 got0_c3, .slice got0_a4 got0_n4 got0_c4, .slice got0_a5 got0_n5 got0_c5] 85) := ⟨_, rfl⟩
  rw [← hw6]
  have hb6 : Below w5.heap.size w5 w6 := by rw [hw6]; exact (Below.refl _ _).alloc (Nat.le_refl _) _
  have hlt6 : w5.heap.size < w6.heap.size := by rw [hw6]; simp
  have pxgot00_6 : w6.cell? ⟨w5.heap.size, 0, none⟩ = some (.int .i64 lR0.author) := by rw [hw6]; simp [go_sem]
  have pxgot01_6 : w6.cell? ⟨w5.heap.size, 1, none⟩ = some (.int .i64 lR0.size) := by rw [hw6]; simp [go_sem]
  have pxgot02_6 : w6.cell? ⟨w5.heap.size, 2, none⟩ = some (.int .i64 lR0.root) := by rw [hw6]; simp [go_sem]
  have pxgot03_6 : w6.cell? ⟨w5.heap.size, 3, none⟩ = some (.slice got0_a3 got0_n3 got0_c3) := by rw [hw6]; simp [go_sem]
  have pxgot04_6 : w6.cell? ⟨w5.heap.size, 4, none⟩ = some (.slice got0_a4 got0_n4 got0_c4) := by rw [hw6]; simp [go_sem]
  have pxgot05_6 : w6.cell? ⟨w5.heap.size, 5, none⟩ = some (.slice got0_a5 got0_n5 got0_c5) := by rw [hw6]; simp [go_sem]
  clear hw6
  have HB6 := Lib.hid (Below.next HB5.out hb6)
  have hs6 := hb6.size
  have AJ6 := Lib.hid hb6; clear hb6
  have pxgr0_6 := box_at BXgr0.out HB6.out
  clear pxgr0_5
  have pxgr1_6 := box_at BXgr1.out HB6.out
  clear pxgr1_5
  have pxgr2_6 := box_at BXgr2.out HB6.out
  clear pxgr2_5
  have pxwant00_6 := box_at pxwant00_5 AJ6.out
  clear pxwant00_5
  have pxwant01_6 := box_at pxwant01_5 AJ6.out
  clear pxwant01_5
  have pxwant02_6 := box_at pxwant02_5 AJ6.out
  clear pxwant02_5
  have pxwant03_6 := box_at pxwant03_5 AJ6.out
  clear pxwant03_5
  have pxwant04_6 := box_at pxwant04_5 AJ6.out
  clear pxwant04_5
  have pxwant05_6 := box_at pxwant05_5 AJ6.out
  clear pxwant05_5
  refine (laws_eqHead _ _ _ _ _ ((kS rHead).own_rd (Kind.next (K := kS rHead) Ogot0.out AJ6.out)) ((kS rHead).own_rd (Kind.next (K := kS rHead) (Kind.next (K := kS rHead) (Kind.next (K := kS rHead) (Kind.next (K := kS rHead) Owant0.out AJ3.out) AJ4.out) AJ5.out) AJ6.out))).mono ?_
  rintro e w7 ⟨rfl, hb7⟩
  rw [decide_eq_true rfl]
  have HB7 := Lib.hid (Below.next HB6.out hb7)
  have hs7 := hb7.size
  have AJ7 := Lib.hid hb7; clear hb7
  have pxgr0_7 := box_at BXgr0.out HB7.out
  clear pxgr0_6
  have pxgr1_7 := box_at BXgr1.out HB7.out
  clear pxgr1_6
  have pxgr2_7 := box_at BXgr2.out HB7.out
  clear pxgr2_6
  have pxwant00_7 := box_at pxwant00_6 AJ7.out
  clear pxwant00_6
  have pxwant01_7 := box_at pxwant01_6 AJ7.out
  clear pxwant01_6
  have pxwant02_7 := box_at pxwant02_6 AJ7.out
  clear pxwant02_6
  have pxwant03_7 := box_at pxwant03_6 AJ7.out
  clear pxwant03_6
  have pxwant04_7 := box_at pxwant04_6 AJ7.out
  clear pxwant04_6
  have pxwant05_7 := box_at pxwant05_6 AJ7.out
  clear pxwant05_6
  have pxgot00_7 := box_at pxgot00_6 AJ7.out
  clear pxgot00_6
  have pxgot01_7 := box_at pxgot01_6 AJ7.out
  clear pxgot01_6
  have pxgot02_7 := box_at pxgot02_6 AJ7.out
  clear pxgot02_6
  have pxgot03_7 := box_at pxgot03_6 AJ7.out
  clear pxgot03_6
  have pxgot04_7 := box_at pxgot04_6 AJ7.out
  clear pxgot04_6
  have pxgot05_7 := box_at pxgot05_6 AJ7.out
  clear pxgot05_6
  have LG0 : Hid (1 + (cnHead (lR0)) ≤ 9223372036854775806) := LGB0
  go_wp2_with fail
  refine (laws_markHead _ _ _ 1 _ _ (Kind.next (K := kS rHead) (Kind.next (K := kS rHead) Ogot0.out AJ6.out) AJ7.out) (by exact LG0.out) (by omega)).mono ?_
  rintro e w8 ⟨rfl, hX, hG8⟩
  have Ogot0m := Lib.hid hX; clear hX
  have hs8 := hG8.size
  have HB8 := Lib.hid (HB7.out.trans (hG8.below (B := W.heap.size) (by omega) (by omega)))
  have HG8 := Lib.hid hG8; clear hG8
  have pxgr0_8 := box_at BXgr0.out HB8.out
  clear pxgr0_7
  have pxgr1_8 := box_at BXgr1.out HB8.out
  clear pxgr1_7
  have pxgr2_8 := box_at BXgr2.out HB8.out
  clear pxgr2_7
  have pxwant00_8 := within_at HG8.out pxwant00_7 (by omega)
  clear pxwant00_7
  have pxwant01_8 := within_at HG8.out pxwant01_7 (by omega)
  clear pxwant01_7
  have pxwant02_8 := within_at HG8.out pxwant02_7 (by omega)
  clear pxwant02_7
  have pxwant03_8 := within_at HG8.out pxwant03_7 (by omega)
  clear pxwant03_7
  have pxwant04_8 := within_at HG8.out pxwant04_7 (by omega)
  clear pxwant04_7
  have pxwant05_8 := within_at HG8.out pxwant05_7 (by omega)
  clear pxwant05_7
  have pxgot00_8 := within_at HG8.out pxgot00_7 (by omega)
  clear pxgot00_7
  have pxgot01_8 := within_at HG8.out pxgot01_7 (by omega)
  clear pxgot01_7
  have pxgot02_8 := within_at HG8.out pxgot02_7 (by omega)
  clear pxgot02_7
  have pxgot03_8 := within_at HG8.out pxgot03_7 (by omega)
  clear pxgot03_7
  have pxgot04_8 := within_at HG8.out pxgot04_7 (by omega)
  clear pxgot04_7
  have pxgot05_8 := within_at HG8.out pxgot05_7 (by omega)
  clear pxgot05_7
  go_wp2_with fail
  refine (laws_heldHead _ 1 _ _ ((kS rHead).own_rd Ogot0m.out) (by exact LG0.out)).mono ?_
  rintro e w9 ⟨rfl, hb9⟩
  have HB9 := Lib.hid (Below.next HB8.out hb9)
  have hs9 := hb9.size
  have AJ9 := Lib.hid hb9; clear hb9
  have pxgr0_9 := box_at BXgr0.out HB9.out
  clear pxgr0_8
  have pxgr1_9 := box_at BXgr1.out HB9.out
  clear pxgr1_8
  have pxgr2_9 := box_at BXgr2.out HB9.out
  clear pxgr2_8
  have pxwant00_9 := box_at pxwant00_8 AJ9.out
  clear pxwant00_8
  have pxwant01_9 := box_at pxwant01_8 AJ9.out
  clear pxwant01_8
  have pxwant02_9 := box_at pxwant02_8 AJ9.out
  clear pxwant02_8
  have pxwant03_9 := box_at pxwant03_8 AJ9.out
  clear pxwant03_8
  have pxwant04_9 := box_at pxwant04_8 AJ9.out
  clear pxwant04_8
  have pxwant05_9 := box_at pxwant05_8 AJ9.out
  clear pxwant05_8
  have pxgot00_9 := box_at pxgot00_8 AJ9.out
  clear pxgot00_8
  have pxgot01_9 := box_at pxgot01_8 AJ9.out
  clear pxgot01_8
  have pxgot02_9 := box_at pxgot02_8 AJ9.out
  clear pxgot02_8
  have pxgot03_9 := box_at pxgot03_8 AJ9.out
  clear pxgot03_8
  have pxgot04_9 := box_at pxgot04_8 AJ9.out
  clear pxgot04_8
  have pxgot05_9 := box_at pxgot05_8 AJ9.out
  clear pxgot05_8
  go_wp2_with fail
  refine (laws_toGroup gr _).mono ?_
  rintro e w10 ⟨rfl, hb10⟩
  have HB10 := Lib.hid (Below.next HB9.out hb10)
  have hs10 := hb10.size
  have AJ10 := Lib.hid hb10; clear hb10
  have pxgr0_10 := box_at BXgr0.out HB10.out
  clear pxgr0_9
  have pxgr1_10 := box_at BXgr1.out HB10.out
  clear pxgr1_9
  have pxgr2_10 := box_at BXgr2.out HB10.out
  clear pxgr2_9
  have pxwant00_10 := box_at pxwant00_9 AJ10.out
  clear pxwant00_9
  have pxwant01_10 := box_at pxwant01_9 AJ10.out
  clear pxwant01_9
  have pxwant02_10 := box_at pxwant02_9 AJ10.out
  clear pxwant02_9
  have pxwant03_10 := box_at pxwant03_9 AJ10.out
  clear pxwant03_9
  have pxwant04_10 := box_at pxwant04_9 AJ10.out
  clear pxwant04_9
  have pxwant05_10 := box_at pxwant05_9 AJ10.out
  clear pxwant05_9
  have pxgot00_10 := box_at pxgot00_9 AJ10.out
  clear pxgot00_9
  have pxgot01_10 := box_at pxgot01_9 AJ10.out
  clear pxgot01_9
  have pxgot02_10 := box_at pxgot02_9 AJ10.out
  clear pxgot02_9
  have pxgot03_10 := box_at pxgot03_9 AJ10.out
  clear pxgot03_9
  have pxgot04_10 := box_at pxgot04_9 AJ10.out
  clear pxgot04_9
  have pxgot05_10 := box_at pxgot05_9 AJ10.out
  clear pxgot05_9
  go_wp2_with fail
  refine (impl_SignHead gr x a s r c _ Jgr.out Jx.out Ja.out Js.out Jr.out Jc.out).mono ?_
  rintro e w11 ⟨again0, rfl, hXagain0, hb11⟩
  rw [HR0.out] at hXagain0
  have Oagain0 := Lib.hid hXagain0; clear hXagain0
  obtain ⟨again0_a3, again0_n3, again0_c3, again0_a4, again0_n4, again0_c4, again0_a5, again0_n5, again0_c5, rfl, hrest⟩ := rdHead.1 ((kS rHead).own_rd Oagain0.out)
  clear hrest
  have HB11 := Lib.hid (Below.next HB10.out hb11)
  have hs11 := hb11.size
  have AJ11 := Lib.hid hb11; clear hb11
  have pxgr0_11 := box_at BXgr0.out HB11.out
  clear pxgr0_10
  have pxgr1_11 := box_at BXgr1.out HB11.out
  clear pxgr1_10
  have pxgr2_11 := box_at BXgr2.out HB11.out
  clear pxgr2_10
  have pxwant00_11 := box_at pxwant00_10 AJ11.out
  clear pxwant00_10
  have pxwant01_11 := box_at pxwant01_10 AJ11.out
  clear pxwant01_10
  have pxwant02_11 := box_at pxwant02_10 AJ11.out
  clear pxwant02_10
  have pxwant03_11 := box_at pxwant03_10 AJ11.out
  clear pxwant03_10
  have pxwant04_11 := box_at pxwant04_10 AJ11.out
  clear pxwant04_10
  have pxwant05_11 := box_at pxwant05_10 AJ11.out
  clear pxwant05_10
  have pxgot00_11 := box_at pxgot00_10 AJ11.out
  clear pxgot00_10
  have pxgot01_11 := box_at pxgot01_10 AJ11.out
  clear pxgot01_10
  have pxgot02_11 := box_at pxgot02_10 AJ11.out
  clear pxgot02_10
  have pxgot03_11 := box_at pxgot03_10 AJ11.out
  clear pxgot03_10
  have pxgot04_11 := box_at pxgot04_10 AJ11.out
  clear pxgot04_10
  have pxgot05_11 := box_at pxgot05_10 AJ11.out
  clear pxgot05_10
  have zl0 : w.heap.size < w11.heap.size := World.block_lt_of_cell? _ _ pxgr0_11
  have zl1 : w2.heap.size < w11.heap.size := World.block_lt_of_cell? _ _ pxwant00_11
  have zl2 : w5.heap.size < w11.heap.size := World.block_lt_of_cell? _ _ pxgot00_11
  go_wp2_with fail
  clear zl0 zl1 zl2
  obtain ⟨w12, hw12⟩ : ∃ u, u = w11.alloc (.cells #[.int .i64 lR0.author, .int .i64 lR0.size, .int .i64 lR0.root, .slice again0_a3 again0_n3 again0_c3, .slice again0_a4 again0_n4 again0_c4, .slice again0_a5 again0_n5 again0_c5] 85) := ⟨_, rfl⟩
  rw [← hw12]
  have hb12 : Below w11.heap.size w11 w12 := by rw [hw12]; exact (Below.refl _ _).alloc (Nat.le_refl _) _
  have hlt12 : w11.heap.size < w12.heap.size := by rw [hw12]; simp
  have pxagain00_12 : w12.cell? ⟨w11.heap.size, 0, none⟩ = some (.int .i64 lR0.author) := by rw [hw12]; simp [go_sem]
  have pxagain01_12 : w12.cell? ⟨w11.heap.size, 1, none⟩ = some (.int .i64 lR0.size) := by rw [hw12]; simp [go_sem]
  have pxagain02_12 : w12.cell? ⟨w11.heap.size, 2, none⟩ = some (.int .i64 lR0.root) := by rw [hw12]; simp [go_sem]
  have pxagain03_12 : w12.cell? ⟨w11.heap.size, 3, none⟩ = some (.slice again0_a3 again0_n3 again0_c3) := by rw [hw12]; simp [go_sem]
  have pxagain04_12 : w12.cell? ⟨w11.heap.size, 4, none⟩ = some (.slice again0_a4 again0_n4 again0_c4) := by rw [hw12]; simp [go_sem]
  have pxagain05_12 : w12.cell? ⟨w11.heap.size, 5, none⟩ = some (.slice again0_a5 again0_n5 again0_c5) := by rw [hw12]; simp [go_sem]
  clear hw12
  have HB12 := Lib.hid (Below.next HB11.out hb12)
  have hs12 := hb12.size
  have AJ12 := Lib.hid hb12; clear hb12
  have pxgr0_12 := box_at BXgr0.out HB12.out
  clear pxgr0_11
  have pxgr1_12 := box_at BXgr1.out HB12.out
  clear pxgr1_11
  have pxgr2_12 := box_at BXgr2.out HB12.out
  clear pxgr2_11
  have pxwant00_12 := box_at pxwant00_11 AJ12.out
  clear pxwant00_11
  have pxwant01_12 := box_at pxwant01_11 AJ12.out
  clear pxwant01_11
  have pxwant02_12 := box_at pxwant02_11 AJ12.out
  clear pxwant02_11
  have pxwant03_12 := box_at pxwant03_11 AJ12.out
  clear pxwant03_11
  have pxwant04_12 := box_at pxwant04_11 AJ12.out
  clear pxwant04_11
  have pxwant05_12 := box_at pxwant05_11 AJ12.out
  clear pxwant05_11
  have pxgot00_12 := box_at pxgot00_11 AJ12.out
  clear pxgot00_11
  have pxgot01_12 := box_at pxgot01_11 AJ12.out
  clear pxgot01_11
  have pxgot02_12 := box_at pxgot02_11 AJ12.out
  clear pxgot02_11
  have pxgot03_12 := box_at pxgot03_11 AJ12.out
  clear pxgot03_11
  have pxgot04_12 := box_at pxgot04_11 AJ12.out
  clear pxgot04_11
  have pxgot05_12 := box_at pxgot05_11 AJ12.out
  clear pxgot05_11
  refine (laws_eqHead _ _ _ _ _ ((kS rHead).own_rd (Kind.next (K := kS rHead) Oagain0.out AJ12.out)) ((kS rHead).own_rd (Kind.next (K := kS rHead) (Kind.next (K := kS rHead) (Kind.next (K := kS rHead) (Kind.next (K := kS rHead) (Kind.kept (K := kS rHead) (Kind.next (K := kS rHead) (Kind.next (K := kS rHead) (Kind.next (K := kS rHead) (Kind.next (K := kS rHead) (Kind.next (K := kS rHead) Owant0.out AJ3.out) AJ4.out) AJ5.out) AJ6.out) AJ7.out) HG8.out (.inl (by omega))) AJ9.out) AJ10.out) AJ11.out) AJ12.out))).mono ?_
  rintro e w13 ⟨rfl, hb13⟩
  rw [decide_eq_true rfl]
  have HB13 := Lib.hid (Below.next HB12.out hb13)
  have hs13 := hb13.size
  have AJ13 := Lib.hid hb13; clear hb13
  have pxgr0_13 := box_at BXgr0.out HB13.out
  clear pxgr0_12
  have pxgr1_13 := box_at BXgr1.out HB13.out
  clear pxgr1_12
  have pxgr2_13 := box_at BXgr2.out HB13.out
  clear pxgr2_12
  have pxwant00_13 := box_at pxwant00_12 AJ13.out
  clear pxwant00_12
  have pxwant01_13 := box_at pxwant01_12 AJ13.out
  clear pxwant01_12
  have pxwant02_13 := box_at pxwant02_12 AJ13.out
  clear pxwant02_12
  have pxwant03_13 := box_at pxwant03_12 AJ13.out
  clear pxwant03_12
  have pxwant04_13 := box_at pxwant04_12 AJ13.out
  clear pxwant04_12
  have pxwant05_13 := box_at pxwant05_12 AJ13.out
  clear pxwant05_12
  have pxgot00_13 := box_at pxgot00_12 AJ13.out
  clear pxgot00_12
  have pxgot01_13 := box_at pxgot01_12 AJ13.out
  clear pxgot01_12
  have pxgot02_13 := box_at pxgot02_12 AJ13.out
  clear pxgot02_12
  have pxgot03_13 := box_at pxgot03_12 AJ13.out
  clear pxgot03_12
  have pxgot04_13 := box_at pxgot04_12 AJ13.out
  clear pxgot04_12
  have pxgot05_13 := box_at pxgot05_12 AJ13.out
  clear pxgot05_12
  have pxagain00_13 := box_at pxagain00_12 AJ13.out
  clear pxagain00_12
  have pxagain01_13 := box_at pxagain01_12 AJ13.out
  clear pxagain01_12
  have pxagain02_13 := box_at pxagain02_12 AJ13.out
  clear pxagain02_12
  have pxagain03_13 := box_at pxagain03_12 AJ13.out
  clear pxagain03_12
  have pxagain04_13 := box_at pxagain04_12 AJ13.out
  clear pxagain04_12
  have pxagain05_13 := box_at pxagain05_12 AJ13.out
  clear pxagain05_12
  go_wp2_with fail
  refine (laws_heldHead _ 1 _ _ ((kS rHead).own_rd (Kind.next (K := kS rHead) (Kind.next (K := kS rHead) (Kind.next (K := kS rHead) (Kind.next (K := kS rHead) (Kind.next (K := kS rHead) Ogot0m.out AJ9.out) AJ10.out) AJ11.out) AJ12.out) AJ13.out)) (by exact LG0.out)).mono ?_
  rintro e w14 ⟨rfl, hb14⟩
  have HB14 := Lib.hid (Below.next HB13.out hb14)
  have hs14 := hb14.size
  have AJ14 := Lib.hid hb14; clear hb14
  have pxgr0_14 := box_at BXgr0.out HB14.out
  clear pxgr0_13
  have pxgr1_14 := box_at BXgr1.out HB14.out
  clear pxgr1_13
  have pxgr2_14 := box_at BXgr2.out HB14.out
  clear pxgr2_13
  have pxwant00_14 := box_at pxwant00_13 AJ14.out
  clear pxwant00_13
  have pxwant01_14 := box_at pxwant01_13 AJ14.out
  clear pxwant01_13
  have pxwant02_14 := box_at pxwant02_13 AJ14.out
  clear pxwant02_13
  have pxwant03_14 := box_at pxwant03_13 AJ14.out
  clear pxwant03_13
  have pxwant04_14 := box_at pxwant04_13 AJ14.out
  clear pxwant04_13
  have pxwant05_14 := box_at pxwant05_13 AJ14.out
  clear pxwant05_13
  have pxgot00_14 := box_at pxgot00_13 AJ14.out
  clear pxgot00_13
  have pxgot01_14 := box_at pxgot01_13 AJ14.out
  clear pxgot01_13
  have pxgot02_14 := box_at pxgot02_13 AJ14.out
  clear pxgot02_13
  have pxgot03_14 := box_at pxgot03_13 AJ14.out
  clear pxgot03_13
  have pxgot04_14 := box_at pxgot04_13 AJ14.out
  clear pxgot04_13
  have pxgot05_14 := box_at pxgot05_13 AJ14.out
  clear pxgot05_13
  have pxagain00_14 := box_at pxagain00_13 AJ14.out
  clear pxagain00_13
  have pxagain01_14 := box_at pxagain01_13 AJ14.out
  clear pxagain01_13
  have pxagain02_14 := box_at pxagain02_13 AJ14.out
  clear pxagain02_13
  have pxagain03_14 := box_at pxagain03_13 AJ14.out
  clear pxagain03_13
  have pxagain04_14 := box_at pxagain04_13 AJ14.out
  clear pxagain04_13
  have pxagain05_14 := box_at pxagain05_13 AJ14.out
  clear pxagain05_13
  go_wp2_with fail
  go_ret
  exact ⟨rfl, HWB.out.trans (HB14.out.mono HWB.out.size)⟩
end Go.Proofs.Ytapfceghgkmgoaa

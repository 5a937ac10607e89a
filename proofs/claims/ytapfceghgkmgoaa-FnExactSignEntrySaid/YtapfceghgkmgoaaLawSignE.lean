/- The walks of laws, by program (genlaw4.py). -/
import Derived.Test.YtapfceghgkmgoaaSign4
import Derived.Test.YtapfceghgkmgoaaGrpL
namespace Go.Proofs.Ytapfceghgkmgoaa
open Go.RowKit
set_option linter.unusedSimpArgs false
set_option linter.unusedVariables false

set_option maxRecDepth 100000 in
set_option maxHeartbeats 2000000 in
theorem law_SignEntry (gr : GroupD) (x : Int) (k : Int) (a : Int) (t : Int) (d : Value) (ld : List Int) (c : Int) (w : World) (_hgr : I64 gr.g) (_hx : I64 x) (_hk : I64 k) (_ha : I64 a) (_ht : I64 t) (hd : Ints w d ld) (_hc : I64 c) :
    Calls Try.prog 10 #[.agg #[.int .i64 gr.p, .int .i64 gr.q, .int .i64 gr.g], .int .i64 x, .int .i64 k, .int .i64 a, .int .i64 t, d, .int .i64 c] w fun e w' => e = .returned (.bool true) ∧ Below w.heap.size w w' := by
  have Jgr := Lib.hid _hgr; clear _hgr
  have Jx := Lib.hid _hx; clear _hx
  have Jk := Lib.hid _hk; clear _hk
  have Ja := Lib.hid _ha; clear _ha
  have Jt := Lib.hid _ht; clear _ht
  have Jc := Lib.hid _hc; clear _hc
  obtain ⟨W, hW⟩ : ∃ W, W = w.alloc (.cells #[.int .i64 gr.p, .int .i64 gr.q, .int .i64 gr.g] 83) := ⟨_, rfl⟩
  have HWB : Hid (Below w.heap.size w W) := by unfold Hid; rw [hW]; (repeat (first | exact Below.refl _ _ | assumption | refine Below.drew ?_ | refine Below.alloc ?_ (by first | (simp; done) | (simp; omega)) _ | refine Below.setCell ?_ (by first | (simp; done) | (simp; omega)) _))
  have BXgr0 : Hid (W.cell? ⟨w.heap.size, 0, none⟩ = some (.int .i64 gr.p)) := by unfold Hid; rw [hW]; simp [go_sem]
  have BXgr1 : Hid (W.cell? ⟨w.heap.size, 1, none⟩ = some (.int .i64 gr.q)) := by unfold Hid; rw [hW]; simp [go_sem]
  have BXgr2 : Hid (W.cell? ⟨w.heap.size, 2, none⟩ = some (.int .i64 gr.g)) := by unfold Hid; rw [hW]; simp [go_sem]
  replace hd := (hd.below HWB.out)
  obtain ⟨add, nd, cd, rfl⟩ := hd.shape
  have HLd := Lib.hid hd.len
  have Hd := Lib.hid hd; clear hd
  by_cases hnd : 1048576 < (nd : Int)
  · go_enter Try.func10, Try.ntmps10
    go_wp2_with fail
    go_ret
    exact ⟨rfl, by (repeat (first | exact Below.refl _ _ | assumption | refine Below.drew ?_ | refine Below.alloc ?_ (by first | (simp; done) | (simp; omega)) _ | refine Below.setCell ?_ (by first | (simp; done) | (simp; omega)) _))⟩
  · skip
    have LGB0 : Hid (1 + (cnEntry ((seD gr x k a t ld c))) ≤ 9223372036854775806) := by have := cn_seD gr x k a t ld c; unfold Hid; omega
    obtain ⟨lR0, hR0⟩ : ∃ d, (seD gr x k a t ld c) = d := ⟨_, rfl⟩
    have HR0 := Lib.hid hR0
    rw [hR0] at LGB0
    clear hR0
    go_enter Try.func10, Try.ntmps10
    go_wp2_with fail
    rw [← hW]
    clear hW
    have pxgr0_0 := BXgr0.out
    have pxgr1_0 := BXgr1.out
    have pxgr2_0 := BXgr2.out
    refine (laws_toGroup gr _).mono ?_
    rintro e w1 ⟨rfl, hb1⟩
    have HB1 := Lib.hid (Below.next (Below.refl _ _) hb1)
    have hs1 := hb1.size
    have AJ1 := Lib.hid hb1; clear hb1
    have pxgr0_1 := box_at BXgr0.out HB1.out
    clear pxgr0_0
    have pxgr1_1 := box_at BXgr1.out HB1.out
    clear pxgr1_0
    have pxgr2_1 := box_at BXgr2.out HB1.out
    clear pxgr2_0
    go_wp2_with fail
    refine (laws_toIntS _ ld _ (Hd.out.below HB1.out) (by rw [HLd.out]; omega)).mono ?_
    rintro e w2 ⟨sd, rfl, hX, hb2⟩
    have Osd := Lib.hid (InI.of_own hX); clear hX
    have HB2 := Lib.hid (Below.next HB1.out hb2)
    have hs2 := hb2.size
    have AJ2 := Lib.hid hb2; clear hb2
    have pxgr0_2 := box_at BXgr0.out HB2.out
    clear pxgr0_1
    have pxgr1_2 := box_at BXgr1.out HB2.out
    clear pxgr1_1
    have pxgr2_2 := box_at BXgr2.out HB2.out
    clear pxgr2_1
    go_wp2_with fail
    refine (spec_SignEntry gr x k a t _ ld c _ Jgr.out Jx.out Jk.out Ja.out Jt.out Osd.out.reads Jc.out).mono ?_
    rintro e w3 ⟨want0, rfl, hXwant0, hb3⟩
    rw [HR0.out] at hXwant0
    have Owant0 := Lib.hid hXwant0; clear hXwant0
    obtain ⟨want0_a2, want0_n2, want0_c2, want0_a3, want0_n3, want0_c3, want0_a4, want0_n4, want0_c4, want0_a5, want0_n5, want0_c5, rfl, hrest⟩ := rdEntry.1 ((kS rEntry).own_rd Owant0.out)
    clear hrest
    have HB3 := Lib.hid (Below.next HB2.out hb3)
    have hs3 := hb3.size
    have AJ3 := Lib.hid hb3; clear hb3
    have pxgr0_3 := box_at BXgr0.out HB3.out
    clear pxgr0_2
    have pxgr1_3 := box_at BXgr1.out HB3.out
    clear pxgr1_2
    have pxgr2_3 := box_at BXgr2.out HB3.out
    clear pxgr2_2
    have zl0 : w.heap.size < w3.heap.size := World.block_lt_of_cell? _ _ pxgr0_3
    go_wp2_with fail
    clear zl0
    obtain ⟨w4, hw4⟩ : ∃ u, u = w3.alloc (.cells #[.int .i64 lR0.kind, .int .i64 lR0.author, .slice want0_a2 want0_n2 want0_c2, .slice want0_a3 want0_n3 want0_c3, .slice want0_a4 want0_n4 want0_c4, .slice want0_a5 want0_n5 want0_c5] 94) := ⟨_, rfl⟩
    rw [← hw4]
    have hb4 : Below w3.heap.size w3 w4 := by rw [hw4]; exact (Below.refl _ _).alloc (Nat.le_refl _) _
    have hlt4 : w3.heap.size < w4.heap.size := by rw [hw4]; simp
    have pxwant00_4 : w4.cell? ⟨w3.heap.size, 0, none⟩ = some (.int .i64 lR0.kind) := by rw [hw4]; simp [go_sem]
    have pxwant01_4 : w4.cell? ⟨w3.heap.size, 1, none⟩ = some (.int .i64 lR0.author) := by rw [hw4]; simp [go_sem]
    have pxwant02_4 : w4.cell? ⟨w3.heap.size, 2, none⟩ = some (.slice want0_a2 want0_n2 want0_c2) := by rw [hw4]; simp [go_sem]
    have pxwant03_4 : w4.cell? ⟨w3.heap.size, 3, none⟩ = some (.slice want0_a3 want0_n3 want0_c3) := by rw [hw4]; simp [go_sem]
    have pxwant04_4 : w4.cell? ⟨w3.heap.size, 4, none⟩ = some (.slice want0_a4 want0_n4 want0_c4) := by rw [hw4]; simp [go_sem]
    have pxwant05_4 : w4.cell? ⟨w3.heap.size, 5, none⟩ = some (.slice want0_a5 want0_n5 want0_c5) := by rw [hw4]; simp [go_sem]
    clear hw4
    have HB4 := Lib.hid (Below.next HB3.out hb4)
    have hs4 := hb4.size
    have AJ4 := Lib.hid hb4; clear hb4
    have pxgr0_4 := box_at BXgr0.out HB4.out
    clear pxgr0_3
    have pxgr1_4 := box_at BXgr1.out HB4.out
    clear pxgr1_3
    have pxgr2_4 := box_at BXgr2.out HB4.out
    clear pxgr2_3
    refine (laws_toIntS _ ld _ (Hd.out.below HB4.out) (by rw [HLd.out]; omega)).mono ?_
    rintro e w5 ⟨xd, rfl, hX, hb5⟩
    have Oxd := Lib.hid (InI.of_own hX); clear hX
    have HB5 := Lib.hid (Below.next HB4.out hb5)
    have hs5 := hb5.size
    have AJ5 := Lib.hid hb5; clear hb5
    have pxgr0_5 := box_at BXgr0.out HB5.out
    clear pxgr0_4
    have pxgr1_5 := box_at BXgr1.out HB5.out
    clear pxgr1_4
    have pxgr2_5 := box_at BXgr2.out HB5.out
    clear pxgr2_4
    have pxwant00_5 := box_at pxwant00_4 AJ5.out
    clear pxwant00_4
    have pxwant01_5 := box_at pxwant01_4 AJ5.out
    clear pxwant01_4
    have pxwant02_5 := box_at pxwant02_4 AJ5.out
    clear pxwant02_4
    have pxwant03_5 := box_at pxwant03_4 AJ5.out
    clear pxwant03_4
    have pxwant04_5 := box_at pxwant04_4 AJ5.out
    clear pxwant04_4
    have pxwant05_5 := box_at pxwant05_4 AJ5.out
    clear pxwant05_4
    go_wp2_with fail
    refine (laws_toGroup gr _).mono ?_
    rintro e w6 ⟨rfl, hb6⟩
    have HB6 := Lib.hid (Below.next HB5.out hb6)
    have hs6 := hb6.size
    have AJ6 := Lib.hid hb6; clear hb6
    have pxgr0_6 := box_at BXgr0.out HB6.out
    clear pxgr0_5
    have pxgr1_6 := box_at BXgr1.out HB6.out
    clear pxgr1_5
    have pxgr2_6 := box_at BXgr2.out HB6.out
    clear pxgr2_5
    have pxwant00_6 := box_at pxwant00_5 AJ6.out
    clear pxwant00_5
    have pxwant01_6 := box_at pxwant01_5 AJ6.out
    clear pxwant01_5
    have pxwant02_6 := box_at pxwant02_5 AJ6.out
    clear pxwant02_5
    have pxwant03_6 := box_at pxwant03_5 AJ6.out
    clear pxwant03_5
    have pxwant04_6 := box_at pxwant04_5 AJ6.out
    clear pxwant04_5
    have pxwant05_6 := box_at pxwant05_5 AJ6.out
    clear pxwant05_5
    go_wp2_with fail
    refine (impl_SignEntry gr x k a t _ ld c _ Jgr.out Jx.out Jk.out Ja.out Jt.out (Oxd.out.next AJ6.out).reads Jc.out).mono ?_
    rintro e w7 ⟨got0, rfl, hXgot0, hb7⟩
    rw [HR0.out] at hXgot0
    have Ogot0 := Lib.hid hXgot0; clear hXgot0
    obtain ⟨got0_a2, got0_n2, got0_c2, got0_a3, got0_n3, got0_c3, got0_a4, got0_n4, got0_c4, got0_a5, got0_n5, got0_c5, rfl, hrest⟩ := rdEntry.1 ((kS rEntry).own_rd Ogot0.out)
    clear hrest
    have HB7 := Lib.hid (Below.next HB6.out hb7)
    have hs7 := hb7.size
    have AJ7 := Lib.hid hb7; clear hb7
    have pxgr0_7 := box_at BXgr0.out HB7.out
    clear pxgr0_6
    have pxgr1_7 := box_at BXgr1.out HB7.out
    clear pxgr1_6
    have pxgr2_7 := box_at BXgr2.out HB7.out
    clear pxgr2_6
    have pxwant00_7 := box_at pxwant00_6 AJ7.out
    clear pxwant00_6
    have pxwant01_7 := box_at pxwant01_6 AJ7.out
    clear pxwant01_6
    have pxwant02_7 := box_at pxwant02_6 AJ7.out
    clear pxwant02_6
    have pxwant03_7 := box_at pxwant03_6 AJ7.out
    clear pxwant03_6
    have pxwant04_7 := box_at pxwant04_6 AJ7.out
    clear pxwant04_6
    have pxwant05_7 := box_at pxwant05_6 AJ7.out
    clear pxwant05_6
    have zl0 : w.heap.size < w7.heap.size := World.block_lt_of_cell? _ _ pxgr0_7
    have zl1 : w3.heap.size < w7.heap.size := World.block_lt_of_cell? _ _ pxwant00_7
    go_wp2_with fail
    clear zl0 zl1
    obtain ⟨w8, hw8⟩ : ∃ u, u = w7.alloc (.cells #[.int .i64 lR0.kind, .int .i64 lR0.author, .slice got0_a2 got0_n2 got0_c2, .slice got0_a3 got0_n3 got0_c3, .slice got0_a4 got0_n4 got0_c4, .slice got0_a5 got0_n5 got0_c5] 94) := ⟨_, rfl⟩
    rw [← hw8]
    have hb8 : Below w7.heap.size w7 w8 := by rw [hw8]; exact (Below.refl _ _).alloc (Nat.le_refl _) _
    have hlt8 : w7.heap.size < w8.heap.size := by rw [hw8]; simp
    have pxgot00_8 : w8.cell? ⟨w7.heap.size, 0, none⟩ = some (.int .i64 lR0.kind) := by rw [hw8]; simp [go_sem]
    have pxgot01_8 : w8.cell? ⟨w7.heap.size, 1, none⟩ = some (.int .i64 lR0.author) := by rw [hw8]; simp [go_sem]
    have pxgot02_8 : w8.cell? ⟨w7.heap.size, 2, none⟩ = some (.slice got0_a2 got0_n2 got0_c2) := by rw [hw8]; simp [go_sem]
    have pxgot03_8 : w8.cell? ⟨w7.heap.size, 3, none⟩ = some (.slice got0_a3 got0_n3 got0_c3) := by rw [hw8]; simp [go_sem]
    have pxgot04_8 : w8.cell? ⟨w7.heap.size, 4, none⟩ = some (.slice got0_a4 got0_n4 got0_c4) := by rw [hw8]; simp [go_sem]
    have pxgot05_8 : w8.cell? ⟨w7.heap.size, 5, none⟩ = some (.slice got0_a5 got0_n5 got0_c5) := by rw [hw8]; simp [go_sem]
    clear hw8
    have HB8 := Lib.hid (Below.next HB7.out hb8)
    have hs8 := hb8.size
    have AJ8 := Lib.hid hb8; clear hb8
    have pxgr0_8 := box_at BXgr0.out HB8.out
    clear pxgr0_7
    have pxgr1_8 := box_at BXgr1.out HB8.out
    clear pxgr1_7
    have pxgr2_8 := box_at BXgr2.out HB8.out
    clear pxgr2_7
    have pxwant00_8 := box_at pxwant00_7 AJ8.out
    clear pxwant00_7
    have pxwant01_8 := box_at pxwant01_7 AJ8.out
    clear pxwant01_7
    have pxwant02_8 := box_at pxwant02_7 AJ8.out
    clear pxwant02_7
    have pxwant03_8 := box_at pxwant03_7 AJ8.out
    clear pxwant03_7
    have pxwant04_8 := box_at pxwant04_7 AJ8.out
    clear pxwant04_7
    have pxwant05_8 := box_at pxwant05_7 AJ8.out
    clear pxwant05_7
    refine (laws_eqEntry _ _ _ _ _ ((kS rEntry).own_rd (Kind.next (K := kS rEntry) Ogot0.out AJ8.out)) ((kS rEntry).own_rd (Kind.next (K := kS rEntry) (Kind.next (K := kS rEntry) (Kind.next (K := kS rEntry) (Kind.next (K := kS rEntry) (Kind.next (K := kS rEntry) Owant0.out AJ4.out) AJ5.out) AJ6.out) AJ7.out) AJ8.out))).mono ?_
    rintro e w9 ⟨rfl, hb9⟩
    rw [decide_eq_true rfl]
    have HB9 := Lib.hid (Below.next HB8.out hb9)
    have hs9 := hb9.size
    have AJ9 := Lib.hid hb9; clear hb9
    have pxgr0_9 := box_at BXgr0.out HB9.out
    clear pxgr0_8
    have pxgr1_9 := box_at BXgr1.out HB9.out
    clear pxgr1_8
    have pxgr2_9 := box_at BXgr2.out HB9.out
    clear pxgr2_8
    have pxwant00_9 := box_at pxwant00_8 AJ9.out
    clear pxwant00_8
    have pxwant01_9 := box_at pxwant01_8 AJ9.out
    clear pxwant01_8
    have pxwant02_9 := box_at pxwant02_8 AJ9.out
    clear pxwant02_8
    have pxwant03_9 := box_at pxwant03_8 AJ9.out
    clear pxwant03_8
    have pxwant04_9 := box_at pxwant04_8 AJ9.out
    clear pxwant04_8
    have pxwant05_9 := box_at pxwant05_8 AJ9.out
    clear pxwant05_8
    have pxgot00_9 := box_at pxgot00_8 AJ9.out
    clear pxgot00_8
    have pxgot01_9 := box_at pxgot01_8 AJ9.out
    clear pxgot01_8
    have pxgot02_9 := box_at pxgot02_8 AJ9.out
    clear pxgot02_8
    have pxgot03_9 := box_at pxgot03_8 AJ9.out
    clear pxgot03_8
    have pxgot04_9 := box_at pxgot04_8 AJ9.out
    clear pxgot04_8
    have pxgot05_9 := box_at pxgot05_8 AJ9.out
    clear pxgot05_8
    go_wp2_with fail
    refine (laws_toIntS _ ld _ (Hd.out.below HB9.out) (by rw [HLd.out]; omega)).mono ?_
    rintro e w10 ⟨yd, rfl, hX, hb10⟩
    have Oyd := Lib.hid (InI.of_own hX); clear hX
    have HB10 := Lib.hid (Below.next HB9.out hb10)
    have hs10 := hb10.size
    have AJ10 := Lib.hid hb10; clear hb10
    have pxgr0_10 := box_at BXgr0.out HB10.out
    clear pxgr0_9
    have pxgr1_10 := box_at BXgr1.out HB10.out
    clear pxgr1_9
    have pxgr2_10 := box_at BXgr2.out HB10.out
    clear pxgr2_9
    have pxwant00_10 := box_at pxwant00_9 AJ10.out
    clear pxwant00_9
    have pxwant01_10 := box_at pxwant01_9 AJ10.out
    clear pxwant01_9
    have pxwant02_10 := box_at pxwant02_9 AJ10.out
    clear pxwant02_9
    have pxwant03_10 := box_at pxwant03_9 AJ10.out
    clear pxwant03_9
    have pxwant04_10 := box_at pxwant04_9 AJ10.out
    clear pxwant04_9
    have pxwant05_10 := box_at pxwant05_9 AJ10.out
    clear pxwant05_9
    have pxgot00_10 := box_at pxgot00_9 AJ10.out
    clear pxgot00_9
    have pxgot01_10 := box_at pxgot01_9 AJ10.out
    clear pxgot01_9
    have pxgot02_10 := box_at pxgot02_9 AJ10.out
    clear pxgot02_9
    have pxgot03_10 := box_at pxgot03_9 AJ10.out
    clear pxgot03_9
    have pxgot04_10 := box_at pxgot04_9 AJ10.out
    clear pxgot04_9
    have pxgot05_10 := box_at pxgot05_9 AJ10.out
    clear pxgot05_9
    go_wp2_with fail
    refine (laws_eqIntS _ _ _ _ _ (((((Oxd.out.next AJ6.out).next AJ7.out).next AJ8.out).next AJ9.out).next AJ10.out).reads Oyd.out.reads).mono ?_
    rintro e w11 ⟨rfl, m11, hw11⟩
    have hb11 := Below.drewOf hw11; clear hw11
    rw [decide_eq_true rfl]
    have HB11 := Lib.hid (Below.next HB10.out hb11)
    have hs11 := hb11.size
    have AJ11 := Lib.hid hb11; clear hb11
    have pxgr0_11 := box_at BXgr0.out HB11.out
    clear pxgr0_10
    have pxgr1_11 := box_at BXgr1.out HB11.out
    clear pxgr1_10
    have pxgr2_11 := box_at BXgr2.out HB11.out
    clear pxgr2_10
    have pxwant00_11 := box_at pxwant00_10 AJ11.out
    clear pxwant00_10
    have pxwant01_11 := box_at pxwant01_10 AJ11.out
    clear pxwant01_10
    have pxwant02_11 := box_at pxwant02_10 AJ11.out
    clear pxwant02_10
    have pxwant03_11 := box_at pxwant03_10 AJ11.out
    clear pxwant03_10
    have pxwant04_11 := box_at pxwant04_10 AJ11.out
    clear pxwant04_10
    have pxwant05_11 := box_at pxwant05_10 AJ11.out
    clear pxwant05_10
    have pxgot00_11 := box_at pxgot00_10 AJ11.out
    clear pxgot00_10
    have pxgot01_11 := box_at pxgot01_10 AJ11.out
    clear pxgot01_10
    have pxgot02_11 := box_at pxgot02_10 AJ11.out
    clear pxgot02_10
    have pxgot03_11 := box_at pxgot03_10 AJ11.out
    clear pxgot03_10
    have pxgot04_11 := box_at pxgot04_10 AJ11.out
    clear pxgot04_10
    have pxgot05_11 := box_at pxgot05_10 AJ11.out
    clear pxgot05_10
    go_wp2_with fail
    refine (laws_markIntS_in _ _ _ 1 _ _ ((((((Oxd.out.next AJ6.out).next AJ7.out).next AJ8.out).next AJ9.out).next AJ10.out).next AJ11.out) (by omega) (by have := HLd.out; omega)).mono ?_
    rintro e w12 ⟨rfl, hX, hG12⟩
    have Oxdm := Lib.hid hX; clear hX
    have hs12 := hG12.size
    have HB12 := Lib.hid (HB11.out.trans (hG12.below (B := W.heap.size) (by omega) (by omega)))
    have HG12 := Lib.hid hG12; clear hG12
    have pxgr0_12 := box_at BXgr0.out HB12.out
    clear pxgr0_11
    have pxgr1_12 := box_at BXgr1.out HB12.out
    clear pxgr1_11
    have pxgr2_12 := box_at BXgr2.out HB12.out
    clear pxgr2_11
    have pxwant00_12 := within_at HG12.out pxwant00_11 (by omega)
    clear pxwant00_11
    have pxwant01_12 := within_at HG12.out pxwant01_11 (by omega)
    clear pxwant01_11
    have pxwant02_12 := within_at HG12.out pxwant02_11 (by omega)
    clear pxwant02_11
    have pxwant03_12 := within_at HG12.out pxwant03_11 (by omega)
    clear pxwant03_11
    have pxwant04_12 := within_at HG12.out pxwant04_11 (by omega)
    clear pxwant04_11
    have pxwant05_12 := within_at HG12.out pxwant05_11 (by omega)
    clear pxwant05_11
    have pxgot00_12 := within_at HG12.out pxgot00_11 (by omega)
    clear pxgot00_11
    have pxgot01_12 := within_at HG12.out pxgot01_11 (by omega)
    clear pxgot01_11
    have pxgot02_12 := within_at HG12.out pxgot02_11 (by omega)
    clear pxgot02_11
    have pxgot03_12 := within_at HG12.out pxgot03_11 (by omega)
    clear pxgot03_11
    have pxgot04_12 := within_at HG12.out pxgot04_11 (by omega)
    clear pxgot04_11
    have pxgot05_12 := within_at HG12.out pxgot05_11 (by omega)
    clear pxgot05_11
    go_wp2_with fail
    refine (laws_eqEntry _ _ _ _ _ ((kS rEntry).own_rd (Kind.kept (K := kS rEntry) (Kind.next (K := kS rEntry) (Kind.next (K := kS rEntry) (Kind.next (K := kS rEntry) (Kind.next (K := kS rEntry) Ogot0.out AJ8.out) AJ9.out) AJ10.out) AJ11.out) HG12.out (.inr (by omega)))) ((kS rEntry).own_rd (Kind.kept (K := kS rEntry) (Kind.next (K := kS rEntry) (Kind.next (K := kS rEntry) (Kind.next (K := kS rEntry) (Kind.next (K := kS rEntry) (Kind.next (K := kS rEntry) (Kind.next (K := kS rEntry) (Kind.next (K := kS rEntry) (Kind.next (K := kS rEntry) Owant0.out AJ4.out) AJ5.out) AJ6.out) AJ7.out) AJ8.out) AJ9.out) AJ10.out) AJ11.out) HG12.out (.inl (by omega))))).mono ?_
    rintro e w13 ⟨rfl, hb13⟩
    rw [decide_eq_true rfl]
    have HB13 := Lib.hid (Below.next HB12.out hb13)
    have hs13 := hb13.size
    have AJ13 := Lib.hid hb13; clear hb13
    have pxgr0_13 := box_at BXgr0.out HB13.out
    clear pxgr0_12
    have pxgr1_13 := box_at BXgr1.out HB13.out
    clear pxgr1_12
    have pxgr2_13 := box_at BXgr2.out HB13.out
    clear pxgr2_12
    have pxwant00_13 := box_at pxwant00_12 AJ13.out
    clear pxwant00_12
    have pxwant01_13 := box_at pxwant01_12 AJ13.out
    clear pxwant01_12
    have pxwant02_13 := box_at pxwant02_12 AJ13.out
    clear pxwant02_12
    have pxwant03_13 := box_at pxwant03_12 AJ13.out
    clear pxwant03_12
    have pxwant04_13 := box_at pxwant04_12 AJ13.out
    clear pxwant04_12
    have pxwant05_13 := box_at pxwant05_12 AJ13.out
    clear pxwant05_12
    have pxgot00_13 := box_at pxgot00_12 AJ13.out
    clear pxgot00_12
    have pxgot01_13 := box_at pxgot01_12 AJ13.out
    clear pxgot01_12
    have pxgot02_13 := box_at pxgot02_12 AJ13.out
    clear pxgot02_12
    have pxgot03_13 := box_at pxgot03_12 AJ13.out
    clear pxgot03_12
    have pxgot04_13 := box_at pxgot04_12 AJ13.out
    clear pxgot04_12
    have pxgot05_13 := box_at pxgot05_12 AJ13.out
    clear pxgot05_12
    have LG0 : Hid (1 + (cnEntry (lR0)) ≤ 9223372036854775806) := LGB0
    go_wp2_with fail
    refine (laws_markEntry _ _ _ 1 _ _ (Kind.next (K := kS rEntry) (Kind.kept (K := kS rEntry) (Kind.next (K := kS rEntry) (Kind.next (K := kS rEntry) (Kind.next (K := kS rEntry) (Kind.next (K := kS rEntry) Ogot0.out AJ8.out) AJ9.out) AJ10.out) AJ11.out) HG12.out (.inr (by omega))) AJ13.out) (by exact LG0.out) (by omega)).mono ?_
    rintro e w14 ⟨rfl, hX, hG14⟩
    have Ogot0m := Lib.hid hX; clear hX
    have hs14 := hG14.size
    have HB14 := Lib.hid (HB13.out.trans (hG14.below (B := W.heap.size) (by omega) (by omega)))
    have HG14 := Lib.hid hG14; clear hG14
    have pxgr0_14 := box_at BXgr0.out HB14.out
    clear pxgr0_13
    have pxgr1_14 := box_at BXgr1.out HB14.out
    clear pxgr1_13
    have pxgr2_14 := box_at BXgr2.out HB14.out
    clear pxgr2_13
    have pxwant00_14 := within_at HG14.out pxwant00_13 (by omega)
    clear pxwant00_13
    have pxwant01_14 := within_at HG14.out pxwant01_13 (by omega)
    clear pxwant01_13
    have pxwant02_14 := within_at HG14.out pxwant02_13 (by omega)
    clear pxwant02_13
    have pxwant03_14 := within_at HG14.out pxwant03_13 (by omega)
    clear pxwant03_13
    have pxwant04_14 := within_at HG14.out pxwant04_13 (by omega)
    clear pxwant04_13
    have pxwant05_14 := within_at HG14.out pxwant05_13 (by omega)
    clear pxwant05_13
    have pxgot00_14 := within_at HG14.out pxgot00_13 (by omega)
    clear pxgot00_13
    have pxgot01_14 := within_at HG14.out pxgot01_13 (by omega)
    clear pxgot01_13
    have pxgot02_14 := within_at HG14.out pxgot02_13 (by omega)
    clear pxgot02_13
    have pxgot03_14 := within_at HG14.out pxgot03_13 (by omega)
    clear pxgot03_13
    have pxgot04_14 := within_at HG14.out pxgot04_13 (by omega)
    clear pxgot04_13
    have pxgot05_14 := within_at HG14.out pxgot05_13 (by omega)
    clear pxgot05_13
    go_wp2_with fail
    refine (laws_heldEntry _ 1 _ _ ((kS rEntry).own_rd Ogot0m.out) (by exact LG0.out)).mono ?_
    rintro e w15 ⟨rfl, hb15⟩
    have HB15 := Lib.hid (Below.next HB14.out hb15)
    have hs15 := hb15.size
    have AJ15 := Lib.hid hb15; clear hb15
    have pxgr0_15 := box_at BXgr0.out HB15.out
    clear pxgr0_14
    have pxgr1_15 := box_at BXgr1.out HB15.out
    clear pxgr1_14
    have pxgr2_15 := box_at BXgr2.out HB15.out
    clear pxgr2_14
    have pxwant00_15 := box_at pxwant00_14 AJ15.out
    clear pxwant00_14
    have pxwant01_15 := box_at pxwant01_14 AJ15.out
    clear pxwant01_14
    have pxwant02_15 := box_at pxwant02_14 AJ15.out
    clear pxwant02_14
    have pxwant03_15 := box_at pxwant03_14 AJ15.out
    clear pxwant03_14
    have pxwant04_15 := box_at pxwant04_14 AJ15.out
    clear pxwant04_14
    have pxwant05_15 := box_at pxwant05_14 AJ15.out
    clear pxwant05_14
    have pxgot00_15 := box_at pxgot00_14 AJ15.out
    clear pxgot00_14
    have pxgot01_15 := box_at pxgot01_14 AJ15.out
    clear pxgot01_14
    have pxgot02_15 := box_at pxgot02_14 AJ15.out
    clear pxgot02_14
    have pxgot03_15 := box_at pxgot03_14 AJ15.out
    clear pxgot03_14
    have pxgot04_15 := box_at pxgot04_14 AJ15.out
    clear pxgot04_14
    have pxgot05_15 := box_at pxgot05_14 AJ15.out
    clear pxgot05_14
    go_wp2_with fail
    refine (laws_toGroup gr _).mono ?_
    rintro e w16 ⟨rfl, hb16⟩
    have HB16 := Lib.hid (Below.next HB15.out hb16)
    have hs16 := hb16.size
    have AJ16 := Lib.hid hb16; clear hb16
    have pxgr0_16 := box_at BXgr0.out HB16.out
    clear pxgr0_15
    have pxgr1_16 := box_at BXgr1.out HB16.out
    clear pxgr1_15
    have pxgr2_16 := box_at BXgr2.out HB16.out
    clear pxgr2_15
    have pxwant00_16 := box_at pxwant00_15 AJ16.out
    clear pxwant00_15
    have pxwant01_16 := box_at pxwant01_15 AJ16.out
    clear pxwant01_15
    have pxwant02_16 := box_at pxwant02_15 AJ16.out
    clear pxwant02_15
    have pxwant03_16 := box_at pxwant03_15 AJ16.out
    clear pxwant03_15
    have pxwant04_16 := box_at pxwant04_15 AJ16.out
    clear pxwant04_15
    have pxwant05_16 := box_at pxwant05_15 AJ16.out
    clear pxwant05_15
    have pxgot00_16 := box_at pxgot00_15 AJ16.out
    clear pxgot00_15
    have pxgot01_16 := box_at pxgot01_15 AJ16.out
    clear pxgot01_15
    have pxgot02_16 := box_at pxgot02_15 AJ16.out
    clear pxgot02_15
    have pxgot03_16 := box_at pxgot03_15 AJ16.out
    clear pxgot03_15
    have pxgot04_16 := box_at pxgot04_15 AJ16.out
    clear pxgot04_15
    have pxgot05_16 := box_at pxgot05_15 AJ16.out
    clear pxgot05_15
    go_wp2_with fail
    refine (laws_toIntS _ ld _ (Hd.out.below HB16.out) (by rw [HLd.out]; omega)).mono ?_
    rintro e w17 ⟨zd, rfl, hX, hb17⟩
    have Ozd := Lib.hid (InI.of_own hX); clear hX
    have HB17 := Lib.hid (Below.next HB16.out hb17)
    have hs17 := hb17.size
    have AJ17 := Lib.hid hb17; clear hb17
    have pxgr0_17 := box_at BXgr0.out HB17.out
    clear pxgr0_16
    have pxgr1_17 := box_at BXgr1.out HB17.out
    clear pxgr1_16
    have pxgr2_17 := box_at BXgr2.out HB17.out
    clear pxgr2_16
    have pxwant00_17 := box_at pxwant00_16 AJ17.out
    clear pxwant00_16
    have pxwant01_17 := box_at pxwant01_16 AJ17.out
    clear pxwant01_16
    have pxwant02_17 := box_at pxwant02_16 AJ17.out
    clear pxwant02_16
    have pxwant03_17 := box_at pxwant03_16 AJ17.out
    clear pxwant03_16
    have pxwant04_17 := box_at pxwant04_16 AJ17.out
    clear pxwant04_16
    have pxwant05_17 := box_at pxwant05_16 AJ17.out
    clear pxwant05_16
    have pxgot00_17 := box_at pxgot00_16 AJ17.out
    clear pxgot00_16
    have pxgot01_17 := box_at pxgot01_16 AJ17.out
    clear pxgot01_16
    have pxgot02_17 := box_at pxgot02_16 AJ17.out
    clear pxgot02_16
    have pxgot03_17 := box_at pxgot03_16 AJ17.out
    clear pxgot03_16
    have pxgot04_17 := box_at pxgot04_16 AJ17.out
    clear pxgot04_16
    have pxgot05_17 := box_at pxgot05_16 AJ17.out
    clear pxgot05_16
    go_wp2_with fail
    refine (impl_SignEntry gr x k a t _ ld c _ Jgr.out Jx.out Jk.out Ja.out Jt.out Ozd.out.reads Jc.out).mono ?_
    rintro e w18 ⟨again0, rfl, hXagain0, hb18⟩
    rw [HR0.out] at hXagain0
    have Oagain0 := Lib.hid hXagain0; clear hXagain0
    obtain ⟨again0_a2, again0_n2, again0_c2, again0_a3, again0_n3, again0_c3, again0_a4, again0_n4, again0_c4, again0_a5, again0_n5, again0_c5, rfl, hrest⟩ := rdEntry.1 ((kS rEntry).own_rd Oagain0.out)
    clear hrest
    have HB18 := Lib.hid (Below.next HB17.out hb18)
    have hs18 := hb18.size
    have AJ18 := Lib.hid hb18; clear hb18
    have pxgr0_18 := box_at BXgr0.out HB18.out
    clear pxgr0_17
    have pxgr1_18 := box_at BXgr1.out HB18.out
    clear pxgr1_17
    have pxgr2_18 := box_at BXgr2.out HB18.out
    clear pxgr2_17
    have pxwant00_18 := box_at pxwant00_17 AJ18.out
    clear pxwant00_17
    have pxwant01_18 := box_at pxwant01_17 AJ18.out
    clear pxwant01_17
    have pxwant02_18 := box_at pxwant02_17 AJ18.out
    clear pxwant02_17
    have pxwant03_18 := box_at pxwant03_17 AJ18.out
    clear pxwant03_17
    have pxwant04_18 := box_at pxwant04_17 AJ18.out
    clear pxwant04_17
    have pxwant05_18 := box_at pxwant05_17 AJ18.out
    clear pxwant05_17
    have pxgot00_18 := box_at pxgot00_17 AJ18.out
    clear pxgot00_17
    have pxgot01_18 := box_at pxgot01_17 AJ18.out
    clear pxgot01_17
    have pxgot02_18 := box_at pxgot02_17 AJ18.out
    clear pxgot02_17
    have pxgot03_18 := box_at pxgot03_17 AJ18.out
    clear pxgot03_17
    have pxgot04_18 := box_at pxgot04_17 AJ18.out
    clear pxgot04_17
    have pxgot05_18 := box_at pxgot05_17 AJ18.out
    clear pxgot05_17
    have zl0 : w.heap.size < w18.heap.size := World.block_lt_of_cell? _ _ pxgr0_18
    have zl1 : w3.heap.size < w18.heap.size := World.block_lt_of_cell? _ _ pxwant00_18
    have zl2 : w7.heap.size < w18.heap.size := World.block_lt_of_cell? _ _ pxgot00_18
    go_wp2_with fail
    clear zl0 zl1 zl2
    obtain ⟨w19, hw19⟩ : ∃ u, u = w18.alloc (.cells #[.int .i64 lR0.kind, .int .i64 lR0.author, .slice again0_a2 again0_n2 again0_c2, .slice again0_a3 again0_n3 again0_c3, .slice again0_a4 again0_n4 again0_c4, .slice again0_a5 again0_n5 again0_c5] 94) := ⟨_, rfl⟩
    rw [← hw19]
    have hb19 : Below w18.heap.size w18 w19 := by rw [hw19]; exact (Below.refl _ _).alloc (Nat.le_refl _) _
    have hlt19 : w18.heap.size < w19.heap.size := by rw [hw19]; simp
    have pxagain00_19 : w19.cell? ⟨w18.heap.size, 0, none⟩ = some (.int .i64 lR0.kind) := by rw [hw19]; simp [go_sem]
    have pxagain01_19 : w19.cell? ⟨w18.heap.size, 1, none⟩ = some (.int .i64 lR0.author) := by rw [hw19]; simp [go_sem]
    have pxagain02_19 : w19.cell? ⟨w18.heap.size, 2, none⟩ = some (.slice again0_a2 again0_n2 again0_c2) := by rw [hw19]; simp [go_sem]
    have pxagain03_19 : w19.cell? ⟨w18.heap.size, 3, none⟩ = some (.slice again0_a3 again0_n3 again0_c3) := by rw [hw19]; simp [go_sem]
    have pxagain04_19 : w19.cell? ⟨w18.heap.size, 4, none⟩ = some (.slice again0_a4 again0_n4 again0_c4) := by rw [hw19]; simp [go_sem]
    have pxagain05_19 : w19.cell? ⟨w18.heap.size, 5, none⟩ = some (.slice again0_a5 again0_n5 again0_c5) := by rw [hw19]; simp [go_sem]
    clear hw19
    have HB19 := Lib.hid (Below.next HB18.out hb19)
    have hs19 := hb19.size
    have AJ19 := Lib.hid hb19; clear hb19
    have pxgr0_19 := box_at BXgr0.out HB19.out
    clear pxgr0_18
    have pxgr1_19 := box_at BXgr1.out HB19.out
    clear pxgr1_18
    have pxgr2_19 := box_at BXgr2.out HB19.out
    clear pxgr2_18
    have pxwant00_19 := box_at pxwant00_18 AJ19.out
    clear pxwant00_18
    have pxwant01_19 := box_at pxwant01_18 AJ19.out
    clear pxwant01_18
    have pxwant02_19 := box_at pxwant02_18 AJ19.out
    clear pxwant02_18
    have pxwant03_19 := box_at pxwant03_18 AJ19.out
    clear pxwant03_18
    have pxwant04_19 := box_at pxwant04_18 AJ19.out
    clear pxwant04_18
    have pxwant05_19 := box_at pxwant05_18 AJ19.out
    clear pxwant05_18
    have pxgot00_19 := box_at pxgot00_18 AJ19.out
    clear pxgot00_18
    have pxgot01_19 := box_at pxgot01_18 AJ19.out
    clear pxgot01_18
    have pxgot02_19 := box_at pxgot02_18 AJ19.out
    clear pxgot02_18
    have pxgot03_19 := box_at pxgot03_18 AJ19.out
    clear pxgot03_18
    have pxgot04_19 := box_at pxgot04_18 AJ19.out
    clear pxgot04_18
    have pxgot05_19 := box_at pxgot05_18 AJ19.out
    clear pxgot05_18
    refine (laws_eqEntry _ _ _ _ _ ((kS rEntry).own_rd (Kind.next (K := kS rEntry) Oagain0.out AJ19.out)) ((kS rEntry).own_rd (Kind.next (K := kS rEntry) (Kind.next (K := kS rEntry) (Kind.next (K := kS rEntry) (Kind.next (K := kS rEntry) (Kind.next (K := kS rEntry) (Kind.kept (K := kS rEntry) (Kind.next (K := kS rEntry) (Kind.kept (K := kS rEntry) (Kind.next (K := kS rEntry) (Kind.next (K := kS rEntry) (Kind.next (K := kS rEntry) (Kind.next (K := kS rEntry) (Kind.next (K := kS rEntry) (Kind.next (K := kS rEntry) (Kind.next (K := kS rEntry) (Kind.next (K := kS rEntry) Owant0.out AJ4.out) AJ5.out) AJ6.out) AJ7.out) AJ8.out) AJ9.out) AJ10.out) AJ11.out) HG12.out (.inl (by omega))) AJ13.out) HG14.out (.inl (by omega))) AJ15.out) AJ16.out) AJ17.out) AJ18.out) AJ19.out))).mono ?_
    rintro e w20 ⟨rfl, hb20⟩
    rw [decide_eq_true rfl]
    have HB20 := Lib.hid (Below.next HB19.out hb20)
    have hs20 := hb20.size
    have AJ20 := Lib.hid hb20; clear hb20
    have pxgr0_20 := box_at BXgr0.out HB20.out
    clear pxgr0_19
    have pxgr1_20 := box_at BXgr1.out HB20.out
    clear pxgr1_19
    have pxgr2_20 := box_at BXgr2.out HB20.out
    clear pxgr2_19
    have pxwant00_20 := box_at pxwant00_19 AJ20.out
    clear pxwant00_19
    have pxwant01_20 := box_at pxwant01_19 AJ20.out
    clear pxwant01_19
    have pxwant02_20 := box_at pxwant02_19 AJ20.out
    clear pxwant02_19
    have pxwant03_20 := box_at pxwant03_19 AJ20.out
    clear pxwant03_19
    have pxwant04_20 := box_at pxwant04_19 AJ20.out
    clear pxwant04_19
    have pxwant05_20 := box_at pxwant05_19 AJ20.out
    clear pxwant05_19
    have pxgot00_20 := box_at pxgot00_19 AJ20.out
    clear pxgot00_19
    have pxgot01_20 := box_at pxgot01_19 AJ20.out
    clear pxgot01_19
    have pxgot02_20 := box_at pxgot02_19 AJ20.out
    clear pxgot02_19
    have pxgot03_20 := box_at pxgot03_19 AJ20.out
    clear pxgot03_19
    have pxgot04_20 := box_at pxgot04_19 AJ20.out
    clear pxgot04_19
    have pxgot05_20 := box_at pxgot05_19 AJ20.out
    clear pxgot05_19
    have pxagain00_20 := box_at pxagain00_19 AJ20.out
    clear pxagain00_19
    have pxagain01_20 := box_at pxagain01_19 AJ20.out
    clear pxagain01_19
    have pxagain02_20 := box_at pxagain02_19 AJ20.out
    clear pxagain02_19
    have pxagain03_20 := box_at pxagain03_19 AJ20.out
    clear pxagain03_19
    have pxagain04_20 := box_at pxagain04_19 AJ20.out
    clear pxagain04_19
    have pxagain05_20 := box_at pxagain05_19 AJ20.out
    clear pxagain05_19
    go_wp2_with fail
    refine (laws_heldEntry _ 1 _ _ ((kS rEntry).own_rd (Kind.next (K := kS rEntry) (Kind.next (K := kS rEntry) (Kind.next (K := kS rEntry) (Kind.next (K := kS rEntry) (Kind.next (K := kS rEntry) (Kind.next (K := kS rEntry) Ogot0m.out AJ15.out) AJ16.out) AJ17.out) AJ18.out) AJ19.out) AJ20.out)) (by exact LG0.out)).mono ?_
    rintro e w21 ⟨rfl, hb21⟩
    have HB21 := Lib.hid (Below.next HB20.out hb21)
    have hs21 := hb21.size
    have AJ21 := Lib.hid hb21; clear hb21
    have pxgr0_21 := box_at BXgr0.out HB21.out
    clear pxgr0_20
    have pxgr1_21 := box_at BXgr1.out HB21.out
    clear pxgr1_20
    have pxgr2_21 := box_at BXgr2.out HB21.out
    clear pxgr2_20
    have pxwant00_21 := box_at pxwant00_20 AJ21.out
    clear pxwant00_20
    have pxwant01_21 := box_at pxwant01_20 AJ21.out
    clear pxwant01_20
    have pxwant02_21 := box_at pxwant02_20 AJ21.out
    clear pxwant02_20
    have pxwant03_21 := box_at pxwant03_20 AJ21.out
    clear pxwant03_20
    have pxwant04_21 := box_at pxwant04_20 AJ21.out
    clear pxwant04_20
    have pxwant05_21 := box_at pxwant05_20 AJ21.out
    clear pxwant05_20
    have pxgot00_21 := box_at pxgot00_20 AJ21.out
    clear pxgot00_20
    have pxgot01_21 := box_at pxgot01_20 AJ21.out
    clear pxgot01_20
    have pxgot02_21 := box_at pxgot02_20 AJ21.out
    clear pxgot02_20
    have pxgot03_21 := box_at pxgot03_20 AJ21.out
    clear pxgot03_20
    have pxgot04_21 := box_at pxgot04_20 AJ21.out
    clear pxgot04_20
    have pxgot05_21 := box_at pxgot05_20 AJ21.out
    clear pxgot05_20
    have pxagain00_21 := box_at pxagain00_20 AJ21.out
    clear pxagain00_20
    have pxagain01_21 := box_at pxagain01_20 AJ21.out
    clear pxagain01_20
    have pxagain02_21 := box_at pxagain02_20 AJ21.out
    clear pxagain02_20
    have pxagain03_21 := box_at pxagain03_20 AJ21.out
    clear pxagain03_20
    have pxagain04_21 := box_at pxagain04_20 AJ21.out
    clear pxagain04_20
    have pxagain05_21 := box_at pxagain05_20 AJ21.out
    clear pxagain05_20
    go_wp2_with fail
    go_ret
    exact ⟨rfl, HWB.out.trans (HB21.out.mono HWB.out.size)⟩
end Go.Proofs.Ytapfceghgkmgoaa

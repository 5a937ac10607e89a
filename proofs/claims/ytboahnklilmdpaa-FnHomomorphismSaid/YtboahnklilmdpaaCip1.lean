/- Ciphertexts: products, powers, encryptions: walks (printed by gen_cip1.py). -/
import Derived.Test.YtboahnklilmdpaaBg
import Derived.Test.YtboahnklilmdpaaKCipher
import Derived.Test.YtboahnklilmdpaaRegV
namespace Go.Proofs.Ytboahnklilmdpaa
open Go.RowKit
set_option linter.unusedSimpArgs false
set_option linter.unusedVariables false

def c2 (gr : GroupD) (a b : CipherD) : CipherD := ⟨mulL gr [a.a, b.a], mulL gr [a.b, b.b]⟩
def enC (gr : GroupD) (key m r : Int) : CipherD := ⟨powE gr gr.g r, mulL gr [m, powE gr key r]⟩
def pwC (gr : GroupD) (c : CipherD) (e : Int) : CipherD := ⟨powE gr c.a e, powE gr c.b e⟩
def reC (gr : GroupD) (key : Int) (c : CipherD) (r : Int) : CipherD := c2 gr c (enC gr key 1 r)
def SmallC (c : CipherD) : Prop := Small c.a ∧ Small c.b
theorem small_64 {x : Int} (h : Small x) : I64 x := ⟨by have := h.1; omega, by have := h.2; omega⟩
theorem small2c {a b : Int} (ha : Small a) (hb : Small b) : AllSmall [a, b] := fun x hx => by
  rcases List.mem_cons.1 hx with rfl | hx
  · exact ha
  · rw [List.mem_singleton.1 hx]; exact hb
theorem powE_small {gr : GroupD} (hg : OkG gr) (x e : Int) : Small (powE gr x e) := by
  have := powE_bd hg x e; have := hg.p2; exact ⟨by omega, by omega⟩
theorem mulL_small {gr : GroupD} (hg : OkG gr) (l : List Int) : Small (mulL gr l) := by
  have := mulL_bd hg l; have := hg.p2; exact ⟨by omega, by omega⟩
theorem c2_small {gr : GroupD} (hg : OkG gr) (a b : CipherD) : SmallC (c2 gr a b) := ⟨mulL_small hg _, mulL_small hg _⟩
theorem enC_small {gr : GroupD} (hg : OkG gr) (key m r : Int) : SmallC (enC gr key m r) := ⟨powE_small hg _ _, mulL_small hg _⟩
theorem pwC_small {gr : GroupD} (hg : OkG gr) (c : CipherD) (e : Int) : SmallC (pwC gr c e) := ⟨powE_small hg _ _, powE_small hg _ _⟩

set_option maxRecDepth 100000 in
set_option maxHeartbeats 2000000 in
theorem impl_mulTwo (gr : GroupD) (a b : CipherD) (w : World) (hg : OkG gr) (ha : SmallC a) (hb : SmallC b) :
    Calls Try.prog 263 #[.agg #[.int .i64 gr.p, .int .i64 gr.q, .int .i64 gr.g], .agg #[.int .i64 a.a, .int .i64 a.b], .agg #[.int .i64 b.a, .int .i64 b.b]] w fun e w' => e = .returned (.agg #[.int .i64 (c2 gr a b).a, .int .i64 (c2 gr a b).b]) ∧ Below w.heap.size w w' := by
  have HG := Lib.hid hg
  have hp2 := hg.p2
  have hp1 := hg.p1
  have hq1 := hg.q1
  have hq2 := hg.q2
  have hg1 := hg.g1
  have hg2 := hg.g2
  clear hg
  have HA := Lib.hid ha
  have HBB := Lib.hid hb
  clear ha hb
  obtain ⟨W, hW⟩ : ∃ W, W = (((w.alloc (.cells #[.int .i64 gr.p, .int .i64 gr.q, .int .i64 gr.g] 39)).alloc (.cells #[.int .i64 a.a, .int .i64 a.b] 58)).alloc (.cells #[.int .i64 b.a, .int .i64 b.b] 58)).alloc (.cells #[.int .i64 0, .int .i64 0] 58) := ⟨_, rfl⟩
  have HB : Hid (Below w.heap.size w W) := by unfold Hid; rw [hW]; (repeat (first | exact Below.refl _ _ | assumption | refine Below.drew ?_ | refine Below.alloc ?_ (by first | (simp; done) | (simp; omega)) _ | refine Below.setCell ?_ (by first | (simp; done) | (simp; omega)) _))
  have x0_0 : W.cell? ⟨w.heap.size, 0, none⟩ = some (.int .i64 gr.p) := by rw [hW]; simp [go_sem]
  have x0_1 : W.cell? ⟨w.heap.size, 1, none⟩ = some (.int .i64 gr.q) := by rw [hW]; simp [go_sem]
  have x0_2 : W.cell? ⟨w.heap.size, 2, none⟩ = some (.int .i64 gr.g) := by rw [hW]; simp [go_sem]
  have x1_0 : W.cell? ⟨w.heap.size + 1, 0, none⟩ = some (.int .i64 a.a) := by rw [hW]; simp [go_sem]
  have x1_1 : W.cell? ⟨w.heap.size + 1, 1, none⟩ = some (.int .i64 a.b) := by rw [hW]; simp [go_sem]
  have x2_0 : W.cell? ⟨w.heap.size + 1 + 1, 0, none⟩ = some (.int .i64 b.a) := by rw [hW]; simp [go_sem]
  have x2_1 : W.cell? ⟨w.heap.size + 1 + 1, 1, none⟩ = some (.int .i64 b.b) := by rw [hW]; simp [go_sem]
  have HR : Hid (BoxN W (w.heap.size + 1 + 1 + 1) 58 [.int .i64 0, .int .i64 0]) := by unfold Hid; rw [hW]; have h := BoxN.new (((w.alloc (.cells #[.int .i64 gr.p, .int .i64 gr.q, .int .i64 gr.g] 39)).alloc (.cells #[.int .i64 a.a, .int .i64 a.b] 58)).alloc (.cells #[.int .i64 b.a, .int .i64 b.b] 58)) [.int .i64 0, .int .i64 0] 58; simpa using h
  have HSW : Hid (W.heap.size = w.heap.size + 4) := by unfold Hid; rw [hW]; simp
  have hlr : w.heap.size + 1 + 1 + 1 < W.heap.size := by have := HSW.out; omega
  go_enter Try.func263, Try.ntmps263
  go_wp2_with fail
  rw [← hW]
  clear hW
  try (go_wp2_with fail)
  refine wp_region_noPanic ?_
  refine wp_region_V (fun w' => Below W.heap.size W w' ∧ w'.cell? ⟨w.heap.size, 0, none⟩ = some (.int .i64 gr.p) ∧ w'.cell? ⟨w.heap.size, 1, none⟩ = some (.int .i64 gr.q) ∧ w'.cell? ⟨w.heap.size, 2, none⟩ = some (.int .i64 gr.g) ∧ w'.cell? ⟨w.heap.size + 1, 0, none⟩ = some (.int .i64 a.a) ∧ w'.cell? ⟨w.heap.size + 1, 1, none⟩ = some (.int .i64 a.b) ∧ w'.cell? ⟨w.heap.size + 1 + 1, 0, none⟩ = some (.int .i64 b.a) ∧ w'.cell? ⟨w.heap.size + 1 + 1, 1, none⟩ = some (.int .i64 b.b)) 18 15 (.rd 0 (.rd 1 (.rd 2 (.rd 3 (.rd 4 (.rd 7 (.rd 8 (.rd 9 (.rd 10 (.rd 11 (.alt 5 (.alt 6 (.alt 12 (.alt 13 (.rd 14 .done) .nil) .nil) (.alt 12 (.alt 6 (.alt 13 (.rd 14 .done) .nil) .nil) .nil)) (.alt 12 (.alt 5 (.alt 6 (.alt 13 (.rd 14 .done) .nil) .nil) .nil) .nil)))))))))))) [15] (by kernel_rfl) (by kernel_rfl) rfl (fun _ _ _ _ _ h => h) ⟨(Below.refl _ _).drew, x0_0, x0_1, x0_2, x1_0, x1_1, x2_0, x2_1⟩ ?_
  simp only [pickV, pickN, List.getElem?_cons_zero, List.getElem?_cons_succ]
  have hb0 : Below W.heap.size W W.drew := (Below.refl _ _).drew
  repeat (refine' wpV_read _ (by kernel_rfl) (fun w' hS' => ?_) ?_; rotate_left; · ((try dsimp only at hS'); go_simp; (try with_reducible rfl)); (try simp only [Act.put, List.setIfInBounds_toArray, List.set_cons_zero, List.set_cons_succ]))
  refine wpV_or (by kernel_rfl) (fun K hK => ?_) ?_
  · skip
    go_simp
    have hb1 : Below W.heap.size W ((W.alloc (.cells #[.int .i64 a.a, .int .i64 b.a] 3)).drew) := hb0.alloc hb0.size (.cells #[.int .i64 a.a, .int .i64 b.a] 3)
    have LT1 : Hid (Ints ((W.alloc (.cells #[.int .i64 a.a, .int .i64 b.a] 3)).drew) (.slice (some ⟨W.heap.size, 0, none⟩) 2 2) [a.a, b.a]) := by exact (Ints.lit2 W (small_64 HA.out.1) (small_64 HBB.out.1)).drew
    refine hK.out _ _ ⟨hb1, box_at x0_0 hb1, box_at x0_1 hb1, box_at x0_2 hb1, box_at x1_0 hb1, box_at x1_1 hb1, box_at x2_0 hb1, box_at x2_1 hb1⟩ (fun _ => ?_)
    clear hK K
    try simp only [Act.put, List.setIfInBounds_toArray, List.set_cons_zero, List.set_cons_succ]
    refine wpV_or (by kernel_rfl) (fun K hK => ?_) ?_
    · skip
      go_simp
      go_at_call 197
      refine (impl_mul gr _ [a.a, b.a] _ HG.out LT1.out (small2c HA.out.1 HBB.out.1)).mono ?_
      rintro e v2 ⟨rfl, hq2⟩
      have hb2 := keep_b hq2 hb1
      have LT1_2 := Lib.hid (Ints.below LT1.out hq2)
      refine hK.out _ _ ⟨hb2, box_at x0_0 hb2, box_at x0_1 hb2, box_at x0_2 hb2, box_at x1_0 hb2, box_at x1_1 hb2, box_at x2_0 hb2, box_at x2_1 hb2⟩ (fun _ => ?_)
      clear hK K
      try simp only [Act.put, List.setIfInBounds_toArray, List.set_cons_zero, List.set_cons_succ]
      refine wpV_do (by kernel_rfl) (fun K hK => ?_)
      go_simp
      have hb3 : Below W.heap.size W (v2.alloc (.cells #[.int .i64 a.b, .int .i64 b.b] 3)) := hb2.alloc hb2.size (.cells #[.int .i64 a.b, .int .i64 b.b] 3)
      have LT1_2_3 : Hid (Ints (v2.alloc (.cells #[.int .i64 a.b, .int .i64 b.b] 3)) (.slice (some ⟨W.heap.size, 0, none⟩) 2 2) [a.a, b.a]) := LT1_2.out.below ((Below.refl _ _).alloc (Nat.le_refl _) (.cells #[.int .i64 a.b, .int .i64 b.b] 3))
      have LT3 : Hid (Ints (v2.alloc (.cells #[.int .i64 a.b, .int .i64 b.b] 3)) (.slice (some ⟨v2.heap.size, 0, none⟩) 2 2) [a.b, b.b]) := by exact (Ints.lit2 v2 (small_64 HA.out.2) (small_64 HBB.out.2))
      refine hK.out _ _ ⟨hb3, box_at x0_0 hb3, box_at x0_1 hb3, box_at x0_2 hb3, box_at x1_0 hb3, box_at x1_1 hb3, box_at x2_0 hb3, box_at x2_1 hb3⟩ (fun _ => ?_)
      clear hK K
      try simp only [Act.put, List.setIfInBounds_toArray, List.set_cons_zero, List.set_cons_succ]
      refine wpV_do (by kernel_rfl) (fun K hK => ?_)
      go_simp
      go_at_call 197
      refine (impl_mul gr _ [a.b, b.b] _ HG.out LT3.out (small2c HA.out.2 HBB.out.2)).mono ?_
      rintro e v4 ⟨rfl, hq4⟩
      have hb4 := keep_b hq4 hb3
      have LT1_2_3_4 := Lib.hid (Ints.below LT1_2_3.out hq4)
      have LT3_4 := Lib.hid (Ints.below LT3.out hq4)
      refine hK.out _ _ ⟨hb4, box_at x0_0 hb4, box_at x0_1 hb4, box_at x0_2 hb4, box_at x1_0 hb4, box_at x1_1 hb4, box_at x2_0 hb4, box_at x2_1 hb4⟩ (fun _ => ?_)
      clear hK K
      try simp only [Act.put, List.setIfInBounds_toArray, List.set_cons_zero, List.set_cons_succ]
      repeat (refine' wpV_read _ (by kernel_rfl) (fun w' hS' => ?_) ?_; rotate_left; · ((try dsimp only at hS'); go_simp; (try with_reducible rfl)); (try simp only [Act.put, List.setIfInBounds_toArray, List.set_cons_zero, List.set_cons_succ]))
      refine wpV_done ?_
      have HRE := Lib.hid (HR.out.below hb4)
      have HBE := Lib.hid (HB.out.trans (hb4.mono HB.out.size))
      clear hb4
      have r0 := HRE.out.cell (i := 0) rfl
      have r1 := HRE.out.cell (i := 1) rfl
      have fr := fun j => HRE.out.frozen j
      go_wp2_with fail
      refine NoPanic.normal ?_
      have HRF := Lib.hid ((HRE.out.set 0 (.int .i64 (mulL gr [a.a, b.a]))).set 1 (.int .i64 (mulL gr [a.b, b.b])))
      have HBF : Hid (Below w.heap.size w ((v4.setCell ⟨w.heap.size + 1 + 1 + 1, 0, none⟩ (.int .i64 (mulL gr [a.a, b.a]))).setCell ⟨w.heap.size + 1 + 1 + 1, 1, none⟩ (.int .i64 (mulL gr [a.b, b.b])))) := (HBE.out.setCell (by show w.heap.size ≤ w.heap.size + 1 + 1 + 1; omega) _).setCell (by show w.heap.size ≤ w.heap.size + 1 + 1 + 1; omega) _
      clear r0 r1 fr
      have r0 := HRF.out.cell (i := 0) rfl
      have r1 := HRF.out.cell (i := 1) rfl
      go_wp2_with fail
      refine bodyPost_ret (v := .agg #[.int .i64 (mulL gr [a.a, b.a]), .int .i64 (mulL gr [a.b, b.b])]) (by simp [results, Try.results263, go_sem, r0, r1]) rfl ⟨rfl, HBF.out⟩
    · skip
      refine wpV_do (by kernel_rfl) (fun K hK => ?_)
      go_simp
      have hb5 : Below W.heap.size W (((W.alloc (.cells #[.int .i64 a.a, .int .i64 b.a] 3)).alloc (.cells #[.int .i64 a.b, .int .i64 b.b] 3)).drew) := hb1.alloc hb1.size (.cells #[.int .i64 a.b, .int .i64 b.b] 3)
      have LT1_5 : Hid (Ints (((W.alloc (.cells #[.int .i64 a.a, .int .i64 b.a] 3)).alloc (.cells #[.int .i64 a.b, .int .i64 b.b] 3)).drew) (.slice (some ⟨W.heap.size, 0, none⟩) 2 2) [a.a, b.a]) := LT1.out.below ((Below.refl _ _).alloc (Nat.le_refl _) (.cells #[.int .i64 a.b, .int .i64 b.b] 3))
      have LT5 : Hid (Ints (((W.alloc (.cells #[.int .i64 a.a, .int .i64 b.a] 3)).alloc (.cells #[.int .i64 a.b, .int .i64 b.b] 3)).drew) (.slice (some ⟨W.heap.size + 1, 0, none⟩) 2 2) [a.b, b.b]) := by unfold Hid; rw [show W.heap.size + 1 = (W.alloc (.cells #[.int .i64 a.a, .int .i64 b.a] 3)).heap.size by simp]; exact (Ints.lit2 (W.alloc (.cells #[.int .i64 a.a, .int .i64 b.a] 3)) (small_64 HA.out.2) (small_64 HBB.out.2)).drew
      refine hK.out _ _ ⟨hb5, box_at x0_0 hb5, box_at x0_1 hb5, box_at x0_2 hb5, box_at x1_0 hb5, box_at x1_1 hb5, box_at x2_0 hb5, box_at x2_1 hb5⟩ (fun _ => ?_)
      clear hK K
      try simp only [Act.put, List.setIfInBounds_toArray, List.set_cons_zero, List.set_cons_succ]
      refine wpV_do (by kernel_rfl) (fun K hK => ?_)
      go_simp
      go_at_call 197
      refine (impl_mul gr _ [a.a, b.a] _ HG.out LT1_5.out (small2c HA.out.1 HBB.out.1)).mono ?_
      rintro e v6 ⟨rfl, hq6⟩
      have hb6 := keep_b hq6 hb5
      have LT1_5_6 := Lib.hid (Ints.below LT1_5.out hq6)
      have LT5_6 := Lib.hid (Ints.below LT5.out hq6)
      refine hK.out _ _ ⟨hb6, box_at x0_0 hb6, box_at x0_1 hb6, box_at x0_2 hb6, box_at x1_0 hb6, box_at x1_1 hb6, box_at x2_0 hb6, box_at x2_1 hb6⟩ (fun _ => ?_)
      clear hK K
      try simp only [Act.put, List.setIfInBounds_toArray, List.set_cons_zero, List.set_cons_succ]
      refine wpV_do (by kernel_rfl) (fun K hK => ?_)
      go_simp
      go_at_call 197
      refine (impl_mul gr _ [a.b, b.b] _ HG.out LT5_6.out (small2c HA.out.2 HBB.out.2)).mono ?_
      rintro e v7 ⟨rfl, hq7⟩
      have hb7 := keep_b hq7 hb6
      have LT1_5_6_7 := Lib.hid (Ints.below LT1_5_6.out hq7)
      have LT5_6_7 := Lib.hid (Ints.below LT5_6.out hq7)
      refine hK.out _ _ ⟨hb7, box_at x0_0 hb7, box_at x0_1 hb7, box_at x0_2 hb7, box_at x1_0 hb7, box_at x1_1 hb7, box_at x2_0 hb7, box_at x2_1 hb7⟩ (fun _ => ?_)
      clear hK K
      try simp only [Act.put, List.setIfInBounds_toArray, List.set_cons_zero, List.set_cons_succ]
      repeat (refine' wpV_read _ (by kernel_rfl) (fun w' hS' => ?_) ?_; rotate_left; · ((try dsimp only at hS'); go_simp; (try with_reducible rfl)); (try simp only [Act.put, List.setIfInBounds_toArray, List.set_cons_zero, List.set_cons_succ]))
      refine wpV_done ?_
      have HRE := Lib.hid (HR.out.below hb7)
      have HBE := Lib.hid (HB.out.trans (hb7.mono HB.out.size))
      clear hb7
      have r0 := HRE.out.cell (i := 0) rfl
      have r1 := HRE.out.cell (i := 1) rfl
      have fr := fun j => HRE.out.frozen j
      go_wp2_with fail
      refine NoPanic.normal ?_
      have HRF := Lib.hid ((HRE.out.set 0 (.int .i64 (mulL gr [a.a, b.a]))).set 1 (.int .i64 (mulL gr [a.b, b.b])))
      have HBF : Hid (Below w.heap.size w ((v7.setCell ⟨w.heap.size + 1 + 1 + 1, 0, none⟩ (.int .i64 (mulL gr [a.a, b.a]))).setCell ⟨w.heap.size + 1 + 1 + 1, 1, none⟩ (.int .i64 (mulL gr [a.b, b.b])))) := (HBE.out.setCell (by show w.heap.size ≤ w.heap.size + 1 + 1 + 1; omega) _).setCell (by show w.heap.size ≤ w.heap.size + 1 + 1 + 1; omega) _
      clear r0 r1 fr
      have r0 := HRF.out.cell (i := 0) rfl
      have r1 := HRF.out.cell (i := 1) rfl
      go_wp2_with fail
      refine bodyPost_ret (v := .agg #[.int .i64 (mulL gr [a.a, b.a]), .int .i64 (mulL gr [a.b, b.b])]) (by simp [results, Try.results263, go_sem, r0, r1]) rfl ⟨rfl, HBF.out⟩
  · skip
    refine wpV_do (by kernel_rfl) (fun K hK => ?_)
    go_simp
    have hb8 : Below W.heap.size W ((W.alloc (.cells #[.int .i64 a.b, .int .i64 b.b] 3)).drew) := hb0.alloc hb0.size (.cells #[.int .i64 a.b, .int .i64 b.b] 3)
    have LT8 : Hid (Ints ((W.alloc (.cells #[.int .i64 a.b, .int .i64 b.b] 3)).drew) (.slice (some ⟨W.heap.size, 0, none⟩) 2 2) [a.b, b.b]) := by exact (Ints.lit2 W (small_64 HA.out.2) (small_64 HBB.out.2)).drew
    refine hK.out _ _ ⟨hb8, box_at x0_0 hb8, box_at x0_1 hb8, box_at x0_2 hb8, box_at x1_0 hb8, box_at x1_1 hb8, box_at x2_0 hb8, box_at x2_1 hb8⟩ (fun _ => ?_)
    clear hK K
    try simp only [Act.put, List.setIfInBounds_toArray, List.set_cons_zero, List.set_cons_succ]
    refine wpV_do (by kernel_rfl) (fun K hK => ?_)
    go_simp
    have hb9 : Below W.heap.size W (((W.alloc (.cells #[.int .i64 a.b, .int .i64 b.b] 3)).alloc (.cells #[.int .i64 a.a, .int .i64 b.a] 3)).drew) := hb8.alloc hb8.size (.cells #[.int .i64 a.a, .int .i64 b.a] 3)
    have LT8_9 : Hid (Ints (((W.alloc (.cells #[.int .i64 a.b, .int .i64 b.b] 3)).alloc (.cells #[.int .i64 a.a, .int .i64 b.a] 3)).drew) (.slice (some ⟨W.heap.size, 0, none⟩) 2 2) [a.b, b.b]) := LT8.out.below ((Below.refl _ _).alloc (Nat.le_refl _) (.cells #[.int .i64 a.a, .int .i64 b.a] 3))
    have LT9 : Hid (Ints (((W.alloc (.cells #[.int .i64 a.b, .int .i64 b.b] 3)).alloc (.cells #[.int .i64 a.a, .int .i64 b.a] 3)).drew) (.slice (some ⟨W.heap.size + 1, 0, none⟩) 2 2) [a.a, b.a]) := by unfold Hid; rw [show W.heap.size + 1 = (W.alloc (.cells #[.int .i64 a.b, .int .i64 b.b] 3)).heap.size by simp]; exact (Ints.lit2 (W.alloc (.cells #[.int .i64 a.b, .int .i64 b.b] 3)) (small_64 HA.out.1) (small_64 HBB.out.1)).drew
    refine hK.out _ _ ⟨hb9, box_at x0_0 hb9, box_at x0_1 hb9, box_at x0_2 hb9, box_at x1_0 hb9, box_at x1_1 hb9, box_at x2_0 hb9, box_at x2_1 hb9⟩ (fun _ => ?_)
    clear hK K
    try simp only [Act.put, List.setIfInBounds_toArray, List.set_cons_zero, List.set_cons_succ]
    refine wpV_do (by kernel_rfl) (fun K hK => ?_)
    go_simp
    go_at_call 197
    refine (impl_mul gr _ [a.a, b.a] _ HG.out LT9.out (small2c HA.out.1 HBB.out.1)).mono ?_
    rintro e v10 ⟨rfl, hq10⟩
    have hb10 := keep_b hq10 hb9
    have LT8_9_10 := Lib.hid (Ints.below LT8_9.out hq10)
    have LT9_10 := Lib.hid (Ints.below LT9.out hq10)
    refine hK.out _ _ ⟨hb10, box_at x0_0 hb10, box_at x0_1 hb10, box_at x0_2 hb10, box_at x1_0 hb10, box_at x1_1 hb10, box_at x2_0 hb10, box_at x2_1 hb10⟩ (fun _ => ?_)
    clear hK K
    try simp only [Act.put, List.setIfInBounds_toArray, List.set_cons_zero, List.set_cons_succ]
    refine wpV_do (by kernel_rfl) (fun K hK => ?_)
    go_simp
    go_at_call 197
    refine (impl_mul gr _ [a.b, b.b] _ HG.out LT8_9_10.out (small2c HA.out.2 HBB.out.2)).mono ?_
    rintro e v11 ⟨rfl, hq11⟩
    have hb11 := keep_b hq11 hb10
    have LT8_9_10_11 := Lib.hid (Ints.below LT8_9_10.out hq11)
    have LT9_10_11 := Lib.hid (Ints.below LT9_10.out hq11)
    refine hK.out _ _ ⟨hb11, box_at x0_0 hb11, box_at x0_1 hb11, box_at x0_2 hb11, box_at x1_0 hb11, box_at x1_1 hb11, box_at x2_0 hb11, box_at x2_1 hb11⟩ (fun _ => ?_)
    clear hK K
    try simp only [Act.put, List.setIfInBounds_toArray, List.set_cons_zero, List.set_cons_succ]
    repeat (refine' wpV_read _ (by kernel_rfl) (fun w' hS' => ?_) ?_; rotate_left; · ((try dsimp only at hS'); go_simp; (try with_reducible rfl)); (try simp only [Act.put, List.setIfInBounds_toArray, List.set_cons_zero, List.set_cons_succ]))
    refine wpV_done ?_
    have HRE := Lib.hid (HR.out.below hb11)
    have HBE := Lib.hid (HB.out.trans (hb11.mono HB.out.size))
    clear hb11
    have r0 := HRE.out.cell (i := 0) rfl
    have r1 := HRE.out.cell (i := 1) rfl
    have fr := fun j => HRE.out.frozen j
    go_wp2_with fail
    refine NoPanic.normal ?_
    have HRF := Lib.hid ((HRE.out.set 0 (.int .i64 (mulL gr [a.a, b.a]))).set 1 (.int .i64 (mulL gr [a.b, b.b])))
    have HBF : Hid (Below w.heap.size w ((v11.setCell ⟨w.heap.size + 1 + 1 + 1, 0, none⟩ (.int .i64 (mulL gr [a.a, b.a]))).setCell ⟨w.heap.size + 1 + 1 + 1, 1, none⟩ (.int .i64 (mulL gr [a.b, b.b])))) := (HBE.out.setCell (by show w.heap.size ≤ w.heap.size + 1 + 1 + 1; omega) _).setCell (by show w.heap.size ≤ w.heap.size + 1 + 1 + 1; omega) _
    clear r0 r1 fr
    have r0 := HRF.out.cell (i := 0) rfl
    have r1 := HRF.out.cell (i := 1) rfl
    go_wp2_with fail
    refine bodyPost_ret (v := .agg #[.int .i64 (mulL gr [a.a, b.a]), .int .i64 (mulL gr [a.b, b.b])]) (by simp [results, Try.results263, go_sem, r0, r1]) rfl ⟨rfl, HBF.out⟩
set_option maxRecDepth 100000 in
set_option maxHeartbeats 2000000 in
theorem impl_powCipher (gr : GroupD) (a : CipherD) (e0 : Int) (w : World) (hg : OkG gr) (ha : SmallC a) (he0 : I64 e0) :
    Calls Try.prog 150 #[.agg #[.int .i64 gr.p, .int .i64 gr.q, .int .i64 gr.g], .agg #[.int .i64 a.a, .int .i64 a.b], .int .i64 e0] w fun e w' => e = .returned (.agg #[.int .i64 (pwC gr a e0).a, .int .i64 (pwC gr a e0).b]) ∧ Below w.heap.size w w' := by
  have HG := Lib.hid hg
  have hp2 := hg.p2
  have hp1 := hg.p1
  have hq1 := hg.q1
  have hq2 := hg.q2
  have hg1 := hg.g1
  have hg2 := hg.g2
  clear hg
  have HA := Lib.hid ha
  have HE0 := Lib.hid he0
  clear ha he0
  obtain ⟨W, hW⟩ : ∃ W, W = ((w.alloc (.cells #[.int .i64 gr.p, .int .i64 gr.q, .int .i64 gr.g] 39)).alloc (.cells #[.int .i64 a.a, .int .i64 a.b] 58)).alloc (.cells #[.int .i64 0, .int .i64 0] 58) := ⟨_, rfl⟩
  have HB : Hid (Below w.heap.size w W) := by unfold Hid; rw [hW]; (repeat (first | exact Below.refl _ _ | assumption | refine Below.drew ?_ | refine Below.alloc ?_ (by first | (simp; done) | (simp; omega)) _ | refine Below.setCell ?_ (by first | (simp; done) | (simp; omega)) _))
  have x0_0 : W.cell? ⟨w.heap.size, 0, none⟩ = some (.int .i64 gr.p) := by rw [hW]; simp [go_sem]
  have x0_1 : W.cell? ⟨w.heap.size, 1, none⟩ = some (.int .i64 gr.q) := by rw [hW]; simp [go_sem]
  have x0_2 : W.cell? ⟨w.heap.size, 2, none⟩ = some (.int .i64 gr.g) := by rw [hW]; simp [go_sem]
  have x1_0 : W.cell? ⟨w.heap.size + 1, 0, none⟩ = some (.int .i64 a.a) := by rw [hW]; simp [go_sem]
  have x1_1 : W.cell? ⟨w.heap.size + 1, 1, none⟩ = some (.int .i64 a.b) := by rw [hW]; simp [go_sem]
  have HR : Hid (BoxN W (w.heap.size + 1 + 1) 58 [.int .i64 0, .int .i64 0]) := by unfold Hid; rw [hW]; have h := BoxN.new ((w.alloc (.cells #[.int .i64 gr.p, .int .i64 gr.q, .int .i64 gr.g] 39)).alloc (.cells #[.int .i64 a.a, .int .i64 a.b] 58)) [.int .i64 0, .int .i64 0] 58; simpa using h
  have HSW : Hid (W.heap.size = w.heap.size + 3) := by unfold Hid; rw [hW]; simp
  have hlr : w.heap.size + 1 + 1 < W.heap.size := by have := HSW.out; omega
  go_enter Try.func150, Try.ntmps150
  go_wp2_with fail
  rw [← hW]
  clear hW
  try (go_wp2_with fail)
  refine wp_region_noPanic ?_
  refine wp_region_V (fun w' => Below W.heap.size W w' ∧ w'.cell? ⟨w.heap.size, 0, none⟩ = some (.int .i64 gr.p) ∧ w'.cell? ⟨w.heap.size, 1, none⟩ = some (.int .i64 gr.q) ∧ w'.cell? ⟨w.heap.size, 2, none⟩ = some (.int .i64 gr.g) ∧ w'.cell? ⟨w.heap.size + 1, 0, none⟩ = some (.int .i64 a.a) ∧ w'.cell? ⟨w.heap.size + 1, 1, none⟩ = some (.int .i64 a.b)) 14 11 (.rd 0 (.rd 1 (.rd 2 (.rd 3 (.rd 5 (.rd 6 (.rd 7 (.rd 8 (.alt 4 (.alt 9 (.rd 10 .done) .nil) .nil))))))))) [11] (by kernel_rfl) (by kernel_rfl) rfl (fun _ _ _ _ _ h => h) ⟨(Below.refl _ _).drew, x0_0, x0_1, x0_2, x1_0, x1_1⟩ ?_
  simp only [pickV, pickN, List.getElem?_cons_zero, List.getElem?_cons_succ]
  have hb0 : Below W.heap.size W W.drew := (Below.refl _ _).drew
  repeat (refine' wpV_read _ (by kernel_rfl) (fun w' hS' => ?_) ?_; rotate_left; · ((try dsimp only at hS'); go_simp; (try with_reducible rfl)); (try simp only [Act.put, List.setIfInBounds_toArray, List.set_cons_zero, List.set_cons_succ]))
  refine wpV_do (by kernel_rfl) (fun K hK => ?_)
  go_simp
  go_at_call 165
  refine (impl_pow gr a.a e0 _ HG.out HA.out.1 HE0.out).mono ?_
  rintro e v1 ⟨rfl, hq1⟩
  have hb1 := keep_b hq1 hb0
  refine hK.out _ _ ⟨hb1, box_at x0_0 hb1, box_at x0_1 hb1, box_at x0_2 hb1, box_at x1_0 hb1, box_at x1_1 hb1⟩ (fun _ => ?_)
  clear hK K
  try simp only [Act.put, List.setIfInBounds_toArray, List.set_cons_zero, List.set_cons_succ]
  refine wpV_do (by kernel_rfl) (fun K hK => ?_)
  go_simp
  go_at_call 165
  refine (impl_pow gr a.b e0 _ HG.out HA.out.2 HE0.out).mono ?_
  rintro e v2 ⟨rfl, hq2⟩
  have hb2 := keep_b hq2 hb1
  refine hK.out _ _ ⟨hb2, box_at x0_0 hb2, box_at x0_1 hb2, box_at x0_2 hb2, box_at x1_0 hb2, box_at x1_1 hb2⟩ (fun _ => ?_)
  clear hK K
  try simp only [Act.put, List.setIfInBounds_toArray, List.set_cons_zero, List.set_cons_succ]
  repeat (refine' wpV_read _ (by kernel_rfl) (fun w' hS' => ?_) ?_; rotate_left; · ((try dsimp only at hS'); go_simp; (try with_reducible rfl)); (try simp only [Act.put, List.setIfInBounds_toArray, List.set_cons_zero, List.set_cons_succ]))
  refine wpV_done ?_
  have HRE := Lib.hid (HR.out.below hb2)
  have HBE := Lib.hid (HB.out.trans (hb2.mono HB.out.size))
  clear hb2
  have r0 := HRE.out.cell (i := 0) rfl
  have r1 := HRE.out.cell (i := 1) rfl
  have fr := fun j => HRE.out.frozen j
  go_wp2_with fail
  refine NoPanic.normal ?_
  have HRF := Lib.hid ((HRE.out.set 0 (.int .i64 (powE gr a.a e0))).set 1 (.int .i64 (powE gr a.b e0)))
  have HBF : Hid (Below w.heap.size w ((v2.setCell ⟨w.heap.size + 1 + 1, 0, none⟩ (.int .i64 (powE gr a.a e0))).setCell ⟨w.heap.size + 1 + 1, 1, none⟩ (.int .i64 (powE gr a.b e0)))) := (HBE.out.setCell (by show w.heap.size ≤ w.heap.size + 1 + 1; omega) _).setCell (by show w.heap.size ≤ w.heap.size + 1 + 1; omega) _
  clear r0 r1 fr
  have r0 := HRF.out.cell (i := 0) rfl
  have r1 := HRF.out.cell (i := 1) rfl
  go_wp2_with fail
  refine bodyPost_ret (v := .agg #[.int .i64 (powE gr a.a e0), .int .i64 (powE gr a.b e0)]) (by simp [results, Try.results150, go_sem, r0, r1]) rfl ⟨rfl, HBF.out⟩
set_option maxRecDepth 100000 in
set_option maxHeartbeats 2000000 in
theorem spec_ePow (gr : GroupD) (a : CipherD) (e0 : Int) (w : World) (hg : OkG gr) (ha : SmallC a) (he0 : I64 e0) :
    Calls Try.prog 151 #[.agg #[.int .i64 gr.p, .int .i64 gr.q, .int .i64 gr.g], .agg #[.int .i64 a.a, .int .i64 a.b], .int .i64 e0] w fun e w' => e = .returned (.agg #[.int .i64 (pwC gr a e0).a, .int .i64 (pwC gr a e0).b]) ∧ Below w.heap.size w w' := by
  have HG := Lib.hid hg
  have hp2 := hg.p2
  have hp1 := hg.p1
  have hq1 := hg.q1
  have hq2 := hg.q2
  have hg1 := hg.g1
  have hg2 := hg.g2
  clear hg
  have HA := Lib.hid ha
  have HE0 := Lib.hid he0
  clear ha he0
  obtain ⟨W, hW⟩ : ∃ W, W = ((w.alloc (.cells #[.int .i64 gr.p, .int .i64 gr.q, .int .i64 gr.g] 39)).alloc (.cells #[.int .i64 a.a, .int .i64 a.b] 58)).alloc (.cells #[.int .i64 0, .int .i64 0] 58) := ⟨_, rfl⟩
  have HB : Hid (Below w.heap.size w W) := by unfold Hid; rw [hW]; (repeat (first | exact Below.refl _ _ | assumption | refine Below.drew ?_ | refine Below.alloc ?_ (by first | (simp; done) | (simp; omega)) _ | refine Below.setCell ?_ (by first | (simp; done) | (simp; omega)) _))
  have x0_0 : W.cell? ⟨w.heap.size, 0, none⟩ = some (.int .i64 gr.p) := by rw [hW]; simp [go_sem]
  have x0_1 : W.cell? ⟨w.heap.size, 1, none⟩ = some (.int .i64 gr.q) := by rw [hW]; simp [go_sem]
  have x0_2 : W.cell? ⟨w.heap.size, 2, none⟩ = some (.int .i64 gr.g) := by rw [hW]; simp [go_sem]
  have x1_0 : W.cell? ⟨w.heap.size + 1, 0, none⟩ = some (.int .i64 a.a) := by rw [hW]; simp [go_sem]
  have x1_1 : W.cell? ⟨w.heap.size + 1, 1, none⟩ = some (.int .i64 a.b) := by rw [hW]; simp [go_sem]
  have HR : Hid (BoxN W (w.heap.size + 1 + 1) 58 [.int .i64 0, .int .i64 0]) := by unfold Hid; rw [hW]; have h := BoxN.new ((w.alloc (.cells #[.int .i64 gr.p, .int .i64 gr.q, .int .i64 gr.g] 39)).alloc (.cells #[.int .i64 a.a, .int .i64 a.b] 58)) [.int .i64 0, .int .i64 0] 58; simpa using h
  have HSW : Hid (W.heap.size = w.heap.size + 3) := by unfold Hid; rw [hW]; simp
  have hlr : w.heap.size + 1 + 1 < W.heap.size := by have := HSW.out; omega
  go_enter Try.func151, Try.ntmps151
  go_wp2_with fail
  rw [← hW]
  clear hW
  try (go_wp2_with fail)
  refine wp_region_noPanic ?_
  refine wp_region_V (fun w' => Below W.heap.size W w' ∧ w'.cell? ⟨w.heap.size, 0, none⟩ = some (.int .i64 gr.p) ∧ w'.cell? ⟨w.heap.size, 1, none⟩ = some (.int .i64 gr.q) ∧ w'.cell? ⟨w.heap.size, 2, none⟩ = some (.int .i64 gr.g) ∧ w'.cell? ⟨w.heap.size + 1, 0, none⟩ = some (.int .i64 a.a) ∧ w'.cell? ⟨w.heap.size + 1, 1, none⟩ = some (.int .i64 a.b)) 14 11 (.rd 0 (.rd 1 (.rd 2 (.rd 3 (.rd 5 (.rd 6 (.rd 7 (.rd 8 (.alt 4 (.alt 9 (.rd 10 .done) .nil) .nil))))))))) [11] (by kernel_rfl) (by kernel_rfl) rfl (fun _ _ _ _ _ h => h) ⟨(Below.refl _ _).drew, x0_0, x0_1, x0_2, x1_0, x1_1⟩ ?_
  simp only [pickV, pickN, List.getElem?_cons_zero, List.getElem?_cons_succ]
  have hb0 : Below W.heap.size W W.drew := (Below.refl _ _).drew
  repeat (refine' wpV_read _ (by kernel_rfl) (fun w' hS' => ?_) ?_; rotate_left; · ((try dsimp only at hS'); go_simp; (try with_reducible rfl)); (try simp only [Act.put, List.setIfInBounds_toArray, List.set_cons_zero, List.set_cons_succ]))
  refine wpV_do (by kernel_rfl) (fun K hK => ?_)
  go_simp
  go_at_call 156
  refine (spec_gExp gr a.a e0 _ HG.out HA.out.1 HE0.out).mono ?_
  rintro e v1 ⟨rfl, hq1⟩
  have hb1 := keep_b hq1 hb0
  refine hK.out _ _ ⟨hb1, box_at x0_0 hb1, box_at x0_1 hb1, box_at x0_2 hb1, box_at x1_0 hb1, box_at x1_1 hb1⟩ (fun _ => ?_)
  clear hK K
  try simp only [Act.put, List.setIfInBounds_toArray, List.set_cons_zero, List.set_cons_succ]
  refine wpV_do (by kernel_rfl) (fun K hK => ?_)
  go_simp
  go_at_call 156
  refine (spec_gExp gr a.b e0 _ HG.out HA.out.2 HE0.out).mono ?_
  rintro e v2 ⟨rfl, hq2⟩
  have hb2 := keep_b hq2 hb1
  refine hK.out _ _ ⟨hb2, box_at x0_0 hb2, box_at x0_1 hb2, box_at x0_2 hb2, box_at x1_0 hb2, box_at x1_1 hb2⟩ (fun _ => ?_)
  clear hK K
  try simp only [Act.put, List.setIfInBounds_toArray, List.set_cons_zero, List.set_cons_succ]
  repeat (refine' wpV_read _ (by kernel_rfl) (fun w' hS' => ?_) ?_; rotate_left; · ((try dsimp only at hS'); go_simp; (try with_reducible rfl)); (try simp only [Act.put, List.setIfInBounds_toArray, List.set_cons_zero, List.set_cons_succ]))
  refine wpV_done ?_
  have HRE := Lib.hid (HR.out.below hb2)
  have HBE := Lib.hid (HB.out.trans (hb2.mono HB.out.size))
  clear hb2
  have r0 := HRE.out.cell (i := 0) rfl
  have r1 := HRE.out.cell (i := 1) rfl
  have fr := fun j => HRE.out.frozen j
  go_wp2_with fail
  refine NoPanic.normal ?_
  have HRF := Lib.hid ((HRE.out.set 0 (.int .i64 (powE gr a.a e0))).set 1 (.int .i64 (powE gr a.b e0)))
  have HBF : Hid (Below w.heap.size w ((v2.setCell ⟨w.heap.size + 1 + 1, 0, none⟩ (.int .i64 (powE gr a.a e0))).setCell ⟨w.heap.size + 1 + 1, 1, none⟩ (.int .i64 (powE gr a.b e0)))) := (HBE.out.setCell (by show w.heap.size ≤ w.heap.size + 1 + 1; omega) _).setCell (by show w.heap.size ≤ w.heap.size + 1 + 1; omega) _
  clear r0 r1 fr
  have r0 := HRF.out.cell (i := 0) rfl
  have r1 := HRF.out.cell (i := 1) rfl
  go_wp2_with fail
  refine bodyPost_ret (v := .agg #[.int .i64 (powE gr a.a e0), .int .i64 (powE gr a.b e0)]) (by simp [results, Try.results151, go_sem, r0, r1]) rfl ⟨rfl, HBF.out⟩
set_option maxRecDepth 100000 in
set_option maxHeartbeats 2000000 in
theorem impl_encrypt (gr : GroupD) (key m r : Int) (w : World) (hg : OkG gr) (hk : Small key) (hm : Small m) (hr : I64 r) :
    Calls Try.prog 184 #[.agg #[.int .i64 gr.p, .int .i64 gr.q, .int .i64 gr.g], .int .i64 key, .int .i64 m, .int .i64 r] w fun e w' => e = .returned (.agg #[.int .i64 (enC gr key m r).a, .int .i64 (enC gr key m r).b]) ∧ Below w.heap.size w w' := by
  have HG := Lib.hid hg
  have hp2 := hg.p2
  have hp1 := hg.p1
  have hq1 := hg.q1
  have hq2 := hg.q2
  have hg1 := hg.g1
  have hg2 := hg.g2
  clear hg
  have HK := Lib.hid hk
  have HM := Lib.hid hm
  have HR0 := Lib.hid hr
  clear hk hm hr
  have HPK := Lib.hid (powE_small HG.out key r)
  obtain ⟨W, hW⟩ : ∃ W, W = (w.alloc (.cells #[.int .i64 gr.p, .int .i64 gr.q, .int .i64 gr.g] 39)).alloc (.cells #[.int .i64 0, .int .i64 0] 58) := ⟨_, rfl⟩
  have HB : Hid (Below w.heap.size w W) := by unfold Hid; rw [hW]; (repeat (first | exact Below.refl _ _ | assumption | refine Below.drew ?_ | refine Below.alloc ?_ (by first | (simp; done) | (simp; omega)) _ | refine Below.setCell ?_ (by first | (simp; done) | (simp; omega)) _))
  have x0_0 : W.cell? ⟨w.heap.size, 0, none⟩ = some (.int .i64 gr.p) := by rw [hW]; simp [go_sem]
  have x0_1 : W.cell? ⟨w.heap.size, 1, none⟩ = some (.int .i64 gr.q) := by rw [hW]; simp [go_sem]
  have x0_2 : W.cell? ⟨w.heap.size, 2, none⟩ = some (.int .i64 gr.g) := by rw [hW]; simp [go_sem]
  have HR : Hid (BoxN W (w.heap.size + 1) 58 [.int .i64 0, .int .i64 0]) := by unfold Hid; rw [hW]; have h := BoxN.new (w.alloc (.cells #[.int .i64 gr.p, .int .i64 gr.q, .int .i64 gr.g] 39)) [.int .i64 0, .int .i64 0] 58; simpa using h
  have HSW : Hid (W.heap.size = w.heap.size + 2) := by unfold Hid; rw [hW]; simp
  have hlr : w.heap.size + 1 < W.heap.size := by have := HSW.out; omega
  go_enter Try.func184, Try.ntmps184
  go_wp2_with fail
  rw [← hW]
  clear hW
  try (go_wp2_with fail)
  refine wp_region_noPanic ?_
  refine wp_region_V (fun w' => Below W.heap.size W w' ∧ w'.cell? ⟨w.heap.size, 0, none⟩ = some (.int .i64 gr.p) ∧ w'.cell? ⟨w.heap.size, 1, none⟩ = some (.int .i64 gr.q) ∧ w'.cell? ⟨w.heap.size, 2, none⟩ = some (.int .i64 gr.g)) 17 14 (.rd 0 (.rd 1 (.rd 2 (.rd 3 (.rd 5 (.rd 6 (.rd 7 (.rd 8 (.rd 9 (.alt 4 (.alt 10 (.alt 11 (.alt 12 (.rd 13 .done) .nil) .nil) .nil) .nil)))))))))) [14] (by kernel_rfl) (by kernel_rfl) rfl (fun _ _ _ _ _ h => h) ⟨(Below.refl _ _).drew, x0_0, x0_1, x0_2⟩ ?_
  simp only [pickV, pickN, List.getElem?_cons_zero, List.getElem?_cons_succ]
  have hb0 : Below W.heap.size W W.drew := (Below.refl _ _).drew
  repeat (refine' wpV_read _ (by kernel_rfl) (fun w' hS' => ?_) ?_; rotate_left; · ((try dsimp only at hS'); go_simp; (try with_reducible rfl)); (try simp only [Act.put, List.setIfInBounds_toArray, List.set_cons_zero, List.set_cons_succ]))
  refine wpV_do (by kernel_rfl) (fun K hK => ?_)
  go_simp
  go_at_call 165
  refine (impl_pow gr gr.g r _ HG.out ⟨by omega, by omega⟩ HR0.out).mono ?_
  rintro e v1 ⟨rfl, hq1⟩
  have hb1 := keep_b hq1 hb0
  refine hK.out _ _ ⟨hb1, box_at x0_0 hb1, box_at x0_1 hb1, box_at x0_2 hb1⟩ (fun _ => ?_)
  clear hK K
  try simp only [Act.put, List.setIfInBounds_toArray, List.set_cons_zero, List.set_cons_succ]
  refine wpV_do (by kernel_rfl) (fun K hK => ?_)
  go_simp
  go_at_call 165
  refine (impl_pow gr key r _ HG.out HK.out HR0.out).mono ?_
  rintro e v2 ⟨rfl, hq2⟩
  have hb2 := keep_b hq2 hb1
  refine hK.out _ _ ⟨hb2, box_at x0_0 hb2, box_at x0_1 hb2, box_at x0_2 hb2⟩ (fun _ => ?_)
  clear hK K
  try simp only [Act.put, List.setIfInBounds_toArray, List.set_cons_zero, List.set_cons_succ]
  refine wpV_do (by kernel_rfl) (fun K hK => ?_)
  go_simp
  have hb3 : Below W.heap.size W (v2.alloc (.cells #[.int .i64 m, .int .i64 (powE gr key r)] 3)) := hb2.alloc hb2.size (.cells #[.int .i64 m, .int .i64 (powE gr key r)] 3)
  have LT3 : Hid (Ints (v2.alloc (.cells #[.int .i64 m, .int .i64 (powE gr key r)] 3)) (.slice (some ⟨v2.heap.size, 0, none⟩) 2 2) [m, (powE gr key r)]) := by exact (Ints.lit2 v2 (small_64 HM.out) (small_64 HPK.out))
  refine hK.out _ _ ⟨hb3, box_at x0_0 hb3, box_at x0_1 hb3, box_at x0_2 hb3⟩ (fun _ => ?_)
  clear hK K
  try simp only [Act.put, List.setIfInBounds_toArray, List.set_cons_zero, List.set_cons_succ]
  refine wpV_do (by kernel_rfl) (fun K hK => ?_)
  go_simp
  go_at_call 197
  refine (impl_mul gr _ [m, powE gr key r] _ HG.out LT3.out (small2c HM.out HPK.out)).mono ?_
  rintro e v4 ⟨rfl, hq4⟩
  have hb4 := keep_b hq4 hb3
  have LT3_4 := Lib.hid (Ints.below LT3.out hq4)
  refine hK.out _ _ ⟨hb4, box_at x0_0 hb4, box_at x0_1 hb4, box_at x0_2 hb4⟩ (fun _ => ?_)
  clear hK K
  try simp only [Act.put, List.setIfInBounds_toArray, List.set_cons_zero, List.set_cons_succ]
  repeat (refine' wpV_read _ (by kernel_rfl) (fun w' hS' => ?_) ?_; rotate_left; · ((try dsimp only at hS'); go_simp; (try with_reducible rfl)); (try simp only [Act.put, List.setIfInBounds_toArray, List.set_cons_zero, List.set_cons_succ]))
  refine wpV_done ?_
  have HRE := Lib.hid (HR.out.below hb4)
  have HBE := Lib.hid (HB.out.trans (hb4.mono HB.out.size))
  clear hb4
  have r0 := HRE.out.cell (i := 0) rfl
  have r1 := HRE.out.cell (i := 1) rfl
  have fr := fun j => HRE.out.frozen j
  go_wp2_with fail
  refine NoPanic.normal ?_
  have HRF := Lib.hid ((HRE.out.set 0 (.int .i64 (powE gr gr.g r))).set 1 (.int .i64 (mulL gr [m, powE gr key r])))
  have HBF : Hid (Below w.heap.size w ((v4.setCell ⟨w.heap.size + 1, 0, none⟩ (.int .i64 (powE gr gr.g r))).setCell ⟨w.heap.size + 1, 1, none⟩ (.int .i64 (mulL gr [m, powE gr key r])))) := (HBE.out.setCell (by show w.heap.size ≤ w.heap.size + 1; omega) _).setCell (by show w.heap.size ≤ w.heap.size + 1; omega) _
  clear r0 r1 fr
  have r0 := HRF.out.cell (i := 0) rfl
  have r1 := HRF.out.cell (i := 1) rfl
  go_wp2_with fail
  refine bodyPost_ret (v := .agg #[.int .i64 (powE gr gr.g r), .int .i64 (mulL gr [m, powE gr key r])]) (by simp [results, Try.results184, go_sem, r0, r1]) rfl ⟨rfl, HBF.out⟩
set_option maxRecDepth 100000 in
set_option maxHeartbeats 2000000 in
theorem spec_eEnc (gr : GroupD) (key m r : Int) (w : World) (hg : OkG gr) (hk : Small key) (hm : Small m) (hr : I64 r) :
    Calls Try.prog 157 #[.agg #[.int .i64 gr.p, .int .i64 gr.q, .int .i64 gr.g], .int .i64 key, .int .i64 m, .int .i64 r] w fun e w' => e = .returned (.agg #[.int .i64 (enC gr key m r).a, .int .i64 (enC gr key m r).b]) ∧ Below w.heap.size w w' := by
  have HG := Lib.hid hg
  have hp2 := hg.p2
  have hp1 := hg.p1
  have hq1 := hg.q1
  have hq2 := hg.q2
  have hg1 := hg.g1
  have hg2 := hg.g2
  clear hg
  have HK := Lib.hid hk
  have HM := Lib.hid hm
  have HR0 := Lib.hid hr
  clear hk hm hr
  have HPK := Lib.hid (powE_small HG.out key r)
  obtain ⟨W, hW⟩ : ∃ W, W = (w.alloc (.cells #[.int .i64 gr.p, .int .i64 gr.q, .int .i64 gr.g] 39)).alloc (.cells #[.int .i64 0, .int .i64 0] 58) := ⟨_, rfl⟩
  have HB : Hid (Below w.heap.size w W) := by unfold Hid; rw [hW]; (repeat (first | exact Below.refl _ _ | assumption | refine Below.drew ?_ | refine Below.alloc ?_ (by first | (simp; done) | (simp; omega)) _ | refine Below.setCell ?_ (by first | (simp; done) | (simp; omega)) _))
  have x0_0 : W.cell? ⟨w.heap.size, 0, none⟩ = some (.int .i64 gr.p) := by rw [hW]; simp [go_sem]
  have x0_1 : W.cell? ⟨w.heap.size, 1, none⟩ = some (.int .i64 gr.q) := by rw [hW]; simp [go_sem]
  have x0_2 : W.cell? ⟨w.heap.size, 2, none⟩ = some (.int .i64 gr.g) := by rw [hW]; simp [go_sem]
  have HR : Hid (BoxN W (w.heap.size + 1) 58 [.int .i64 0, .int .i64 0]) := by unfold Hid; rw [hW]; have h := BoxN.new (w.alloc (.cells #[.int .i64 gr.p, .int .i64 gr.q, .int .i64 gr.g] 39)) [.int .i64 0, .int .i64 0] 58; simpa using h
  have HSW : Hid (W.heap.size = w.heap.size + 2) := by unfold Hid; rw [hW]; simp
  have hlr : w.heap.size + 1 < W.heap.size := by have := HSW.out; omega
  go_enter Try.func157, Try.ntmps157
  go_wp2_with fail
  rw [← hW]
  clear hW
  try (go_wp2_with fail)
  refine wp_region_noPanic ?_
  refine wp_region_V (fun w' => Below W.heap.size W w' ∧ w'.cell? ⟨w.heap.size, 0, none⟩ = some (.int .i64 gr.p) ∧ w'.cell? ⟨w.heap.size, 1, none⟩ = some (.int .i64 gr.q) ∧ w'.cell? ⟨w.heap.size, 2, none⟩ = some (.int .i64 gr.g)) 17 14 (.rd 0 (.rd 1 (.rd 2 (.rd 3 (.rd 5 (.rd 6 (.rd 7 (.rd 8 (.rd 9 (.alt 4 (.alt 10 (.alt 11 (.alt 12 (.rd 13 .done) .nil) .nil) .nil) .nil)))))))))) [14] (by kernel_rfl) (by kernel_rfl) rfl (fun _ _ _ _ _ h => h) ⟨(Below.refl _ _).drew, x0_0, x0_1, x0_2⟩ ?_
  simp only [pickV, pickN, List.getElem?_cons_zero, List.getElem?_cons_succ]
  have hb0 : Below W.heap.size W W.drew := (Below.refl _ _).drew
  repeat (refine' wpV_read _ (by kernel_rfl) (fun w' hS' => ?_) ?_; rotate_left; · ((try dsimp only at hS'); go_simp; (try with_reducible rfl)); (try simp only [Act.put, List.setIfInBounds_toArray, List.set_cons_zero, List.set_cons_succ]))
  refine wpV_do (by kernel_rfl) (fun K hK => ?_)
  go_simp
  go_at_call 156
  refine (spec_gExp gr gr.g r _ HG.out ⟨by omega, by omega⟩ HR0.out).mono ?_
  rintro e v1 ⟨rfl, hq1⟩
  have hb1 := keep_b hq1 hb0
  refine hK.out _ _ ⟨hb1, box_at x0_0 hb1, box_at x0_1 hb1, box_at x0_2 hb1⟩ (fun _ => ?_)
  clear hK K
  try simp only [Act.put, List.setIfInBounds_toArray, List.set_cons_zero, List.set_cons_succ]
  refine wpV_do (by kernel_rfl) (fun K hK => ?_)
  go_simp
  go_at_call 156
  refine (spec_gExp gr key r _ HG.out HK.out HR0.out).mono ?_
  rintro e v2 ⟨rfl, hq2⟩
  have hb2 := keep_b hq2 hb1
  refine hK.out _ _ ⟨hb2, box_at x0_0 hb2, box_at x0_1 hb2, box_at x0_2 hb2⟩ (fun _ => ?_)
  clear hK K
  try simp only [Act.put, List.setIfInBounds_toArray, List.set_cons_zero, List.set_cons_succ]
  refine wpV_do (by kernel_rfl) (fun K hK => ?_)
  go_simp
  have hb3 : Below W.heap.size W (v2.alloc (.cells #[.int .i64 m, .int .i64 (powE gr key r)] 3)) := hb2.alloc hb2.size (.cells #[.int .i64 m, .int .i64 (powE gr key r)] 3)
  have LT3 : Hid (Ints (v2.alloc (.cells #[.int .i64 m, .int .i64 (powE gr key r)] 3)) (.slice (some ⟨v2.heap.size, 0, none⟩) 2 2) [m, (powE gr key r)]) := by exact (Ints.lit2 v2 (small_64 HM.out) (small_64 HPK.out))
  refine hK.out _ _ ⟨hb3, box_at x0_0 hb3, box_at x0_1 hb3, box_at x0_2 hb3⟩ (fun _ => ?_)
  clear hK K
  try simp only [Act.put, List.setIfInBounds_toArray, List.set_cons_zero, List.set_cons_succ]
  refine wpV_do (by kernel_rfl) (fun K hK => ?_)
  go_simp
  go_at_call 211
  refine (spec_gMul gr _ [m, powE gr key r] _ HG.out LT3.out (small2c HM.out HPK.out)).mono ?_
  rintro e v4 ⟨rfl, hq4⟩
  have hb4 := keep_b hq4 hb3
  have LT3_4 := Lib.hid (Ints.below LT3.out hq4)
  refine hK.out _ _ ⟨hb4, box_at x0_0 hb4, box_at x0_1 hb4, box_at x0_2 hb4⟩ (fun _ => ?_)
  clear hK K
  try simp only [Act.put, List.setIfInBounds_toArray, List.set_cons_zero, List.set_cons_succ]
  repeat (refine' wpV_read _ (by kernel_rfl) (fun w' hS' => ?_) ?_; rotate_left; · ((try dsimp only at hS'); go_simp; (try with_reducible rfl)); (try simp only [Act.put, List.setIfInBounds_toArray, List.set_cons_zero, List.set_cons_succ]))
  refine wpV_done ?_
  have HRE := Lib.hid (HR.out.below hb4)
  have HBE := Lib.hid (HB.out.trans (hb4.mono HB.out.size))
  clear hb4
  have r0 := HRE.out.cell (i := 0) rfl
  have r1 := HRE.out.cell (i := 1) rfl
  have fr := fun j => HRE.out.frozen j
  go_wp2_with fail
  refine NoPanic.normal ?_
  have HRF := Lib.hid ((HRE.out.set 0 (.int .i64 (powE gr gr.g r))).set 1 (.int .i64 (mulL gr [m, powE gr key r])))
  have HBF : Hid (Below w.heap.size w ((v4.setCell ⟨w.heap.size + 1, 0, none⟩ (.int .i64 (powE gr gr.g r))).setCell ⟨w.heap.size + 1, 1, none⟩ (.int .i64 (mulL gr [m, powE gr key r])))) := (HBE.out.setCell (by show w.heap.size ≤ w.heap.size + 1; omega) _).setCell (by show w.heap.size ≤ w.heap.size + 1; omega) _
  clear r0 r1 fr
  have r0 := HRF.out.cell (i := 0) rfl
  have r1 := HRF.out.cell (i := 1) rfl
  go_wp2_with fail
  refine bodyPost_ret (v := .agg #[.int .i64 (powE gr gr.g r), .int .i64 (mulL gr [m, powE gr key r])]) (by simp [results, Try.results157, go_sem, r0, r1]) rfl ⟨rfl, HBF.out⟩
end Go.Proofs.Ytboahnklilmdpaa

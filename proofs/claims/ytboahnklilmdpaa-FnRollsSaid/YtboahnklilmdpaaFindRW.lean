/- Ciphertexts: products, powers, encryptions: walks (printed by gen_cip1.py). -/
import Derived.Test.YtboahnklilmdpaaBgW
import Derived.Test.YtboahnklilmdpaaRegVW
import Derived.Test.YtboahnklilmdpaaBaW
import Derived.Test.YtboahnklilmdpaaRegPW
namespace Go.Proofs.Ytboahnklilmdpaa
open Go.RowKit
set_option linter.unusedSimpArgs false
set_option linter.unusedVariables false

def c2 (gr : GroupD) (a b : CipherD) : CipherD := ⟨mulL gr [a.a, b.a], mulL gr [a.b, b.b]⟩
def enC (gr : GroupD) (key m r : Int) : CipherD := ⟨powE gr gr.g r, mulL gr [m, powE gr key r]⟩
def SmallC (c : CipherD) : Prop := Small c.a ∧ Small c.b
theorem small_64 {x : Int} (h : Small x) : I64 x := ⟨by have := h.1; omega, by have := h.2; omega⟩
theorem small2c {a b : Int} (ha : Small a) (hb : Small b) : AllSmall [a, b] := fun x hx => by
  rcases List.mem_cons.1 hx with rfl | hx
  · exact ha
  · rw [List.mem_singleton.1 hx]; exact hb
theorem powE_small {gr : GroupD} (hg : OkG gr) (x e : Int) : Small (powE gr x e) := by
  have := powE_bd hg x e; have := hg.p2; exact ⟨by omega, by omega⟩
theorem mulL_small {gr : GroupD} (hg : OkG gr) (l : List Int) : Small (mulL gr l) := by
  have := mulL_bd hg l; have := hg.p2; exact ⟨by omega, by omega⟩
theorem enC_small {gr : GroupD} (hg : OkG gr) (key m r : Int) : SmallC (enC gr key m r) := ⟨powE_small hg _ _, mulL_small hg _⟩
set_option maxRecDepth 100000 in
set_option maxHeartbeats 2000000 in
theorem impl_encrypt (gr : GroupD) (key m r : Int) (w : World) (hg : OkG gr) (hk : Small key) (hm : Small m) (hr : I64 r) :
    Calls Try.prog 184 #[.agg #[.int .i64 gr.p, .int .i64 gr.q, .int .i64 gr.g], .int .i64 key, .int .i64 m, .int .i64 r] w fun e w' => e = .returned (.agg #[.int .i64 (enC gr key m r).a, .int .i64 (enC gr key m r).b]) ∧ Below w.heap.size w w' := by
  have HG := Lib.hid hg
  have hp2 := hg.p2
  have hp1 := hg.p1
  have hq1 := hg.q1
  have hq2 := hg.q2
  have hg1 := hg.g1
  have hg2 := hg.g2
  clear hg
  have HK := Lib.hid hk
  have HM := Lib.hid hm
  have HR0 := Lib.hid hr
  clear hk hm hr
  have HPK := Lib.hid (powE_small HG.out key r)
  obtain ⟨W, hW⟩ : ∃ W, W = (w.alloc (.cells #[.int .i64 gr.p, .int .i64 gr.q, .int .i64 gr.g] 39)).alloc (.cells #[.int .i64 0, .int .i64 0] 58) := ⟨_, rfl⟩
  have HB : Hid (Below w.heap.size w W) := by unfold Hid; rw [hW]; (repeat (first | exact Below.refl _ _ | assumption | refine Below.drew ?_ | refine Below.alloc ?_ (by first | (simp; done) | (simp; omega)) _ | refine Below.setCell ?_ (by first | (simp; done) | (simp; omega)) _))
  have x0_0 : W.cell? ⟨w.heap.size, 0, none⟩ = some (.int .i64 gr.p) := by rw [hW]; simp [go_sem]
  have x0_1 : W.cell? ⟨w.heap.size, 1, none⟩ = some (.int .i64 gr.q) := by rw [hW]; simp [go_sem]
  have x0_2 : W.cell? ⟨w.heap.size, 2, none⟩ = some (.int .i64 gr.g) := by rw [hW]; simp [go_sem]
  have HR : Hid (BoxN W (w.heap.size + 1) 58 [.int .i64 0, .int .i64 0]) := by unfold Hid; rw [hW]; have h := BoxN.new (w.alloc (.cells #[.int .i64 gr.p, .int .i64 gr.q, .int .i64 gr.g] 39)) [.int .i64 0, .int .i64 0] 58; simpa using h
  have HSW : Hid (W.heap.size = w.heap.size + 2) := by unfold Hid; rw [hW]; simp
  have hlr : w.heap.size + 1 < W.heap.size := by have := HSW.out; omega
  go_enter Try.func184, Try.ntmps184
  go_wp2_with fail
  rw [← hW]
  clear hW
  try (go_wp2_with fail)
  refine wp_region_noPanic ?_
  refine wp_region_V (fun w' => Below W.heap.size W w' ∧ w'.cell? ⟨w.heap.size, 0, none⟩ = some (.int .i64 gr.p) ∧ w'.cell? ⟨w.heap.size, 1, none⟩ = some (.int .i64 gr.q) ∧ w'.cell? ⟨w.heap.size, 2, none⟩ = some (.int .i64 gr.g)) 17 14 (.rd 0 (.rd 1 (.rd 2 (.rd 3 (.rd 5 (.rd 6 (.rd 7 (.rd 8 (.rd 9 (.alt 4 (.alt 10 (.alt 11 (.alt 12 (.rd 13 .done) .nil) .nil) .nil) .nil)))))))))) [14] (by kernel_rfl) (by kernel_rfl) rfl (fun _ _ _ _ _ h => h) ⟨(Below.refl _ _).drew, x0_0, x0_1, x0_2⟩ ?_
  simp only [pickV, pickN, List.getElem?_cons_zero, List.getElem?_cons_succ]
  have hb0 : Below W.heap.size W W.drew := (Below.refl _ _).drew
  repeat (refine' wpV_read _ (by kernel_rfl) (fun w' hS' => ?_) ?_; rotate_left; · ((try dsimp only at hS'); go_simp; (try with_reducible rfl)); (try simp only [Act.put, List.setIfInBounds_toArray, List.set_cons_zero, List.set_cons_succ]))
  refine wpV_do (by kernel_rfl) (fun K hK => ?_)
  go_simp
  go_at_call 165
  refine (impl_pow gr gr.g r _ HG.out ⟨by omega, by omega⟩ HR0.out).mono ?_
  rintro e v1 ⟨rfl, hq1⟩
  have hb1 := keep_b hq1 hb0
  refine hK.out _ _ ⟨hb1, box_at x0_0 hb1, box_at x0_1 hb1, box_at x0_2 hb1⟩ (fun _ => ?_)
  clear hK K
  try simp only [Act.put, List.setIfInBounds_toArray, List.set_cons_zero, List.set_cons_succ]
  refine wpV_do (by kernel_rfl) (fun K hK => ?_)
  go_simp
  go_at_call 165
  refine (impl_pow gr key r _ HG.out HK.out HR0.out).mono ?_
  rintro e v2 ⟨rfl, hq2⟩
  have hb2 := keep_b hq2 hb1
  refine hK.out _ _ ⟨hb2, box_at x0_0 hb2, box_at x0_1 hb2, box_at x0_2 hb2⟩ (fun _ => ?_)
  clear hK K
  try simp only [Act.put, List.setIfInBounds_toArray, List.set_cons_zero, List.set_cons_succ]
  refine wpV_do (by kernel_rfl) (fun K hK => ?_)
  go_simp
  have hb3 : Below W.heap.size W (v2.alloc (.cells #[.int .i64 m, .int .i64 (powE gr key r)] 3)) := hb2.alloc hb2.size (.cells #[.int .i64 m, .int .i64 (powE gr key r)] 3)
  have LT3 : Hid (Ints (v2.alloc (.cells #[.int .i64 m, .int .i64 (powE gr key r)] 3)) (.slice (some ⟨v2.heap.size, 0, none⟩) 2 2) [m, (powE gr key r)]) := by exact (Ints.lit2 v2 (small_64 HM.out) (small_64 HPK.out))
  refine hK.out _ _ ⟨hb3, box_at x0_0 hb3, box_at x0_1 hb3, box_at x0_2 hb3⟩ (fun _ => ?_)
  clear hK K
  try simp only [Act.put, List.setIfInBounds_toArray, List.set_cons_zero, List.set_cons_succ]
  refine wpV_do (by kernel_rfl) (fun K hK => ?_)
  go_simp
  go_at_call 197
  refine (impl_mul gr _ [m, powE gr key r] _ HG.out LT3.out (small2c HM.out HPK.out)).mono ?_
  rintro e v4 ⟨rfl, hq4⟩
  have hb4 := keep_b hq4 hb3
  have LT3_4 := Lib.hid (Ints.below LT3.out hq4)
  refine hK.out _ _ ⟨hb4, box_at x0_0 hb4, box_at x0_1 hb4, box_at x0_2 hb4⟩ (fun _ => ?_)
  clear hK K
  try simp only [Act.put, List.setIfInBounds_toArray, List.set_cons_zero, List.set_cons_succ]
  repeat (refine' wpV_read _ (by kernel_rfl) (fun w' hS' => ?_) ?_; rotate_left; · ((try dsimp only at hS'); go_simp; (try with_reducible rfl)); (try simp only [Act.put, List.setIfInBounds_toArray, List.set_cons_zero, List.set_cons_succ]))
  refine wpV_done ?_
  have HRE := Lib.hid (HR.out.below hb4)
  have HBE := Lib.hid (HB.out.trans (hb4.mono HB.out.size))
  clear hb4
  have r0 := HRE.out.cell (i := 0) rfl
  have r1 := HRE.out.cell (i := 1) rfl
  have fr := fun j => HRE.out.frozen j
  go_wp2_with fail
  refine NoPanic.normal ?_
  have HRF := Lib.hid ((HRE.out.set 0 (.int .i64 (powE gr gr.g r))).set 1 (.int .i64 (mulL gr [m, powE gr key r])))
  have HBF : Hid (Below w.heap.size w ((v4.setCell ⟨w.heap.size + 1, 0, none⟩ (.int .i64 (powE gr gr.g r))).setCell ⟨w.heap.size + 1, 1, none⟩ (.int .i64 (mulL gr [m, powE gr key r])))) := (HBE.out.setCell (by show w.heap.size ≤ w.heap.size + 1; omega) _).setCell (by show w.heap.size ≤ w.heap.size + 1; omega) _
  clear r0 r1 fr
  have r0 := HRF.out.cell (i := 0) rfl
  have r1 := HRF.out.cell (i := 1) rfl
  go_wp2_with fail
  refine bodyPost_ret (v := .agg #[.int .i64 (powE gr gr.g r), .int .i64 (mulL gr [m, powE gr key r])]) (by simp [results, Try.results184, go_sem, r0, r1]) rfl ⟨rfl, HBF.out⟩
set_option maxRecDepth 100000 in
set_option maxHeartbeats 2000000 in
theorem spec_eEnc (gr : GroupD) (key m r : Int) (w : World) (hg : OkG gr) (hk : Small key) (hm : Small m) (hr : I64 r) :
    Calls Try.prog 157 #[.agg #[.int .i64 gr.p, .int .i64 gr.q, .int .i64 gr.g], .int .i64 key, .int .i64 m, .int .i64 r] w fun e w' => e = .returned (.agg #[.int .i64 (enC gr key m r).a, .int .i64 (enC gr key m r).b]) ∧ Below w.heap.size w w' := by
  have HG := Lib.hid hg
  have hp2 := hg.p2
  have hp1 := hg.p1
  have hq1 := hg.q1
  have hq2 := hg.q2
  have hg1 := hg.g1
  have hg2 := hg.g2
  clear hg
  have HK := Lib.hid hk
  have HM := Lib.hid hm
  have HR0 := Lib.hid hr
  clear hk hm hr
  have HPK := Lib.hid (powE_small HG.out key r)
  obtain ⟨W, hW⟩ : ∃ W, W = (w.alloc (.cells #[.int .i64 gr.p, .int .i64 gr.q, .int .i64 gr.g] 39)).alloc (.cells #[.int .i64 0, .int .i64 0] 58) := ⟨_, rfl⟩
  have HB : Hid (Below w.heap.size w W) := by unfold Hid; rw [hW]; (repeat (first | exact Below.refl _ _ | assumption | refine Below.drew ?_ | refine Below.alloc ?_ (by first | (simp; done) | (simp; omega)) _ | refine Below.setCell ?_ (by first | (simp; done) | (simp; omega)) _))
  have x0_0 : W.cell? ⟨w.heap.size, 0, none⟩ = some (.int .i64 gr.p) := by rw [hW]; simp [go_sem]
  have x0_1 : W.cell? ⟨w.heap.size, 1, none⟩ = some (.int .i64 gr.q) := by rw [hW]; simp [go_sem]
  have x0_2 : W.cell? ⟨w.heap.size, 2, none⟩ = some (.int .i64 gr.g) := by rw [hW]; simp [go_sem]
  have HR : Hid (BoxN W (w.heap.size + 1) 58 [.int .i64 0, .int .i64 0]) := by unfold Hid; rw [hW]; have h := BoxN.new (w.alloc (.cells #[.int .i64 gr.p, .int .i64 gr.q, .int .i64 gr.g] 39)) [.int .i64 0, .int .i64 0] 58; simpa using h
  have HSW : Hid (W.heap.size = w.heap.size + 2) := by unfold Hid; rw [hW]; simp
  have hlr : w.heap.size + 1 < W.heap.size := by have := HSW.out; omega
  go_enter Try.func157, Try.ntmps157
  go_wp2_with fail
  rw [← hW]
  clear hW
  try (go_wp2_with fail)
  refine wp_region_noPanic ?_
  refine wp_region_V (fun w' => Below W.heap.size W w' ∧ w'.cell? ⟨w.heap.size, 0, none⟩ = some (.int .i64 gr.p) ∧ w'.cell? ⟨w.heap.size, 1, none⟩ = some (.int .i64 gr.q) ∧ w'.cell? ⟨w.heap.size, 2, none⟩ = some (.int .i64 gr.g)) 17 14 (.rd 0 (.rd 1 (.rd 2 (.rd 3 (.rd 5 (.rd 6 (.rd 7 (.rd 8 (.rd 9 (.alt 4 (.alt 10 (.alt 11 (.alt 12 (.rd 13 .done) .nil) .nil) .nil) .nil)))))))))) [14] (by kernel_rfl) (by kernel_rfl) rfl (fun _ _ _ _ _ h => h) ⟨(Below.refl _ _).drew, x0_0, x0_1, x0_2⟩ ?_
  simp only [pickV, pickN, List.getElem?_cons_zero, List.getElem?_cons_succ]
  have hb0 : Below W.heap.size W W.drew := (Below.refl _ _).drew
  repeat (refine' wpV_read _ (by kernel_rfl) (fun w' hS' => ?_) ?_; rotate_left; · ((try dsimp only at hS'); go_simp; (try with_reducible rfl)); (try simp only [Act.put, List.setIfInBounds_toArray, List.set_cons_zero, List.set_cons_succ]))
  refine wpV_do (by kernel_rfl) (fun K hK => ?_)
  go_simp
  go_at_call 156
  refine (spec_gExp gr gr.g r _ HG.out ⟨by omega, by omega⟩ HR0.out).mono ?_
  rintro e v1 ⟨rfl, hq1⟩
  have hb1 := keep_b hq1 hb0
  refine hK.out _ _ ⟨hb1, box_at x0_0 hb1, box_at x0_1 hb1, box_at x0_2 hb1⟩ (fun _ => ?_)
  clear hK K
  try simp only [Act.put, List.setIfInBounds_toArray, List.set_cons_zero, List.set_cons_succ]
  refine wpV_do (by kernel_rfl) (fun K hK => ?_)
  go_simp
  go_at_call 156
  refine (spec_gExp gr key r _ HG.out HK.out HR0.out).mono ?_
  rintro e v2 ⟨rfl, hq2⟩
  have hb2 := keep_b hq2 hb1
  refine hK.out _ _ ⟨hb2, box_at x0_0 hb2, box_at x0_1 hb2, box_at x0_2 hb2⟩ (fun _ => ?_)
  clear hK K
  try simp only [Act.put, List.setIfInBounds_toArray, List.set_cons_zero, List.set_cons_succ]
  refine wpV_do (by kernel_rfl) (fun K hK => ?_)
  go_simp
  have hb3 : Below W.heap.size W (v2.alloc (.cells #[.int .i64 m, .int .i64 (powE gr key r)] 3)) := hb2.alloc hb2.size (.cells #[.int .i64 m, .int .i64 (powE gr key r)] 3)
  have LT3 : Hid (Ints (v2.alloc (.cells #[.int .i64 m, .int .i64 (powE gr key r)] 3)) (.slice (some ⟨v2.heap.size, 0, none⟩) 2 2) [m, (powE gr key r)]) := by exact (Ints.lit2 v2 (small_64 HM.out) (small_64 HPK.out))
  refine hK.out _ _ ⟨hb3, box_at x0_0 hb3, box_at x0_1 hb3, box_at x0_2 hb3⟩ (fun _ => ?_)
  clear hK K
  try simp only [Act.put, List.setIfInBounds_toArray, List.set_cons_zero, List.set_cons_succ]
  refine wpV_do (by kernel_rfl) (fun K hK => ?_)
  go_simp
  go_at_call 211
  refine (spec_gMul gr _ [m, powE gr key r] _ HG.out LT3.out (small2c HM.out HPK.out)).mono ?_
  rintro e v4 ⟨rfl, hq4⟩
  have hb4 := keep_b hq4 hb3
  have LT3_4 := Lib.hid (Ints.below LT3.out hq4)
  refine hK.out _ _ ⟨hb4, box_at x0_0 hb4, box_at x0_1 hb4, box_at x0_2 hb4⟩ (fun _ => ?_)
  clear hK K
  try simp only [Act.put, List.setIfInBounds_toArray, List.set_cons_zero, List.set_cons_succ]
  repeat (refine' wpV_read _ (by kernel_rfl) (fun w' hS' => ?_) ?_; rotate_left; · ((try dsimp only at hS'); go_simp; (try with_reducible rfl)); (try simp only [Act.put, List.setIfInBounds_toArray, List.set_cons_zero, List.set_cons_succ]))
  refine wpV_done ?_
  have HRE := Lib.hid (HR.out.below hb4)
  have HBE := Lib.hid (HB.out.trans (hb4.mono HB.out.size))
  clear hb4
  have r0 := HRE.out.cell (i := 0) rfl
  have r1 := HRE.out.cell (i := 1) rfl
  have fr := fun j => HRE.out.frozen j
  go_wp2_with fail
  refine NoPanic.normal ?_
  have HRF := Lib.hid ((HRE.out.set 0 (.int .i64 (powE gr gr.g r))).set 1 (.int .i64 (mulL gr [m, powE gr key r])))
  have HBF : Hid (Below w.heap.size w ((v4.setCell ⟨w.heap.size + 1, 0, none⟩ (.int .i64 (powE gr gr.g r))).setCell ⟨w.heap.size + 1, 1, none⟩ (.int .i64 (mulL gr [m, powE gr key r])))) := (HBE.out.setCell (by show w.heap.size ≤ w.heap.size + 1; omega) _).setCell (by show w.heap.size ≤ w.heap.size + 1; omega) _
  clear r0 r1 fr
  have r0 := HRF.out.cell (i := 0) rfl
  have r1 := HRF.out.cell (i := 1) rfl
  go_wp2_with fail
  refine bodyPost_ret (v := .agg #[.int .i64 (powE gr gr.g r), .int .i64 (mulL gr [m, powE gr key r])]) (by simp [results, Try.results157, go_sem, r0, r1]) rfl ⟨rfl, HBF.out⟩
end Go.Proofs.Ytboahnklilmdpaa
namespace Go.Proofs.Ytboahnklilmdpaa
open Go.RowKit
set_option linter.unusedSimpArgs false
set_option linter.unusedVariables false

/-- a valid ciphertext -/
noncomputable def ciB (gr : GroupD) (c : CipherD) : Bool := elB gr c.a && elB gr c.b
theorem ciB_small {gr : GroupD} (hg : OkG gr) {c : CipherD} (h : ciB gr c = true) : SmallC c := by
  unfold ciB at h
  rw [Bool.and_eq_true] at h
  exact ⟨elB_small hg h.1, elB_small hg h.2⟩
set_option maxRecDepth 100000 in
set_option maxHeartbeats 1000000 in
theorem spec_eKey (gr : GroupD) (x : Int) (w : World) (hx : I64 x) :
    Calls Try.prog 142 #[.agg #[.int .i64 gr.p, .int .i64 gr.q, .int .i64 gr.g], .int .i64 x] w fun e w' => e = .returned (.bool (goodG gr && elB gr x)) ∧ Below w.heap.size w w' := by
  have HXI := Lib.hid hx; clear hx
  obtain ⟨p, q, g⟩ := gr
  obtain ⟨W, hW⟩ : ∃ W, W = w.alloc (.cells #[.int .i64 p, .int .i64 q, .int .i64 g] 39) := ⟨_, rfl⟩
  have HB : Hid (Below w.heap.size w W) := by unfold Hid; rw [hW]; exact (Below.refl _ _).alloc (Nat.le_refl _) _
  have HX : Hid (BoxN W w.heap.size 39 [.int .i64 p, .int .i64 q, .int .i64 g]) := by unfold Hid; rw [hW]; exact BoxN.new w _ _
  have HSW : Hid (W.heap.size = w.heap.size + 1) := by unfold Hid; rw [hW]; simp
  have HWW := Lib.hid hW
  clear hW
  obtain ⟨b3, hb3⟩ : ∃ b, elB ⟨p, q, g⟩ x = b := ⟨_, rfl⟩
  have H3 : Hid (([x].all (elB ⟨p, q, g⟩)) = b3) := by unfold Hid; rw [← hb3]; simp
  rw [hb3]
  clear hb3
  cases hgd : goodG ⟨p, q, g⟩ with
  | false =>
    have H1 := Lib.hid hgd
    clear hgd
    go_enter Try.func142, Try.ntmps142
    go_wp2_with fail
    rw [← HWW.out]
    try rw [← HSW.out]
    clear HWW
    refine (spec_l2Good ⟨p, q, g⟩ _).mono ?_
    rintro e w1 ⟨rfl, hcum⟩
    rw [H1.out]
    have c0 := box_at (HX.out.cell (i := 0) rfl) hcum
    have c1 := box_at (HX.out.cell (i := 1) rfl) hcum
    have c2 := box_at (HX.out.cell (i := 2) rfl) hcum
    go_wp2_with fail
    go_ret
    exact ⟨rfl, HB.out.trans (hcum.mono HB.out.size)⟩
  | true =>
    have H1 := Lib.hid hgd
    have HG := Lib.hid (goodG_ok hgd)
    clear hgd
    go_enter Try.func142, Try.ntmps142
    go_wp2_with fail
    rw [← HWW.out]
    try rw [← HSW.out]
    clear HWW
    refine (spec_l2Good ⟨p, q, g⟩ _).mono ?_
    rintro e w1 ⟨rfl, hcum⟩
    rw [H1.out]
    have c0 := box_at (HX.out.cell (i := 0) rfl) hcum
    have c1 := box_at (HX.out.cell (i := 1) rfl) hcum
    have c2 := box_at (HX.out.cell (i := 2) rfl) hcum
    go_wp2_with (first
      | (go_at_call 202; refine (spec_gIs ⟨p, q, g⟩ _ [x] _ HG.out (Ints.lit1 _ HXI.out)).mono ?_; rintro e wa ⟨rfl, hba⟩; rw [H3.out]; (replace hba := Below.next ((Below.refl _ _).alloc (Nat.le_refl _) _) hba); (replace hcum := Below.next hcum hba); clear hba)
      | fail)
    go_ret
    exact ⟨ret_bool (by simp), HB.out.trans (hcum.mono HB.out.size)⟩
set_option maxRecDepth 100000 in
set_option maxHeartbeats 1000000 in
theorem impl_hasCipher (gr : GroupD) (c : CipherD) (w : World) (hg : OkG gr) :
    Calls Try.prog 148 #[.agg #[.int .i64 gr.p, .int .i64 gr.q, .int .i64 gr.g], .agg #[.int .i64 c.a, .int .i64 c.b]] w fun e w' => e = .returned (.bool (ciB gr c)) ∧ Below w.heap.size w w' := by
  have HG := Lib.hid hg; clear hg
  obtain ⟨b1, hb1⟩ : ∃ b, elB gr c.a = b := ⟨_, rfl⟩
  obtain ⟨b2, hb2⟩ : ∃ b, elB gr c.b = b := ⟨_, rfl⟩
  have H1 := Lib.hid hb1
  have H2 := Lib.hid hb2
  have HR : Hid (ciB gr c = (b1 && b2)) := by unfold Hid ciB; rw [hb1, hb2]
  rw [HR.out]
  clear hb1 hb2
  obtain ⟨W, hW⟩ : ∃ W, W = (w.alloc (.cells #[.int .i64 gr.p, .int .i64 gr.q, .int .i64 gr.g] 39)).alloc (.cells #[.int .i64 c.a, .int .i64 c.b] 58) := ⟨_, rfl⟩
  have HB : Hid (Below w.heap.size w W) := by unfold Hid; rw [hW]; (repeat (first | exact Below.refl _ _ | assumption | refine Below.drew ?_ | refine Below.alloc ?_ (by first | (simp; done) | (simp; omega)) _ | refine Below.setCell ?_ (by first | (simp; done) | (simp; omega)) _))
  have c0 : W.cell? ⟨w.heap.size, 0, none⟩ = some (.int .i64 gr.p) := by rw [hW]; simp [go_sem]
  have c1 : W.cell? ⟨w.heap.size, 1, none⟩ = some (.int .i64 gr.q) := by rw [hW]; simp [go_sem]
  have c2 : W.cell? ⟨w.heap.size, 2, none⟩ = some (.int .i64 gr.g) := by rw [hW]; simp [go_sem]
  have a0 : W.cell? ⟨w.heap.size + 1, 0, none⟩ = some (.int .i64 c.a) := by rw [hW]; simp [go_sem]
  have a1 : W.cell? ⟨w.heap.size + 1, 1, none⟩ = some (.int .i64 c.b) := by rw [hW]; simp [go_sem]
  go_enter Try.func148, Try.ntmps148
  go_wp2_with fail
  rw [← hW]
  clear hW
  try (go_wp2_with fail)
  refine (impl_has gr c.a _ HG.out).mono ?_
  rintro e w1 ⟨rfl, hb⟩
  rw [H1.out]
  have d0 := box_at c0 hb
  have d1 := box_at c1 hb
  have d2 := box_at c2 hb
  have e1 := box_at a1 hb
  have HB1 := Lib.hid (HB.out.trans (hb.mono HB.out.size))
  clear hb c0 c1 c2 a0 a1
  cases b1 with
  | false =>
    go_wp2_with fail
    go_ret
    exact ⟨rfl, HB1.out⟩
  | true =>
    go_wp2_with fail
    refine (impl_has gr c.b _ HG.out).mono ?_
    rintro e w2 ⟨rfl, hb⟩
    rw [H2.out]
    have HB2 := Lib.hid (HB1.out.trans (hb.mono HB1.out.size))
    clear hb d0 d1 d2 e1
    go_wp2_with fail
    go_ret
    exact ⟨ret_bool (by simp), HB2.out⟩
set_option maxRecDepth 100000 in
set_option maxHeartbeats 2000000 in
theorem spec_eGood (gr : GroupD) (v : Value) (l : List CipherD) (w : World) (hg : OkG gr) (h : RdR rCipher w v l) :
    Calls Try.prog 143 #[.agg #[.int .i64 gr.p, .int .i64 gr.q, .int .i64 gr.g], v] w fun e w' => e = .returned (.bool (decide (l.length ≤ 24) && l.all (ciB gr))) ∧ Below w.heap.size w w' := by
  have HG := Lib.hid hg; clear hg
  obtain ⟨a, n, c, rfl⟩ := h.shape
  have HE := Lib.hid h.len
  obtain ⟨k1, k2⟩ := h.capMax
  unfold maxLen at k2
  obtain ⟨W, hW⟩ : ∃ W, W = w.alloc (.cells #[.int .i64 gr.p, .int .i64 gr.q, .int .i64 gr.g] 39) := ⟨_, rfl⟩
  have HB : Hid (Below w.heap.size w W) := by unfold Hid; rw [hW]; (repeat (first | exact Below.refl _ _ | assumption | refine Below.drew ?_ | refine Below.alloc ?_ (by first | (simp; done) | (simp; omega)) _ | refine Below.setCell ?_ (by first | (simp; done) | (simp; omega)) _))
  have HX : Hid (BoxN W w.heap.size 39 [.int .i64 gr.p, .int .i64 gr.q, .int .i64 gr.g]) := by unfold Hid; rw [hW]; exact BoxN.new w _ _
  have H : Hid (RdR rCipher W (.slice a n c) l) := h.below HB.out
  clear h
  rw [HE.out]
  rcases Nat.lt_or_ge 24 n with h24 | h24
  · have hd : decide ((24 : Int) < (n : Int)) = true := decide_eq_true (by omega)
    have hd2 : decide (n ≤ 24) = false := decide_eq_false (by omega)
    rw [hd2]
    go_enter Try.func143, Try.ntmps143
    go_wp2_with fail
    rw [← hW]
    clear hW
    try (go_wp2_with fail)
    go_ret
    exact ⟨rfl, HB.out⟩
  have hd : decide ((24 : Int) < (n : Int)) = false := decide_eq_false (by omega)
  have hd2 : decide (n ≤ 24) = true := decide_eq_true h24
  rw [hd2, Bool.true_and]
  go_enter Try.func143, Try.ntmps143
  go_wp2_with fail
  rw [← hW]
  clear hW hd hd2
  try (go_wp2_with fail)
  go_loopg [12] n (fun gh kv wr => ∃ k : Nat, k + gh = n ∧ kv = .int .i64 k ∧ Hid ((l.take k).all (ciB gr) = true) ∧ Below W.heap.size W wr)
  case atStart => exact ⟨0, by omega, rfl, by simp [Hid], Below.refl _ _⟩
  case round =>
    obtain ⟨k, hk, rfl, HT, hbw⟩ := hrel
    by_cases hlt : k < n
    · have HK : Hid (k < l.length) := by unfold Hid; rw [HE.out]; exact hlt
      have HTS : Hid ((l.take (k + 1)).all (ciB gr) = ((l.take k).all (ciB gr) && ciB gr (l[k]'HK.out))) := by
        unfold Hid; rw [List.take_succ_eq_append_getElem HK.out, List.all_append]; simp
      have HNO : Hid (ciB gr (l[k]'HK.out) = false → l.all (ciB gr) = false) := fun h => by
        rw [List.all_eq_false]
        exact ⟨l[k]'HK.out, List.getElem_mem _, by rw [h]; decide⟩
      obtain ⟨b_x, o_x, rfl, hcx⟩ := H.out.at_ (by omega)
      obtain ⟨us, hcell, hrd⟩ := hcx k HK.out
      clear hcx
      generalize l[k]'HK.out = x at hrd HTS HNO
      obtain ⟨ers, jx_0, jx_1⟩ := rdCipher.1 ⟨us, rfl, hrd⟩
      obtain rfl : us = [.int .i64 x.a, .int .i64 x.b] := by have h := Value.agg.inj ers; simpa using congrArg Array.toList h
      clear ers hrd
      have y_x_0 : wr.cell? ⟨b_x, o_x + k * 2, none⟩ = some (.int .i64 x.a) := box_at (hcell 0 (by decide)) hbw
      have y_x_1 : wr.cell? ⟨b_x, o_x + k * 2 + 1, none⟩ = some (.int .i64 x.b) := box_at (hcell 1 (by decide)) hbw
      clear hcell
      have HR_x := Lib.hid ((kS rCipher).rd_below (rdCipher.2 ⟨rfl, jx_0, jx_1⟩ : (kS rCipher).rd W (.agg #[.int .i64 x.a, .int .i64 x.b]) x) hbw)
      have J_x_0 := Lib.hid jx_0
      have J_x_1 := Lib.hid jx_1
      clear jx_0 jx_1
      have HBR := Lib.hid hbw
      have HXr := Lib.hid (HX.out.below hbw)
      have hsr := hbw.size
      clear hbw
      obtain ⟨b, hb⟩ : ∃ b, ciB gr x = b := ⟨_, rfl⟩
      rw [hb] at HTS HNO
      have H3 : Hid (([x.a, x.b].all (elB gr)) = b) := by unfold Hid; rw [← hb]; unfold ciB; simp
      clear hb
      have hwk : IntKind.i64.wrap ((k : Int) + 1) = (k : Int) + 1 := IntWalk.i64_in _ (by omega)
      obtain ⟨V, hV⟩ : ∃ V, V = wr.alloc (.cells #[.int .i64 x.a, .int .i64 x.b] 58) := ⟨_, rfl⟩
      have hsV : V.heap.size = wr.heap.size + 1 := by rw [hV]; simp
      have hbV : Below wr.heap.size wr V := by rw [hV]; exact (Below.refl _ _).alloc (Nat.le_refl _) _
      have d0 := fun o => (HXr.out.alloc o).cell (i := 0) rfl
      have d1 := fun o => (HXr.out.alloc o).cell (i := 1) rfl
      have d2 := fun o => (HXr.out.alloc o).cell (i := 2) rfl
      go_wp2_with fail
      rw [← hV]
      try rw [← hsV]
      refine (spec_gIs gr _ [x.a, x.b] _ HG.out (Ints.lit2 _ J_x_0.out J_x_1.out)).mono ?_
      rintro e w3 ⟨rfl, hb3⟩
      rw [H3.out]
      have HB3 := Lib.hid (HBR.out.trans ((Below.next hbV (Below.next ((Below.refl _ _).alloc (Nat.le_refl _) _) hb3)).mono hsr))
      clear hb3 hbV hV hsV d0 d1 d2
      cases b with
      | false =>
        go_wp2_with fail
        go_ret
        exact ⟨ret_bool (HNO.out (by first | rfl | trivial)).symm, HB.out.trans (HB3.out.mono HB.out.size)⟩
      | true =>
        have HT2 : Hid ((l.take (k + 1)).all (ciB gr) = true) := by unfold Hid; rw [HTS.out, HT.out]; rfl
        go_wp2_with fail
        go_roundg (n - (k + 1))
        case measure => omega
        case rel => exact ⟨k + 1, by omega, by go_num, HT2.out, HB3.out⟩
    · obtain rfl : k = n := by omega
      have HA : Hid (l.all (ciB gr) = true) := by have h := HT.out; rw [List.take_of_length_le (by rw [HE.out]; exact Nat.le_refl _)] at h; exact h
      have HBR := Lib.hid hbw
      clear hbw
      go_wp2_with fail
      go_ret
      exact ⟨ret_bool HA.out.symm, HB.out.trans (HBR.out.mono HB.out.size)⟩
end Go.Proofs.Ytboahnklilmdpaa
namespace Go.Proofs.Ytboahnklilmdpaa
open Go.RowKit
set_option linter.unusedSimpArgs false
set_option linter.unusedVariables false

theorem AllSmall.nil : AllSmall [] := fun x hx => by cases hx
theorem AllSmall.cons {x : Int} {l : List Int} (h : Small x) (h' : AllSmall l) : AllSmall (x :: l) := fun y hy => by
  rcases List.mem_cons.1 hy with rfl | hy
  · exact h
  · exact h' y hy
def AllSmallC (l : List CipherD) : Prop := ∀ c ∈ l, SmallC c
end Go.Proofs.Ytboahnklilmdpaa
namespace Go.Proofs.Ytboahnklilmdpaa
open Go.RowKit

/-- a function value that decides p on structs of a row, in every world that has grown from w -/
structure DecidesS {δ : Type} (R : RowK δ) (w : World) (g : FuncId) (caps : Array Value) (p : δ → Bool) : Prop where
  enters : ∀ args wr, (callFunc g args).run Try.prog wr = .ok (.enter g args) wr
  runs : ∀ v d wr, (kS R).rd wr v d → Below w.heap.size w wr → Calls Try.prog g (#[v] ++ caps) wr fun e w' => e = .returned (.bool (p d)) ∧ Below wr.heap.size wr w'
theorem DecidesS.below {δ : Type} {R : RowK δ} {w w' : World} {g : FuncId} {caps : Array Value} {p : δ → Bool} (h : DecidesS R w g caps p) (hb : Below w.heap.size w w') : DecidesS R w' g caps p :=
  ⟨h.enters, fun v d wr hx hr => h.runs v d wr hx (hb.trans (hr.mono hb.size))⟩
end Go.Proofs.Ytboahnklilmdpaa

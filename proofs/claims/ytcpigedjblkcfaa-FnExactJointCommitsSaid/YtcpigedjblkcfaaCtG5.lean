/- Contests that can be sealed in a group. -/
import Derived.Test.YtcpigedjblkcfaaCtG4
import Derived.Test.YtcpigedjblkcfaaBg
namespace Go.Proofs.Ytcpigedjblkcfaa
open Go.RowKit
set_option linter.unusedSimpArgs false
set_option linter.unusedVariables false

theorem impl_greatest (k o l m p : Int) (w : World) (hok : ctOk k o l m p = true) :
    Calls Try.prog 227 #[.agg #[.int .i64 k, .int .i64 o, .int .i64 l, .int .i64 m, .int .i64 p]] w fun e w' => e = .returned (.int .i64 (ctGr k o m p)) ∧ Below w.heap.size w w' := by
  obtain ⟨on, mn, rfl, rfl, hN⟩ := CtN.of hok
  rcases hN.k1 with rfl | rfl | rfl | rfl
  · exact impl_great1 on mn l p w hN
  · exact impl_great2 on mn l p w hN
  · exact impl_great3 on mn l p w hN
  · exact impl_great4 on mn l p w hN
theorem spec_bGreatest (k o l m p : Int) (w : World) (hok : ctOk k o l m p = true) :
    Calls Try.prog 223 #[.agg #[.int .i64 k, .int .i64 o, .int .i64 l, .int .i64 m, .int .i64 p]] w fun e w' => e = .returned (.int .i64 (ctGr k o m p)) ∧ Below w.heap.size w w' := by
  obtain ⟨on, mn, rfl, rfl, hN⟩ := CtN.of hok
  rcases hN.k1 with rfl | rfl | rfl | rfl
  · exact spec_great1 on mn l p w hN
  · exact spec_great2 on mn l p w hN
  · exact spec_great3 on mn l p w hN
  · exact spec_great4 on mn l p w hN
theorem ctGr_bd {k o l m p : Int} (hok : ctOk k o l m p = true) : 0 ≤ ctGr k o m p ∧ ctGr k o m p ≤ 282429536480 := by
  obtain ⟨on, mn, rfl, rfl, hN⟩ := CtN.of hok
  exact hN.gr
/-- a contest can be sealed in a group -/
noncomputable def sealB (gr : GroupD) (k o l m p : Int) : Bool := goodG gr && (ctOk k o l m p && (!decide (100000 < ctGr k o m p) && (!decide (gr.q ≤ ctGr k o m p) && (!ctForm k || (decide (m - l < 8) && decide (m < gr.q))))))
theorem sealB_good {gr : GroupD} {k o l m p : Int} (h : sealB gr k o l m p = true) : goodG gr = true ∧ ctOk k o l m p = true := by
  unfold sealB at h
  simp only [Bool.and_eq_true] at h
  exact ⟨h.1, h.2.1⟩
set_option maxRecDepth 100000 in
set_option maxHeartbeats 4000000 in
theorem impl_IsSealable (gr : GroupD) (k o l m p : Int) (w : World) :
    Calls Try.prog 171 #[.agg #[.int .i64 gr.p, .int .i64 gr.q, .int .i64 gr.g], .agg #[.int .i64 k, .int .i64 o, .int .i64 l, .int .i64 m, .int .i64 p]] w fun e w' => e = .returned (.bool (sealB gr k o l m p)) ∧ Below w.heap.size w w' := by
  obtain ⟨pp, q, g⟩ := gr
  obtain ⟨W, hW⟩ : ∃ W, W = (w.alloc (.cells #[.int .i64 pp, .int .i64 q, .int .i64 g] 30)).alloc (.cells #[.int .i64 k, .int .i64 o, .int .i64 l, .int .i64 m, .int .i64 p] 31) := ⟨_, rfl⟩
  have HB : Hid (Below w.heap.size w W) := by unfold Hid; rw [hW]; (repeat (first | exact Below.refl _ _ | assumption | refine Below.drew ?_ | refine Below.alloc ?_ (by first | (simp; done) | (simp; omega)) _ | refine Below.setCell ?_ (by first | (simp; done) | (simp; omega)) _))
  have C0 : Hid (W.cell? ⟨w.heap.size, 0, none⟩ = some (.int .i64 pp)) := by unfold Hid; rw [hW]; simp [go_sem]
  have C1 : Hid (W.cell? ⟨w.heap.size, 1, none⟩ = some (.int .i64 q)) := by unfold Hid; rw [hW]; simp [go_sem]
  have C2 : Hid (W.cell? ⟨w.heap.size, 2, none⟩ = some (.int .i64 g)) := by unfold Hid; rw [hW]; simp [go_sem]
  have D0 : Hid (W.cell? ⟨w.heap.size + 1, 0, none⟩ = some (.int .i64 k)) := by unfold Hid; rw [hW]; simp [go_sem]
  have D1 : Hid (W.cell? ⟨w.heap.size + 1, 1, none⟩ = some (.int .i64 o)) := by unfold Hid; rw [hW]; simp [go_sem]
  have D2 : Hid (W.cell? ⟨w.heap.size + 1, 2, none⟩ = some (.int .i64 l)) := by unfold Hid; rw [hW]; simp [go_sem]
  have D3 : Hid (W.cell? ⟨w.heap.size + 1, 3, none⟩ = some (.int .i64 m)) := by unfold Hid; rw [hW]; simp [go_sem]
  have D4 : Hid (W.cell? ⟨w.heap.size + 1, 4, none⟩ = some (.int .i64 p)) := by unfold Hid; rw [hW]; simp [go_sem]
  have HWW := Lib.hid hW; clear hW
  cases h1 : goodG ⟨pp, q, g⟩ with
  | false =>
    have H1 := Lib.hid h1
    have HR : Hid (sealB ⟨pp, q, g⟩ k o l m p = false) := by unfold Hid sealB; (try simp only [h1, Bool.false_and]) <;> (try rfl)
    clear h1
    rw [HR.out]
    go_enter Try.func171, Try.ntmps171
    go_wp2_with fail
    rw [← HWW.out]
    clear HWW
    have g0 := fun u => grow_cell C0.out u
    have g1 := fun u => grow_cell C1.out u
    have g2 := fun u => grow_cell C2.out u
    have g3 := fun u => grow_cell D0.out u
    have g4 := fun u => grow_cell D1.out u
    have g5 := fun u => grow_cell D2.out u
    have g6 := fun u => grow_cell D3.out u
    have g7 := fun u => grow_cell D4.out u
    (refine wp_region_grow (by kernel_rfl) (by kernel_rfl) ?_; (repeat (go_big_quiet_step ((first | (go_at_call 131; refine calls_grow (impl_IsValidGroup ⟨pp, q, g⟩ _) (fun e w' h => ⟨by rw [h.1, H1.out], h.2⟩)) | (go_at_call 226; refine calls_grow (impl_IsValidContest k o l m p _) (fun e w' h => ⟨by rw [h.1, H2.out], h.2⟩)) | (go_at_call 227; refine calls_grow (impl_greatest k o l m p _ H2.out) (fun e w' h => ⟨by rw [h.1, HX.out], h.2⟩)) | fail)))); refine wpQuiet_nil ?_; intro _ hw'; obtain ⟨uq, hw''⟩ := hw'; subst hw''; have hbq := grow_below W uq; generalize grow W uq = wq at hbq ⊢)
    skip
    go_wp2_with fail
    go_ret
    exact ⟨rfl, Below.next HB.out hbq⟩
  | true =>
  have H1 := Lib.hid h1
  cases h2 : ctOk k o l m p with
  | false =>
    have H2 := Lib.hid h2
    have HR : Hid (sealB ⟨pp, q, g⟩ k o l m p = false) := by unfold Hid sealB; (try simp only [h1, h2, Bool.true_and, Bool.false_and]) <;> (try rfl)
    clear h1 h2
    rw [HR.out]
    go_enter Try.func171, Try.ntmps171
    go_wp2_with fail
    rw [← HWW.out]
    clear HWW
    have g0 := fun u => grow_cell C0.out u
    have g1 := fun u => grow_cell C1.out u
    have g2 := fun u => grow_cell C2.out u
    have g3 := fun u => grow_cell D0.out u
    have g4 := fun u => grow_cell D1.out u
    have g5 := fun u => grow_cell D2.out u
    have g6 := fun u => grow_cell D3.out u
    have g7 := fun u => grow_cell D4.out u
    (refine wp_region_grow (by kernel_rfl) (by kernel_rfl) ?_; (repeat (go_big_quiet_step ((first | (go_at_call 131; refine calls_grow (impl_IsValidGroup ⟨pp, q, g⟩ _) (fun e w' h => ⟨by rw [h.1, H1.out], h.2⟩)) | (go_at_call 226; refine calls_grow (impl_IsValidContest k o l m p _) (fun e w' h => ⟨by rw [h.1, H2.out], h.2⟩)) | (go_at_call 227; refine calls_grow (impl_greatest k o l m p _ H2.out) (fun e w' h => ⟨by rw [h.1, HX.out], h.2⟩)) | fail)))); refine wpQuiet_nil ?_; intro _ hw'; obtain ⟨uq, hw''⟩ := hw'; subst hw''; have hbq := grow_below W uq; generalize grow W uq = wq at hbq ⊢)
    skip
    go_wp2_with fail
    go_ret
    exact ⟨rfl, Below.next HB.out hbq⟩
  | true =>
  have H2 := Lib.hid h2
  obtain ⟨b1, b2, b3, b4, b5, b6, b7⟩ := ctOk_bd h2
  obtain ⟨G, hG⟩ : ∃ G, ctGr k o m p = G := ⟨_, rfl⟩
  have hG0 := ctGr_bd h2
  rw [hG] at hG0
  have HX := Lib.hid hG
  have e1 : IntKind.i64.wrap (m - l) = m - l := IntWalk.i64_in _ (by omega)
  cases h3 : decide (100000 < G) with
  | true =>
    have HR : Hid (sealB ⟨pp, q, g⟩ k o l m p = false) := by unfold Hid sealB; (try simp only [h1, h2, hG, h3, Bool.true_and, Bool.false_and, Bool.not_true]) <;> (try rfl)
    clear h1 h2 hG
    rw [HR.out]
    go_enter Try.func171, Try.ntmps171
    go_wp2_with fail
    rw [← HWW.out]
    clear HWW
    have g0 := fun u => grow_cell C0.out u
    have g1 := fun u => grow_cell C1.out u
    have g2 := fun u => grow_cell C2.out u
    have g3 := fun u => grow_cell D0.out u
    have g4 := fun u => grow_cell D1.out u
    have g5 := fun u => grow_cell D2.out u
    have g6 := fun u => grow_cell D3.out u
    have g7 := fun u => grow_cell D4.out u
    (refine wp_region_grow (by kernel_rfl) (by kernel_rfl) ?_; (repeat (go_big_quiet_step ((first | (go_at_call 131; refine calls_grow (impl_IsValidGroup ⟨pp, q, g⟩ _) (fun e w' h => ⟨by rw [h.1, H1.out], h.2⟩)) | (go_at_call 226; refine calls_grow (impl_IsValidContest k o l m p _) (fun e w' h => ⟨by rw [h.1, H2.out], h.2⟩)) | (go_at_call 227; refine calls_grow (impl_greatest k o l m p _ H2.out) (fun e w' h => ⟨by rw [h.1, HX.out], h.2⟩)) | fail)))); refine wpQuiet_nil ?_; intro _ hw'; obtain ⟨uq, hw''⟩ := hw'; subst hw''; have hbq := grow_below W uq; generalize grow W uq = wq at hbq ⊢)
    skip
    go_wp2_with fail
    go_ret
    exact ⟨rfl, Below.next HB.out hbq⟩
  | false =>
  cases h4 : decide (q ≤ G) with
  | true =>
    have HR : Hid (sealB ⟨pp, q, g⟩ k o l m p = false) := by unfold Hid sealB; (try simp only [h1, h2, hG, h3, h4, Bool.true_and, Bool.false_and, Bool.not_true, Bool.not_false]) <;> (try rfl)
    clear h1 h2 hG
    rw [HR.out]
    go_enter Try.func171, Try.ntmps171
    go_wp2_with fail
    rw [← HWW.out]
    clear HWW
    have g0 := fun u => grow_cell C0.out u
    have g1 := fun u => grow_cell C1.out u
    have g2 := fun u => grow_cell C2.out u
    have g3 := fun u => grow_cell D0.out u
    have g4 := fun u => grow_cell D1.out u
    have g5 := fun u => grow_cell D2.out u
    have g6 := fun u => grow_cell D3.out u
    have g7 := fun u => grow_cell D4.out u
    (refine wp_region_grow (by kernel_rfl) (by kernel_rfl) ?_; (repeat (go_big_quiet_step ((first | (go_at_call 131; refine calls_grow (impl_IsValidGroup ⟨pp, q, g⟩ _) (fun e w' h => ⟨by rw [h.1, H1.out], h.2⟩)) | (go_at_call 226; refine calls_grow (impl_IsValidContest k o l m p _) (fun e w' h => ⟨by rw [h.1, H2.out], h.2⟩)) | (go_at_call 227; refine calls_grow (impl_greatest k o l m p _ H2.out) (fun e w' h => ⟨by rw [h.1, HX.out], h.2⟩)) | fail)))); refine wpQuiet_nil ?_; intro _ hw'; obtain ⟨uq, hw''⟩ := hw'; subst hw''; have hbq := grow_below W uq; generalize grow W uq = wq at hbq ⊢)
    skip
    go_wp2_with fail
    go_ret
    exact ⟨rfl, Below.next HB.out hbq⟩
  | false =>
  cases h5 : ctForm k with
  | false =>
    have H5 := Lib.hid h5
    have HR : Hid (sealB ⟨pp, q, g⟩ k o l m p = true) := by unfold Hid sealB; (try simp only [h1, h2, hG, h3, h4, h5, Bool.true_and, Bool.false_and, Bool.not_true, Bool.not_false, Bool.true_or]) <;> (try rfl)
    clear h1 h2 hG h5
    rw [HR.out]
    go_enter Try.func171, Try.ntmps171
    go_wp2_with fail
    rw [← HWW.out]
    clear HWW
    have g0 := fun u => grow_cell C0.out u
    have g1 := fun u => grow_cell C1.out u
    have g2 := fun u => grow_cell C2.out u
    have g3 := fun u => grow_cell D0.out u
    have g4 := fun u => grow_cell D1.out u
    have g5 := fun u => grow_cell D2.out u
    have g6 := fun u => grow_cell D3.out u
    have g7 := fun u => grow_cell D4.out u
    (refine wp_region_grow (by kernel_rfl) (by kernel_rfl) ?_; (repeat (go_big_quiet_step ((first | (go_at_call 131; refine calls_grow (impl_IsValidGroup ⟨pp, q, g⟩ _) (fun e w' h => ⟨by rw [h.1, H1.out], h.2⟩)) | (go_at_call 226; refine calls_grow (impl_IsValidContest k o l m p _) (fun e w' h => ⟨by rw [h.1, H2.out], h.2⟩)) | (go_at_call 227; refine calls_grow (impl_greatest k o l m p _ H2.out) (fun e w' h => ⟨by rw [h.1, HX.out], h.2⟩)) | fail)))); refine wpQuiet_nil ?_; intro _ hw'; obtain ⟨uq, hw''⟩ := hw'; subst hw''; have hbq := grow_below W uq; generalize grow W uq = wq at hbq ⊢)
    have HB2 := Lib.hid (HB.out.trans (hbq.mono HB.out.size))
    clear g0 g1 g2 g3 g4 g5 g6 g7
    have x1 := box_at C1.out hbq
    have y0 := box_at D0.out hbq
    have y1 := box_at D1.out hbq
    have y2 := box_at D2.out hbq
    have y3 := box_at D3.out hbq
    have y4 := box_at D4.out hbq
    clear hbq
    go_wp2_with fail
    refine (impl_isForm k o l m p _).mono ?_
    rintro e w3 ⟨rfl, hb3⟩
    rw [H5.out]
    replace x1 := box_at x1 hb3
    replace y2 := box_at y2 hb3
    replace y3 := box_at y3 hb3
    have HB3 := Lib.hid (HB2.out.trans (hb3.mono HB2.out.size))
    clear hb3 y0 y1 y4
    go_wp2_with fail
    go_ret
    exact ⟨rfl, HB3.out⟩
  | true =>
  have H5 := Lib.hid h5
  cases h6 : decide (m - l < 8) with
  | false =>
    have HR : Hid (sealB ⟨pp, q, g⟩ k o l m p = false) := by unfold Hid sealB; (try simp only [h1, h2, hG, h3, h4, h5, h6, Bool.true_and, Bool.false_and, Bool.not_true, Bool.not_false, Bool.true_or, Bool.false_or]) <;> (try rfl)
    clear h1 h2 hG h5
    rw [HR.out]
    go_enter Try.func171, Try.ntmps171
    go_wp2_with fail
    rw [← HWW.out]
    clear HWW
    have g0 := fun u => grow_cell C0.out u
    have g1 := fun u => grow_cell C1.out u
    have g2 := fun u => grow_cell C2.out u
    have g3 := fun u => grow_cell D0.out u
    have g4 := fun u => grow_cell D1.out u
    have g5 := fun u => grow_cell D2.out u
    have g6 := fun u => grow_cell D3.out u
    have g7 := fun u => grow_cell D4.out u
    (refine wp_region_grow (by kernel_rfl) (by kernel_rfl) ?_; (repeat (go_big_quiet_step ((first | (go_at_call 131; refine calls_grow (impl_IsValidGroup ⟨pp, q, g⟩ _) (fun e w' h => ⟨by rw [h.1, H1.out], h.2⟩)) | (go_at_call 226; refine calls_grow (impl_IsValidContest k o l m p _) (fun e w' h => ⟨by rw [h.1, H2.out], h.2⟩)) | (go_at_call 227; refine calls_grow (impl_greatest k o l m p _ H2.out) (fun e w' h => ⟨by rw [h.1, HX.out], h.2⟩)) | fail)))); refine wpQuiet_nil ?_; intro _ hw'; obtain ⟨uq, hw''⟩ := hw'; subst hw''; have hbq := grow_below W uq; generalize grow W uq = wq at hbq ⊢)
    have HB2 := Lib.hid (HB.out.trans (hbq.mono HB.out.size))
    clear g0 g1 g2 g3 g4 g5 g6 g7
    have x1 := box_at C1.out hbq
    have y0 := box_at D0.out hbq
    have y1 := box_at D1.out hbq
    have y2 := box_at D2.out hbq
    have y3 := box_at D3.out hbq
    have y4 := box_at D4.out hbq
    clear hbq
    go_wp2_with fail
    refine (impl_isForm k o l m p _).mono ?_
    rintro e w3 ⟨rfl, hb3⟩
    rw [H5.out]
    replace x1 := box_at x1 hb3
    replace y2 := box_at y2 hb3
    replace y3 := box_at y3 hb3
    have HB3 := Lib.hid (HB2.out.trans (hb3.mono HB2.out.size))
    clear hb3 y0 y1 y4
    go_wp2_with fail
    go_ret
    exact ⟨rfl, HB3.out⟩
  | true =>
  cases h7 : decide (m < q) with
  | false =>
    have HR : Hid (sealB ⟨pp, q, g⟩ k o l m p = false) := by unfold Hid sealB; (try simp only [h1, h2, hG, h3, h4, h5, h6, h7, Bool.true_and, Bool.and_self, Bool.false_and, Bool.not_true, Bool.not_false, Bool.true_or, Bool.false_or]) <;> (try rfl)
    clear h1 h2 hG h5
    rw [HR.out]
    go_enter Try.func171, Try.ntmps171
    go_wp2_with fail
    rw [← HWW.out]
    clear HWW
    have g0 := fun u => grow_cell C0.out u
    have g1 := fun u => grow_cell C1.out u
    have g2 := fun u => grow_cell C2.out u
    have g3 := fun u => grow_cell D0.out u
    have g4 := fun u => grow_cell D1.out u
    have g5 := fun u => grow_cell D2.out u
    have g6 := fun u => grow_cell D3.out u
    have g7 := fun u => grow_cell D4.out u
    (refine wp_region_grow (by kernel_rfl) (by kernel_rfl) ?_; (repeat (go_big_quiet_step ((first | (go_at_call 131; refine calls_grow (impl_IsValidGroup ⟨pp, q, g⟩ _) (fun e w' h => ⟨by rw [h.1, H1.out], h.2⟩)) | (go_at_call 226; refine calls_grow (impl_IsValidContest k o l m p _) (fun e w' h => ⟨by rw [h.1, H2.out], h.2⟩)) | (go_at_call 227; refine calls_grow (impl_greatest k o l m p _ H2.out) (fun e w' h => ⟨by rw [h.1, HX.out], h.2⟩)) | fail)))); refine wpQuiet_nil ?_; intro _ hw'; obtain ⟨uq, hw''⟩ := hw'; subst hw''; have hbq := grow_below W uq; generalize grow W uq = wq at hbq ⊢)
    have HB2 := Lib.hid (HB.out.trans (hbq.mono HB.out.size))
    clear g0 g1 g2 g3 g4 g5 g6 g7
    have x1 := box_at C1.out hbq
    have y0 := box_at D0.out hbq
    have y1 := box_at D1.out hbq
    have y2 := box_at D2.out hbq
    have y3 := box_at D3.out hbq
    have y4 := box_at D4.out hbq
    clear hbq
    go_wp2_with fail
    refine (impl_isForm k o l m p _).mono ?_
    rintro e w3 ⟨rfl, hb3⟩
    rw [H5.out]
    replace x1 := box_at x1 hb3
    replace y2 := box_at y2 hb3
    replace y3 := box_at y3 hb3
    have HB3 := Lib.hid (HB2.out.trans (hb3.mono HB2.out.size))
    clear hb3 y0 y1 y4
    go_wp2_with fail
    go_ret
    exact ⟨rfl, HB3.out⟩
  | true =>
    have HR : Hid (sealB ⟨pp, q, g⟩ k o l m p = true) := by unfold Hid sealB; (try simp only [h1, h2, hG, h3, h4, h5, h6, h7, Bool.true_and, Bool.and_self, Bool.false_and, Bool.not_true, Bool.not_false, Bool.true_or, Bool.false_or]) <;> (try rfl)
    clear h1 h2 hG h5
    rw [HR.out]
    go_enter Try.func171, Try.ntmps171
    go_wp2_with fail
    rw [← HWW.out]
    clear HWW
    have g0 := fun u => grow_cell C0.out u
    have g1 := fun u => grow_cell C1.out u
    have g2 := fun u => grow_cell C2.out u
    have g3 := fun u => grow_cell D0.out u
    have g4 := fun u => grow_cell D1.out u
    have g5 := fun u => grow_cell D2.out u
    have g6 := fun u => grow_cell D3.out u
    have g7 := fun u => grow_cell D4.out u
    (refine wp_region_grow (by kernel_rfl) (by kernel_rfl) ?_; (repeat (go_big_quiet_step ((first | (go_at_call 131; refine calls_grow (impl_IsValidGroup ⟨pp, q, g⟩ _) (fun e w' h => ⟨by rw [h.1, H1.out], h.2⟩)) | (go_at_call 226; refine calls_grow (impl_IsValidContest k o l m p _) (fun e w' h => ⟨by rw [h.1, H2.out], h.2⟩)) | (go_at_call 227; refine calls_grow (impl_greatest k o l m p _ H2.out) (fun e w' h => ⟨by rw [h.1, HX.out], h.2⟩)) | fail)))); refine wpQuiet_nil ?_; intro _ hw'; obtain ⟨uq, hw''⟩ := hw'; subst hw''; have hbq := grow_below W uq; generalize grow W uq = wq at hbq ⊢)
    have HB2 := Lib.hid (HB.out.trans (hbq.mono HB.out.size))
    clear g0 g1 g2 g3 g4 g5 g6 g7
    have x1 := box_at C1.out hbq
    have y0 := box_at D0.out hbq
    have y1 := box_at D1.out hbq
    have y2 := box_at D2.out hbq
    have y3 := box_at D3.out hbq
    have y4 := box_at D4.out hbq
    clear hbq
    go_wp2_with fail
    refine (impl_isForm k o l m p _).mono ?_
    rintro e w3 ⟨rfl, hb3⟩
    rw [H5.out]
    replace x1 := box_at x1 hb3
    replace y2 := box_at y2 hb3
    replace y3 := box_at y3 hb3
    have HB3 := Lib.hid (HB2.out.trans (hb3.mono HB2.out.size))
    clear hb3 y0 y1 y4
    go_wp2_with fail
    go_ret
    exact ⟨rfl, HB3.out⟩
set_option maxRecDepth 100000 in
set_option maxHeartbeats 4000000 in
theorem spec_bGood (gr : GroupD) (k o l m p : Int) (w : World) :
    Calls Try.prog 167 #[.agg #[.int .i64 gr.p, .int .i64 gr.q, .int .i64 gr.g], .agg #[.int .i64 k, .int .i64 o, .int .i64 l, .int .i64 m, .int .i64 p]] w fun e w' => e = .returned (.bool (sealB gr k o l m p)) ∧ Below w.heap.size w w' := by
  obtain ⟨pp, q, g⟩ := gr
  obtain ⟨W, hW⟩ : ∃ W, W = (w.alloc (.cells #[.int .i64 pp, .int .i64 q, .int .i64 g] 30)).alloc (.cells #[.int .i64 k, .int .i64 o, .int .i64 l, .int .i64 m, .int .i64 p] 31) := ⟨_, rfl⟩
  have HB : Hid (Below w.heap.size w W) := by unfold Hid; rw [hW]; (repeat (first | exact Below.refl _ _ | assumption | refine Below.drew ?_ | refine Below.alloc ?_ (by first | (simp; done) | (simp; omega)) _ | refine Below.setCell ?_ (by first | (simp; done) | (simp; omega)) _))
  have C0 : Hid (W.cell? ⟨w.heap.size, 0, none⟩ = some (.int .i64 pp)) := by unfold Hid; rw [hW]; simp [go_sem]
  have C1 : Hid (W.cell? ⟨w.heap.size, 1, none⟩ = some (.int .i64 q)) := by unfold Hid; rw [hW]; simp [go_sem]
  have C2 : Hid (W.cell? ⟨w.heap.size, 2, none⟩ = some (.int .i64 g)) := by unfold Hid; rw [hW]; simp [go_sem]
  have D0 : Hid (W.cell? ⟨w.heap.size + 1, 0, none⟩ = some (.int .i64 k)) := by unfold Hid; rw [hW]; simp [go_sem]
  have D1 : Hid (W.cell? ⟨w.heap.size + 1, 1, none⟩ = some (.int .i64 o)) := by unfold Hid; rw [hW]; simp [go_sem]
  have D2 : Hid (W.cell? ⟨w.heap.size + 1, 2, none⟩ = some (.int .i64 l)) := by unfold Hid; rw [hW]; simp [go_sem]
  have D3 : Hid (W.cell? ⟨w.heap.size + 1, 3, none⟩ = some (.int .i64 m)) := by unfold Hid; rw [hW]; simp [go_sem]
  have D4 : Hid (W.cell? ⟨w.heap.size + 1, 4, none⟩ = some (.int .i64 p)) := by unfold Hid; rw [hW]; simp [go_sem]
  have HWW := Lib.hid hW; clear hW
  cases h1 : goodG ⟨pp, q, g⟩ with
  | false =>
    have H1 := Lib.hid h1
    have HR : Hid (sealB ⟨pp, q, g⟩ k o l m p = false) := by unfold Hid sealB; (try simp only [h1, Bool.false_and]) <;> (try rfl)
    clear h1
    rw [HR.out]
    go_enter Try.func167, Try.ntmps167
    go_wp2_with fail
    rw [← HWW.out]
    clear HWW
    have g0 := fun u => grow_cell C0.out u
    have g1 := fun u => grow_cell C1.out u
    have g2 := fun u => grow_cell C2.out u
    have g3 := fun u => grow_cell D0.out u
    have g4 := fun u => grow_cell D1.out u
    have g5 := fun u => grow_cell D2.out u
    have g6 := fun u => grow_cell D3.out u
    have g7 := fun u => grow_cell D4.out u
    (refine wp_region_grow (by kernel_rfl) (by kernel_rfl) ?_; (repeat (go_big_quiet_step ((first | (go_at_call 115; refine calls_grow (spec_l2Good ⟨pp, q, g⟩ _) (fun e w' h => ⟨by rw [h.1, H1.out], h.2⟩)) | (go_at_call 222; refine calls_grow (spec_vContest k o l m p _) (fun e w' h => ⟨by rw [h.1, H2.out], h.2⟩)) | (go_at_call 223; refine calls_grow (spec_bGreatest k o l m p _ H2.out) (fun e w' h => ⟨by rw [h.1, HX.out], h.2⟩)) | fail)))); refine wpQuiet_nil ?_; intro _ hw'; obtain ⟨uq, hw''⟩ := hw'; subst hw''; have hbq := grow_below W uq; generalize grow W uq = wq at hbq ⊢)
    skip
    go_wp2_with fail
    go_ret
    exact ⟨rfl, Below.next HB.out hbq⟩
  | true =>
  have H1 := Lib.hid h1
  cases h2 : ctOk k o l m p with
  | false =>
    have H2 := Lib.hid h2
    have HR : Hid (sealB ⟨pp, q, g⟩ k o l m p = false) := by unfold Hid sealB; (try simp only [h1, h2, Bool.true_and, Bool.false_and]) <;> (try rfl)
    clear h1 h2
    rw [HR.out]
    go_enter Try.func167, Try.ntmps167
    go_wp2_with fail
    rw [← HWW.out]
    clear HWW
    have g0 := fun u => grow_cell C0.out u
    have g1 := fun u => grow_cell C1.out u
    have g2 := fun u => grow_cell C2.out u
    have g3 := fun u => grow_cell D0.out u
    have g4 := fun u => grow_cell D1.out u
    have g5 := fun u => grow_cell D2.out u
    have g6 := fun u => grow_cell D3.out u
    have g7 := fun u => grow_cell D4.out u
    (refine wp_region_grow (by kernel_rfl) (by kernel_rfl) ?_; (repeat (go_big_quiet_step ((first | (go_at_call 115; refine calls_grow (spec_l2Good ⟨pp, q, g⟩ _) (fun e w' h => ⟨by rw [h.1, H1.out], h.2⟩)) | (go_at_call 222; refine calls_grow (spec_vContest k o l m p _) (fun e w' h => ⟨by rw [h.1, H2.out], h.2⟩)) | (go_at_call 223; refine calls_grow (spec_bGreatest k o l m p _ H2.out) (fun e w' h => ⟨by rw [h.1, HX.out], h.2⟩)) | fail)))); refine wpQuiet_nil ?_; intro _ hw'; obtain ⟨uq, hw''⟩ := hw'; subst hw''; have hbq := grow_below W uq; generalize grow W uq = wq at hbq ⊢)
    skip
    go_wp2_with fail
    go_ret
    exact ⟨rfl, Below.next HB.out hbq⟩
  | true =>
  have H2 := Lib.hid h2
  obtain ⟨b1, b2, b3, b4, b5, b6, b7⟩ := ctOk_bd h2
  obtain ⟨G, hG⟩ : ∃ G, ctGr k o m p = G := ⟨_, rfl⟩
  have hG0 := ctGr_bd h2
  rw [hG] at hG0
  have HX := Lib.hid hG
  have e1 : IntKind.i64.wrap (m - l) = m - l := IntWalk.i64_in _ (by omega)
  cases h3 : decide (100000 < G) with
  | true =>
    have HR : Hid (sealB ⟨pp, q, g⟩ k o l m p = false) := by unfold Hid sealB; (try simp only [h1, h2, hG, h3, Bool.true_and, Bool.false_and, Bool.not_true]) <;> (try rfl)
    clear h1 h2 hG
    rw [HR.out]
    go_enter Try.func167, Try.ntmps167
    go_wp2_with fail
    rw [← HWW.out]
    clear HWW
    have g0 := fun u => grow_cell C0.out u
    have g1 := fun u => grow_cell C1.out u
    have g2 := fun u => grow_cell C2.out u
    have g3 := fun u => grow_cell D0.out u
    have g4 := fun u => grow_cell D1.out u
    have g5 := fun u => grow_cell D2.out u
    have g6 := fun u => grow_cell D3.out u
    have g7 := fun u => grow_cell D4.out u
    (refine wp_region_grow (by kernel_rfl) (by kernel_rfl) ?_; (repeat (go_big_quiet_step ((first | (go_at_call 115; refine calls_grow (spec_l2Good ⟨pp, q, g⟩ _) (fun e w' h => ⟨by rw [h.1, H1.out], h.2⟩)) | (go_at_call 222; refine calls_grow (spec_vContest k o l m p _) (fun e w' h => ⟨by rw [h.1, H2.out], h.2⟩)) | (go_at_call 223; refine calls_grow (spec_bGreatest k o l m p _ H2.out) (fun e w' h => ⟨by rw [h.1, HX.out], h.2⟩)) | fail)))); refine wpQuiet_nil ?_; intro _ hw'; obtain ⟨uq, hw''⟩ := hw'; subst hw''; have hbq := grow_below W uq; generalize grow W uq = wq at hbq ⊢)
    skip
    go_wp2_with fail
    go_ret
    exact ⟨rfl, Below.next HB.out hbq⟩
  | false =>
  cases h4 : decide (q ≤ G) with
  | true =>
    have HR : Hid (sealB ⟨pp, q, g⟩ k o l m p = false) := by unfold Hid sealB; (try simp only [h1, h2, hG, h3, h4, Bool.true_and, Bool.false_and, Bool.not_true, Bool.not_false]) <;> (try rfl)
    clear h1 h2 hG
    rw [HR.out]
    go_enter Try.func167, Try.ntmps167
    go_wp2_with fail
    rw [← HWW.out]
    clear HWW
    have g0 := fun u => grow_cell C0.out u
    have g1 := fun u => grow_cell C1.out u
    have g2 := fun u => grow_cell C2.out u
    have g3 := fun u => grow_cell D0.out u
    have g4 := fun u => grow_cell D1.out u
    have g5 := fun u => grow_cell D2.out u
    have g6 := fun u => grow_cell D3.out u
    have g7 := fun u => grow_cell D4.out u
    (refine wp_region_grow (by kernel_rfl) (by kernel_rfl) ?_; (repeat (go_big_quiet_step ((first | (go_at_call 115; refine calls_grow (spec_l2Good ⟨pp, q, g⟩ _) (fun e w' h => ⟨by rw [h.1, H1.out], h.2⟩)) | (go_at_call 222; refine calls_grow (spec_vContest k o l m p _) (fun e w' h => ⟨by rw [h.1, H2.out], h.2⟩)) | (go_at_call 223; refine calls_grow (spec_bGreatest k o l m p _ H2.out) (fun e w' h => ⟨by rw [h.1, HX.out], h.2⟩)) | fail)))); refine wpQuiet_nil ?_; intro _ hw'; obtain ⟨uq, hw''⟩ := hw'; subst hw''; have hbq := grow_below W uq; generalize grow W uq = wq at hbq ⊢)
    skip
    go_wp2_with fail
    go_ret
    exact ⟨rfl, Below.next HB.out hbq⟩
  | false =>
  cases h5 : ctForm k with
  | false =>
    have H5 := Lib.hid h5
    have HR : Hid (sealB ⟨pp, q, g⟩ k o l m p = true) := by unfold Hid sealB; (try simp only [h1, h2, hG, h3, h4, h5, Bool.true_and, Bool.false_and, Bool.not_true, Bool.not_false, Bool.true_or]) <;> (try rfl)
    clear h1 h2 hG h5
    rw [HR.out]
    go_enter Try.func167, Try.ntmps167
    go_wp2_with fail
    rw [← HWW.out]
    clear HWW
    have g0 := fun u => grow_cell C0.out u
    have g1 := fun u => grow_cell C1.out u
    have g2 := fun u => grow_cell C2.out u
    have g3 := fun u => grow_cell D0.out u
    have g4 := fun u => grow_cell D1.out u
    have g5 := fun u => grow_cell D2.out u
    have g6 := fun u => grow_cell D3.out u
    have g7 := fun u => grow_cell D4.out u
    (refine wp_region_grow (by kernel_rfl) (by kernel_rfl) ?_; (repeat (go_big_quiet_step ((first | (go_at_call 115; refine calls_grow (spec_l2Good ⟨pp, q, g⟩ _) (fun e w' h => ⟨by rw [h.1, H1.out], h.2⟩)) | (go_at_call 222; refine calls_grow (spec_vContest k o l m p _) (fun e w' h => ⟨by rw [h.1, H2.out], h.2⟩)) | (go_at_call 223; refine calls_grow (spec_bGreatest k o l m p _ H2.out) (fun e w' h => ⟨by rw [h.1, HX.out], h.2⟩)) | fail)))); refine wpQuiet_nil ?_; intro _ hw'; obtain ⟨uq, hw''⟩ := hw'; subst hw''; have hbq := grow_below W uq; generalize grow W uq = wq at hbq ⊢)
    have HB2 := Lib.hid (HB.out.trans (hbq.mono HB.out.size))
    clear g0 g1 g2 g3 g4 g5 g6 g7
    have x1 := box_at C1.out hbq
    have y0 := box_at D0.out hbq
    have y1 := box_at D1.out hbq
    have y2 := box_at D2.out hbq
    have y3 := box_at D3.out hbq
    have y4 := box_at D4.out hbq
    clear hbq
    go_wp2_with fail
    refine (spec_bRows k o l m p _).mono ?_
    rintro e w3 ⟨rfl, hb3⟩
    rw [H5.out]
    replace x1 := box_at x1 hb3
    replace y2 := box_at y2 hb3
    replace y3 := box_at y3 hb3
    have HB3 := Lib.hid (HB2.out.trans (hb3.mono HB2.out.size))
    clear hb3 y0 y1 y4
    go_wp2_with fail
    go_ret
    exact ⟨rfl, HB3.out⟩
  | true =>
  have H5 := Lib.hid h5
  cases h6 : decide (m - l < 8) with
  | false =>
    have HR : Hid (sealB ⟨pp, q, g⟩ k o l m p = false) := by unfold Hid sealB; (try simp only [h1, h2, hG, h3, h4, h5, h6, Bool.true_and, Bool.false_and, Bool.not_true, Bool.not_false, Bool.true_or, Bool.false_or]) <;> (try rfl)
    clear h1 h2 hG h5
    rw [HR.out]
    go_enter Try.func167, Try.ntmps167
    go_wp2_with fail
    rw [← HWW.out]
    clear HWW
    have g0 := fun u => grow_cell C0.out u
    have g1 := fun u => grow_cell C1.out u
    have g2 := fun u => grow_cell C2.out u
    have g3 := fun u => grow_cell D0.out u
    have g4 := fun u => grow_cell D1.out u
    have g5 := fun u => grow_cell D2.out u
    have g6 := fun u => grow_cell D3.out u
    have g7 := fun u => grow_cell D4.out u
    (refine wp_region_grow (by kernel_rfl) (by kernel_rfl) ?_; (repeat (go_big_quiet_step ((first | (go_at_call 115; refine calls_grow (spec_l2Good ⟨pp, q, g⟩ _) (fun e w' h => ⟨by rw [h.1, H1.out], h.2⟩)) | (go_at_call 222; refine calls_grow (spec_vContest k o l m p _) (fun e w' h => ⟨by rw [h.1, H2.out], h.2⟩)) | (go_at_call 223; refine calls_grow (spec_bGreatest k o l m p _ H2.out) (fun e w' h => ⟨by rw [h.1, HX.out], h.2⟩)) | fail)))); refine wpQuiet_nil ?_; intro _ hw'; obtain ⟨uq, hw''⟩ := hw'; subst hw''; have hbq := grow_below W uq; generalize grow W uq = wq at hbq ⊢)
    have HB2 := Lib.hid (HB.out.trans (hbq.mono HB.out.size))
    clear g0 g1 g2 g3 g4 g5 g6 g7
    have x1 := box_at C1.out hbq
    have y0 := box_at D0.out hbq
    have y1 := box_at D1.out hbq
    have y2 := box_at D2.out hbq
    have y3 := box_at D3.out hbq
    have y4 := box_at D4.out hbq
    clear hbq
    go_wp2_with fail
    refine (spec_bRows k o l m p _).mono ?_
    rintro e w3 ⟨rfl, hb3⟩
    rw [H5.out]
    replace x1 := box_at x1 hb3
    replace y2 := box_at y2 hb3
    replace y3 := box_at y3 hb3
    have HB3 := Lib.hid (HB2.out.trans (hb3.mono HB2.out.size))
    clear hb3 y0 y1 y4
    go_wp2_with fail
    go_ret
    exact ⟨rfl, HB3.out⟩
  | true =>
  cases h7 : decide (m < q) with
  | false =>
    have HR : Hid (sealB ⟨pp, q, g⟩ k o l m p = false) := by unfold Hid sealB; (try simp only [h1, h2, hG, h3, h4, h5, h6, h7, Bool.true_and, Bool.and_self, Bool.false_and, Bool.not_true, Bool.not_false, Bool.true_or, Bool.false_or]) <;> (try rfl)
    clear h1 h2 hG h5
    rw [HR.out]
    go_enter Try.func167, Try.ntmps167
    go_wp2_with fail
    rw [← HWW.out]
    clear HWW
    have g0 := fun u => grow_cell C0.out u
    have g1 := fun u => grow_cell C1.out u
    have g2 := fun u => grow_cell C2.out u
    have g3 := fun u => grow_cell D0.out u
    have g4 := fun u => grow_cell D1.out u
    have g5 := fun u => grow_cell D2.out u
    have g6 := fun u => grow_cell D3.out u
    have g7 := fun u => grow_cell D4.out u
    (refine wp_region_grow (by kernel_rfl) (by kernel_rfl) ?_; (repeat (go_big_quiet_step ((first | (go_at_call 115; refine calls_grow (spec_l2Good ⟨pp, q, g⟩ _) (fun e w' h => ⟨by rw [h.1, H1.out], h.2⟩)) | (go_at_call 222; refine calls_grow (spec_vContest k o l m p _) (fun e w' h => ⟨by rw [h.1, H2.out], h.2⟩)) | (go_at_call 223; refine calls_grow (spec_bGreatest k o l m p _ H2.out) (fun e w' h => ⟨by rw [h.1, HX.out], h.2⟩)) | fail)))); refine wpQuiet_nil ?_; intro _ hw'; obtain ⟨uq, hw''⟩ := hw'; subst hw''; have hbq := grow_below W uq; generalize grow W uq = wq at hbq ⊢)
    have HB2 := Lib.hid (HB.out.trans (hbq.mono HB.out.size))
    clear g0 g1 g2 g3 g4 g5 g6 g7
    have x1 := box_at C1.out hbq
    have y0 := box_at D0.out hbq
    have y1 := box_at D1.out hbq
    have y2 := box_at D2.out hbq
    have y3 := box_at D3.out hbq
    have y4 := box_at D4.out hbq
    clear hbq
    go_wp2_with fail
    refine (spec_bRows k o l m p _).mono ?_
    rintro e w3 ⟨rfl, hb3⟩
    rw [H5.out]
    replace x1 := box_at x1 hb3
    replace y2 := box_at y2 hb3
    replace y3 := box_at y3 hb3
    have HB3 := Lib.hid (HB2.out.trans (hb3.mono HB2.out.size))
    clear hb3 y0 y1 y4
    go_wp2_with fail
    go_ret
    exact ⟨rfl, HB3.out⟩
  | true =>
    have HR : Hid (sealB ⟨pp, q, g⟩ k o l m p = true) := by unfold Hid sealB; (try simp only [h1, h2, hG, h3, h4, h5, h6, h7, Bool.true_and, Bool.and_self, Bool.false_and, Bool.not_true, Bool.not_false, Bool.true_or, Bool.false_or]) <;> (try rfl)
    clear h1 h2 hG h5
    rw [HR.out]
    go_enter Try.func167, Try.ntmps167
    go_wp2_with fail
    rw [← HWW.out]
    clear HWW
    have g0 := fun u => grow_cell C0.out u
    have g1 := fun u => grow_cell C1.out u
    have g2 := fun u => grow_cell C2.out u
    have g3 := fun u => grow_cell D0.out u
    have g4 := fun u => grow_cell D1.out u
    have g5 := fun u => grow_cell D2.out u
    have g6 := fun u => grow_cell D3.out u
    have g7 := fun u => grow_cell D4.out u
    (refine wp_region_grow (by kernel_rfl) (by kernel_rfl) ?_; (repeat (go_big_quiet_step ((first | (go_at_call 115; refine calls_grow (spec_l2Good ⟨pp, q, g⟩ _) (fun e w' h => ⟨by rw [h.1, H1.out], h.2⟩)) | (go_at_call 222; refine calls_grow (spec_vContest k o l m p _) (fun e w' h => ⟨by rw [h.1, H2.out], h.2⟩)) | (go_at_call 223; refine calls_grow (spec_bGreatest k o l m p _ H2.out) (fun e w' h => ⟨by rw [h.1, HX.out], h.2⟩)) | fail)))); refine wpQuiet_nil ?_; intro _ hw'; obtain ⟨uq, hw''⟩ := hw'; subst hw''; have hbq := grow_below W uq; generalize grow W uq = wq at hbq ⊢)
    have HB2 := Lib.hid (HB.out.trans (hbq.mono HB.out.size))
    clear g0 g1 g2 g3 g4 g5 g6 g7
    have x1 := box_at C1.out hbq
    have y0 := box_at D0.out hbq
    have y1 := box_at D1.out hbq
    have y2 := box_at D2.out hbq
    have y3 := box_at D3.out hbq
    have y4 := box_at D4.out hbq
    clear hbq
    go_wp2_with fail
    refine (spec_bRows k o l m p _).mono ?_
    rintro e w3 ⟨rfl, hb3⟩
    rw [H5.out]
    replace x1 := box_at x1 hb3
    replace y2 := box_at y2 hb3
    replace y3 := box_at y3 hb3
    have HB3 := Lib.hid (HB2.out.trans (hb3.mono HB2.out.size))
    clear hb3 y0 y1 y4
    go_wp2_with fail
    go_ret
    exact ⟨rfl, HB3.out⟩
end Go.Proofs.Ytcpigedjblkcfaa

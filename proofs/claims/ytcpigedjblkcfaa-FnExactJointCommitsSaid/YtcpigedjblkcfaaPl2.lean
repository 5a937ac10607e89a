/- Plans of elections: the reference's walk of their validity. -/
import Derived.Test.YtcpigedjblkcfaaPl1
namespace Go.Proofs.Ytcpigedjblkcfaa
open Go.RowKit
set_option linter.unusedSimpArgs false
set_option linter.unusedVariables false

theorem spec_bases12 (gr : GroupD) (w : World) (hg : goodG gr = true) :
    Calls Try.prog 170 #[.agg #[.int .i64 gr.p, .int .i64 gr.q, .int .i64 gr.g], .int .i64 12] w fun e w' => (∃ x a m c, e = .returned (.tuple #[.agg #[.int .i64 x, .slice a m c], .bool (basB gr sH sHs 12)])) ∧ Below w.heap.size w w' := spec_BasesOf gr 12 w hg (by decide)
set_option maxRecDepth 100000 in
set_option maxHeartbeats 4000000 in
theorem spec_nPlan (p q g k o l m pt th tr mx vt sd : Int) (w : World) :
    Calls Try.prog 71 #[.agg #[.int .i64 p, .int .i64 q, .int .i64 g, .int .i64 k, .int .i64 o, .int .i64 l, .int .i64 m, .int .i64 pt, .int .i64 th, .int .i64 tr, .int .i64 mx, .int .i64 vt, .int .i64 sd]] w fun e w' => e = .returned (.bool (planB ⟨p, q, g, k, o, l, m, pt, th, tr, mx, vt, sd⟩)) ∧ Below w.heap.size w w' := by
  obtain ⟨W, hW⟩ : ∃ W, W = w.alloc (.cells #[.int .i64 p, .int .i64 q, .int .i64 g, .int .i64 k, .int .i64 o, .int .i64 l, .int .i64 m, .int .i64 pt, .int .i64 th, .int .i64 tr, .int .i64 mx, .int .i64 vt, .int .i64 sd] 33) := ⟨_, rfl⟩
  have hsW : W.heap.size = w.heap.size + 1 := by rw [hW]; simp
  have HB : Hid (Below w.heap.size w W) := by unfold Hid; rw [hW]; exact (Below.refl _ _).alloc (Nat.le_refl _) _
  have HX : Hid (BoxN W w.heap.size 33 [.int .i64 p, .int .i64 q, .int .i64 g, .int .i64 k, .int .i64 o, .int .i64 l, .int .i64 m, .int .i64 pt, .int .i64 th, .int .i64 tr, .int .i64 mx, .int .i64 vt, .int .i64 sd]) := by unfold Hid; rw [hW]; exact BoxN.new w _ _
  have HWW := Lib.hid hW; clear hW
  cases h1 : sealB ⟨p, q, g⟩ k o l m pt with
  | false =>
    have H1 := Lib.hid h1
    have HR : Hid (planB ⟨p, q, g, k, o, l, m, pt, th, tr, mx, vt, sd⟩ = false) := by unfold Hid planB; (try simp only [h1, Bool.not_false, Bool.not_true, Bool.true_and, Bool.false_and, Bool.and_false, Bool.and_self]) <;> (try rfl)
    clear h1
    rw [HR.out]
    go_enter Try.func71, Try.ntmps71
    go_wp2_with fail
    rw [← HWW.out]
    clear HWW
    have i0 := HX.out.cell (i := 0) rfl
    have i1 := HX.out.cell (i := 1) rfl
    have i2 := HX.out.cell (i := 2) rfl
    have i3 := HX.out.cell (i := 3) rfl
    have i4 := HX.out.cell (i := 4) rfl
    have i5 := HX.out.cell (i := 5) rfl
    have i6 := HX.out.cell (i := 6) rfl
    have i7 := HX.out.cell (i := 7) rfl
    have i8 := HX.out.cell (i := 8) rfl
    have i9 := HX.out.cell (i := 9) rfl
    have i10 := HX.out.cell (i := 10) rfl
    have i11 := HX.out.cell (i := 11) rfl
    have i12 := HX.out.cell (i := 12) rfl
    go_wp2_with fail
    refine (spec_bGood ⟨p, q, g⟩ k o l m pt _).mono ?_
    rintro e w1 ⟨rfl, hb1⟩
    rw [H1.out]
    have HX1 : Hid (BoxN w1 w.heap.size 33 [.int .i64 p, .int .i64 q, .int .i64 g, .int .i64 k, .int .i64 o, .int .i64 l, .int .i64 m, .int .i64 pt, .int .i64 th, .int .i64 tr, .int .i64 mx, .int .i64 vt, .int .i64 sd]) := HX.out.below hb1
    have HB1 := Lib.hid (Below.next HB.out hb1)
    clear hb1 HX
    clear i0 i1 i2 i3 i4 i5 i6 i7 i8 i9 i10 i11 i12
    have i0 := HX1.out.cell (i := 0) rfl
    have i1 := HX1.out.cell (i := 1) rfl
    have i2 := HX1.out.cell (i := 2) rfl
    have i3 := HX1.out.cell (i := 3) rfl
    have i4 := HX1.out.cell (i := 4) rfl
    have i5 := HX1.out.cell (i := 5) rfl
    have i6 := HX1.out.cell (i := 6) rfl
    have i7 := HX1.out.cell (i := 7) rfl
    have i8 := HX1.out.cell (i := 8) rfl
    have i9 := HX1.out.cell (i := 9) rfl
    have i10 := HX1.out.cell (i := 10) rfl
    have i11 := HX1.out.cell (i := 11) rfl
    have i12 := HX1.out.cell (i := 12) rfl
    go_wp2_with (first
      | (go_at_call 76; refine (spec_l1In _ _ _ _).mono ?_; rintro e w2 ⟨rfl, rfl⟩; first | rw [H3.out] | rw [H4.out] | rw [H5.out] | rw [H6.out])
      | (go_at_call 80; refine (spec_l3Digest _ _).mono ?_; rintro e w2 ⟨rfl, rfl⟩; rw [H7.out])
      | fail)
    go_ret
    exact ⟨rfl, HB1.out⟩
  | true =>
  have H1 := Lib.hid h1
  cases h4 : decide (1 ≤ th ∧ th ≤ tr) with
  | false =>
    have H4 := Lib.hid h4
    have HR : Hid (planB ⟨p, q, g, k, o, l, m, pt, th, tr, mx, vt, sd⟩ = false) := by unfold Hid planB; (try simp only [h1, h4, Bool.not_false, Bool.not_true, Bool.true_and, Bool.false_and, Bool.and_false, Bool.and_self]) <;> (try rfl)
    clear h1 h4
    rw [HR.out]
    go_enter Try.func71, Try.ntmps71
    go_wp2_with fail
    rw [← HWW.out]
    clear HWW
    have i0 := HX.out.cell (i := 0) rfl
    have i1 := HX.out.cell (i := 1) rfl
    have i2 := HX.out.cell (i := 2) rfl
    have i3 := HX.out.cell (i := 3) rfl
    have i4 := HX.out.cell (i := 4) rfl
    have i5 := HX.out.cell (i := 5) rfl
    have i6 := HX.out.cell (i := 6) rfl
    have i7 := HX.out.cell (i := 7) rfl
    have i8 := HX.out.cell (i := 8) rfl
    have i9 := HX.out.cell (i := 9) rfl
    have i10 := HX.out.cell (i := 10) rfl
    have i11 := HX.out.cell (i := 11) rfl
    have i12 := HX.out.cell (i := 12) rfl
    go_wp2_with fail
    refine (spec_bGood ⟨p, q, g⟩ k o l m pt _).mono ?_
    rintro e w1 ⟨rfl, hb1⟩
    rw [H1.out]
    have HX1 : Hid (BoxN w1 w.heap.size 33 [.int .i64 p, .int .i64 q, .int .i64 g, .int .i64 k, .int .i64 o, .int .i64 l, .int .i64 m, .int .i64 pt, .int .i64 th, .int .i64 tr, .int .i64 mx, .int .i64 vt, .int .i64 sd]) := HX.out.below hb1
    have HB1 := Lib.hid (Below.next HB.out hb1)
    clear hb1 HX
    clear i0 i1 i2 i3 i4 i5 i6 i7 i8 i9 i10 i11 i12
    have i0 := HX1.out.cell (i := 0) rfl
    have i1 := HX1.out.cell (i := 1) rfl
    have i2 := HX1.out.cell (i := 2) rfl
    have i3 := HX1.out.cell (i := 3) rfl
    have i4 := HX1.out.cell (i := 4) rfl
    have i5 := HX1.out.cell (i := 5) rfl
    have i6 := HX1.out.cell (i := 6) rfl
    have i7 := HX1.out.cell (i := 7) rfl
    have i8 := HX1.out.cell (i := 8) rfl
    have i9 := HX1.out.cell (i := 9) rfl
    have i10 := HX1.out.cell (i := 10) rfl
    have i11 := HX1.out.cell (i := 11) rfl
    have i12 := HX1.out.cell (i := 12) rfl
    go_wp2_with (first
      | (go_at_call 76; refine (spec_l1In _ _ _ _).mono ?_; rintro e w2 ⟨rfl, rfl⟩; first | rw [H3.out] | rw [H4.out] | rw [H5.out] | rw [H6.out])
      | (go_at_call 80; refine (spec_l3Digest _ _).mono ?_; rintro e w2 ⟨rfl, rfl⟩; rw [H7.out])
      | fail)
    go_ret
    exact ⟨rfl, HB1.out⟩
  | true =>
  have H4 := Lib.hid h4
  cases h9 : decide (4 < tr) with
  | true =>
    have h3 : decide (1 ≤ tr ∧ tr ≤ 4) = false := by have := of_decide_eq_true h9; exact decide_eq_false (by omega)
    have HR : Hid (planB ⟨p, q, g, k, o, l, m, pt, th, tr, mx, vt, sd⟩ = false) := by unfold Hid planB; (try simp only [h1, h4, h3, Bool.not_false, Bool.not_true, Bool.true_and, Bool.false_and, Bool.and_false, Bool.and_self]) <;> (try rfl)
    clear h1 h4 h3
    rw [HR.out]
    go_enter Try.func71, Try.ntmps71
    go_wp2_with fail
    rw [← HWW.out]
    clear HWW
    have i0 := HX.out.cell (i := 0) rfl
    have i1 := HX.out.cell (i := 1) rfl
    have i2 := HX.out.cell (i := 2) rfl
    have i3 := HX.out.cell (i := 3) rfl
    have i4 := HX.out.cell (i := 4) rfl
    have i5 := HX.out.cell (i := 5) rfl
    have i6 := HX.out.cell (i := 6) rfl
    have i7 := HX.out.cell (i := 7) rfl
    have i8 := HX.out.cell (i := 8) rfl
    have i9 := HX.out.cell (i := 9) rfl
    have i10 := HX.out.cell (i := 10) rfl
    have i11 := HX.out.cell (i := 11) rfl
    have i12 := HX.out.cell (i := 12) rfl
    go_wp2_with fail
    refine (spec_bGood ⟨p, q, g⟩ k o l m pt _).mono ?_
    rintro e w1 ⟨rfl, hb1⟩
    rw [H1.out]
    have HX1 : Hid (BoxN w1 w.heap.size 33 [.int .i64 p, .int .i64 q, .int .i64 g, .int .i64 k, .int .i64 o, .int .i64 l, .int .i64 m, .int .i64 pt, .int .i64 th, .int .i64 tr, .int .i64 mx, .int .i64 vt, .int .i64 sd]) := HX.out.below hb1
    have HB1 := Lib.hid (Below.next HB.out hb1)
    clear hb1 HX
    clear i0 i1 i2 i3 i4 i5 i6 i7 i8 i9 i10 i11 i12
    have i0 := HX1.out.cell (i := 0) rfl
    have i1 := HX1.out.cell (i := 1) rfl
    have i2 := HX1.out.cell (i := 2) rfl
    have i3 := HX1.out.cell (i := 3) rfl
    have i4 := HX1.out.cell (i := 4) rfl
    have i5 := HX1.out.cell (i := 5) rfl
    have i6 := HX1.out.cell (i := 6) rfl
    have i7 := HX1.out.cell (i := 7) rfl
    have i8 := HX1.out.cell (i := 8) rfl
    have i9 := HX1.out.cell (i := 9) rfl
    have i10 := HX1.out.cell (i := 10) rfl
    have i11 := HX1.out.cell (i := 11) rfl
    have i12 := HX1.out.cell (i := 12) rfl
    go_wp2_with (first
      | (go_at_call 76; refine (spec_l1In _ _ _ _).mono ?_; rintro e w2 ⟨rfl, rfl⟩; first | rw [H3.out] | rw [H4.out] | rw [H5.out] | rw [H6.out])
      | (go_at_call 80; refine (spec_l3Digest _ _).mono ?_; rintro e w2 ⟨rfl, rfl⟩; rw [H7.out])
      | fail)
    go_ret
    exact ⟨rfl, HB1.out⟩
  | false =>
  have h3 : decide (1 ≤ tr ∧ tr ≤ 4) = true := by have := of_decide_eq_true h4; have := of_decide_eq_false h9; exact decide_eq_true (by omega)
  have H3 := Lib.hid h3
  cases h2 : decide (q ≤ 7) with
  | true =>
    have HR : Hid (planB ⟨p, q, g, k, o, l, m, pt, th, tr, mx, vt, sd⟩ = false) := by unfold Hid planB; (try simp only [h1, h4, h3, h2, Bool.not_false, Bool.not_true, Bool.true_and, Bool.false_and, Bool.and_false, Bool.and_self]) <;> (try rfl)
    clear h1 h4 h3
    rw [HR.out]
    go_enter Try.func71, Try.ntmps71
    go_wp2_with fail
    rw [← HWW.out]
    clear HWW
    have i0 := HX.out.cell (i := 0) rfl
    have i1 := HX.out.cell (i := 1) rfl
    have i2 := HX.out.cell (i := 2) rfl
    have i3 := HX.out.cell (i := 3) rfl
    have i4 := HX.out.cell (i := 4) rfl
    have i5 := HX.out.cell (i := 5) rfl
    have i6 := HX.out.cell (i := 6) rfl
    have i7 := HX.out.cell (i := 7) rfl
    have i8 := HX.out.cell (i := 8) rfl
    have i9 := HX.out.cell (i := 9) rfl
    have i10 := HX.out.cell (i := 10) rfl
    have i11 := HX.out.cell (i := 11) rfl
    have i12 := HX.out.cell (i := 12) rfl
    go_wp2_with fail
    refine (spec_bGood ⟨p, q, g⟩ k o l m pt _).mono ?_
    rintro e w1 ⟨rfl, hb1⟩
    rw [H1.out]
    have HX1 : Hid (BoxN w1 w.heap.size 33 [.int .i64 p, .int .i64 q, .int .i64 g, .int .i64 k, .int .i64 o, .int .i64 l, .int .i64 m, .int .i64 pt, .int .i64 th, .int .i64 tr, .int .i64 mx, .int .i64 vt, .int .i64 sd]) := HX.out.below hb1
    have HB1 := Lib.hid (Below.next HB.out hb1)
    clear hb1 HX
    clear i0 i1 i2 i3 i4 i5 i6 i7 i8 i9 i10 i11 i12
    have i0 := HX1.out.cell (i := 0) rfl
    have i1 := HX1.out.cell (i := 1) rfl
    have i2 := HX1.out.cell (i := 2) rfl
    have i3 := HX1.out.cell (i := 3) rfl
    have i4 := HX1.out.cell (i := 4) rfl
    have i5 := HX1.out.cell (i := 5) rfl
    have i6 := HX1.out.cell (i := 6) rfl
    have i7 := HX1.out.cell (i := 7) rfl
    have i8 := HX1.out.cell (i := 8) rfl
    have i9 := HX1.out.cell (i := 9) rfl
    have i10 := HX1.out.cell (i := 10) rfl
    have i11 := HX1.out.cell (i := 11) rfl
    have i12 := HX1.out.cell (i := 12) rfl
    go_wp2_with (first
      | (go_at_call 76; refine (spec_l1In _ _ _ _).mono ?_; rintro e w2 ⟨rfl, rfl⟩; first | rw [H3.out] | rw [H4.out] | rw [H5.out] | rw [H6.out])
      | (go_at_call 80; refine (spec_l3Digest _ _).mono ?_; rintro e w2 ⟨rfl, rfl⟩; rw [H7.out])
      | fail)
    go_ret
    exact ⟨rfl, HB1.out⟩
  | false =>
  cases h5 : decide (0 ≤ mx ∧ mx ≤ 3) with
  | false =>
    have H5 := Lib.hid h5
    have HR : Hid (planB ⟨p, q, g, k, o, l, m, pt, th, tr, mx, vt, sd⟩ = false) := by unfold Hid planB; (try simp only [h1, h4, h3, h2, h5, Bool.not_false, Bool.not_true, Bool.true_and, Bool.false_and, Bool.and_false, Bool.and_self]) <;> (try rfl)
    clear h1 h4 h3 h5
    rw [HR.out]
    go_enter Try.func71, Try.ntmps71
    go_wp2_with fail
    rw [← HWW.out]
    clear HWW
    have i0 := HX.out.cell (i := 0) rfl
    have i1 := HX.out.cell (i := 1) rfl
    have i2 := HX.out.cell (i := 2) rfl
    have i3 := HX.out.cell (i := 3) rfl
    have i4 := HX.out.cell (i := 4) rfl
    have i5 := HX.out.cell (i := 5) rfl
    have i6 := HX.out.cell (i := 6) rfl
    have i7 := HX.out.cell (i := 7) rfl
    have i8 := HX.out.cell (i := 8) rfl
    have i9 := HX.out.cell (i := 9) rfl
    have i10 := HX.out.cell (i := 10) rfl
    have i11 := HX.out.cell (i := 11) rfl
    have i12 := HX.out.cell (i := 12) rfl
    go_wp2_with fail
    refine (spec_bGood ⟨p, q, g⟩ k o l m pt _).mono ?_
    rintro e w1 ⟨rfl, hb1⟩
    rw [H1.out]
    have HX1 : Hid (BoxN w1 w.heap.size 33 [.int .i64 p, .int .i64 q, .int .i64 g, .int .i64 k, .int .i64 o, .int .i64 l, .int .i64 m, .int .i64 pt, .int .i64 th, .int .i64 tr, .int .i64 mx, .int .i64 vt, .int .i64 sd]) := HX.out.below hb1
    have HB1 := Lib.hid (Below.next HB.out hb1)
    clear hb1 HX
    clear i0 i1 i2 i3 i4 i5 i6 i7 i8 i9 i10 i11 i12
    have i0 := HX1.out.cell (i := 0) rfl
    have i1 := HX1.out.cell (i := 1) rfl
    have i2 := HX1.out.cell (i := 2) rfl
    have i3 := HX1.out.cell (i := 3) rfl
    have i4 := HX1.out.cell (i := 4) rfl
    have i5 := HX1.out.cell (i := 5) rfl
    have i6 := HX1.out.cell (i := 6) rfl
    have i7 := HX1.out.cell (i := 7) rfl
    have i8 := HX1.out.cell (i := 8) rfl
    have i9 := HX1.out.cell (i := 9) rfl
    have i10 := HX1.out.cell (i := 10) rfl
    have i11 := HX1.out.cell (i := 11) rfl
    have i12 := HX1.out.cell (i := 12) rfl
    go_wp2_with (first
      | (go_at_call 76; refine (spec_l1In _ _ _ _).mono ?_; rintro e w2 ⟨rfl, rfl⟩; first | rw [H3.out] | rw [H4.out] | rw [H5.out] | rw [H6.out])
      | (go_at_call 80; refine (spec_l3Digest _ _).mono ?_; rintro e w2 ⟨rfl, rfl⟩; rw [H7.out])
      | fail)
    go_ret
    exact ⟨rfl, HB1.out⟩
  | true =>
  have H5 := Lib.hid h5
  cases h6 : decide (1 ≤ vt ∧ vt ≤ 12) with
  | false =>
    have H6 := Lib.hid h6
    have HR : Hid (planB ⟨p, q, g, k, o, l, m, pt, th, tr, mx, vt, sd⟩ = false) := by unfold Hid planB; (try simp only [h1, h4, h3, h2, h5, h6, Bool.not_false, Bool.not_true, Bool.true_and, Bool.false_and, Bool.and_false, Bool.and_self]) <;> (try rfl)
    clear h1 h4 h3 h5 h6
    rw [HR.out]
    go_enter Try.func71, Try.ntmps71
    go_wp2_with fail
    rw [← HWW.out]
    clear HWW
    have i0 := HX.out.cell (i := 0) rfl
    have i1 := HX.out.cell (i := 1) rfl
    have i2 := HX.out.cell (i := 2) rfl
    have i3 := HX.out.cell (i := 3) rfl
    have i4 := HX.out.cell (i := 4) rfl
    have i5 := HX.out.cell (i := 5) rfl
    have i6 := HX.out.cell (i := 6) rfl
    have i7 := HX.out.cell (i := 7) rfl
    have i8 := HX.out.cell (i := 8) rfl
    have i9 := HX.out.cell (i := 9) rfl
    have i10 := HX.out.cell (i := 10) rfl
    have i11 := HX.out.cell (i := 11) rfl
    have i12 := HX.out.cell (i := 12) rfl
    go_wp2_with fail
    refine (spec_bGood ⟨p, q, g⟩ k o l m pt _).mono ?_
    rintro e w1 ⟨rfl, hb1⟩
    rw [H1.out]
    have HX1 : Hid (BoxN w1 w.heap.size 33 [.int .i64 p, .int .i64 q, .int .i64 g, .int .i64 k, .int .i64 o, .int .i64 l, .int .i64 m, .int .i64 pt, .int .i64 th, .int .i64 tr, .int .i64 mx, .int .i64 vt, .int .i64 sd]) := HX.out.below hb1
    have HB1 := Lib.hid (Below.next HB.out hb1)
    clear hb1 HX
    clear i0 i1 i2 i3 i4 i5 i6 i7 i8 i9 i10 i11 i12
    have i0 := HX1.out.cell (i := 0) rfl
    have i1 := HX1.out.cell (i := 1) rfl
    have i2 := HX1.out.cell (i := 2) rfl
    have i3 := HX1.out.cell (i := 3) rfl
    have i4 := HX1.out.cell (i := 4) rfl
    have i5 := HX1.out.cell (i := 5) rfl
    have i6 := HX1.out.cell (i := 6) rfl
    have i7 := HX1.out.cell (i := 7) rfl
    have i8 := HX1.out.cell (i := 8) rfl
    have i9 := HX1.out.cell (i := 9) rfl
    have i10 := HX1.out.cell (i := 10) rfl
    have i11 := HX1.out.cell (i := 11) rfl
    have i12 := HX1.out.cell (i := 12) rfl
    go_wp2_with (first
      | (go_at_call 76; refine (spec_l1In _ _ _ _).mono ?_; rintro e w2 ⟨rfl, rfl⟩; first | rw [H3.out] | rw [H4.out] | rw [H5.out] | rw [H6.out])
      | (go_at_call 80; refine (spec_l3Digest _ _).mono ?_; rintro e w2 ⟨rfl, rfl⟩; rw [H7.out])
      | fail)
    go_ret
    exact ⟨rfl, HB1.out⟩
  | true =>
  have H6 := Lib.hid h6
  cases h7 : digestB sd with
  | false =>
    have H7 := Lib.hid h7
    have HR : Hid (planB ⟨p, q, g, k, o, l, m, pt, th, tr, mx, vt, sd⟩ = false) := by unfold Hid planB; (try simp only [h1, h4, h3, h2, h5, h6, h7, Bool.not_false, Bool.not_true, Bool.true_and, Bool.false_and, Bool.and_false, Bool.and_self]) <;> (try rfl)
    clear h1 h4 h3 h5 h6 h7
    rw [HR.out]
    go_enter Try.func71, Try.ntmps71
    go_wp2_with fail
    rw [← HWW.out]
    clear HWW
    have i0 := HX.out.cell (i := 0) rfl
    have i1 := HX.out.cell (i := 1) rfl
    have i2 := HX.out.cell (i := 2) rfl
    have i3 := HX.out.cell (i := 3) rfl
    have i4 := HX.out.cell (i := 4) rfl
    have i5 := HX.out.cell (i := 5) rfl
    have i6 := HX.out.cell (i := 6) rfl
    have i7 := HX.out.cell (i := 7) rfl
    have i8 := HX.out.cell (i := 8) rfl
    have i9 := HX.out.cell (i := 9) rfl
    have i10 := HX.out.cell (i := 10) rfl
    have i11 := HX.out.cell (i := 11) rfl
    have i12 := HX.out.cell (i := 12) rfl
    go_wp2_with fail
    refine (spec_bGood ⟨p, q, g⟩ k o l m pt _).mono ?_
    rintro e w1 ⟨rfl, hb1⟩
    rw [H1.out]
    have HX1 : Hid (BoxN w1 w.heap.size 33 [.int .i64 p, .int .i64 q, .int .i64 g, .int .i64 k, .int .i64 o, .int .i64 l, .int .i64 m, .int .i64 pt, .int .i64 th, .int .i64 tr, .int .i64 mx, .int .i64 vt, .int .i64 sd]) := HX.out.below hb1
    have HB1 := Lib.hid (Below.next HB.out hb1)
    clear hb1 HX
    clear i0 i1 i2 i3 i4 i5 i6 i7 i8 i9 i10 i11 i12
    have i0 := HX1.out.cell (i := 0) rfl
    have i1 := HX1.out.cell (i := 1) rfl
    have i2 := HX1.out.cell (i := 2) rfl
    have i3 := HX1.out.cell (i := 3) rfl
    have i4 := HX1.out.cell (i := 4) rfl
    have i5 := HX1.out.cell (i := 5) rfl
    have i6 := HX1.out.cell (i := 6) rfl
    have i7 := HX1.out.cell (i := 7) rfl
    have i8 := HX1.out.cell (i := 8) rfl
    have i9 := HX1.out.cell (i := 9) rfl
    have i10 := HX1.out.cell (i := 10) rfl
    have i11 := HX1.out.cell (i := 11) rfl
    have i12 := HX1.out.cell (i := 12) rfl
    go_wp2_with (first
      | (go_at_call 76; refine (spec_l1In _ _ _ _).mono ?_; rintro e w2 ⟨rfl, rfl⟩; first | rw [H3.out] | rw [H4.out] | rw [H5.out] | rw [H6.out])
      | (go_at_call 80; refine (spec_l3Digest _ _).mono ?_; rintro e w2 ⟨rfl, rfl⟩; rw [H7.out])
      | fail)
    go_ret
    exact ⟨rfl, HB1.out⟩
  | true =>
  have H7 := Lib.hid h7
  obtain ⟨hgood, hct⟩ := sealB_good h1
  have HGD := Lib.hid hgood
  have HG := Lib.hid (goodG_ok hgood)
  obtain ⟨_, _, hpt0, hpt5, _, _, _⟩ := ctOk_bd hct
  have hvt := of_decide_eq_true h6
  obtain ⟨hv1, hv2⟩ := hvt
  have hmost : 0 ≤ ctMost k pt ∧ ctMost k pt ≤ 5 := by unfold ctMost; split <;> omega
  clear hgood hct
  obtain ⟨t, ht⟩ : ∃ t, ctMost k pt = t := ⟨_, rfl⟩
  rw [ht] at hmost
  have HM : Hid (ctForm k = true → ctTop k pt = t) := fun h => by rw [← ctMost_eq h]; exact ht
  obtain ⟨t0, t1⟩ := hmost
  obtain ⟨m0, m1⟩ := mul_bd (a := vt) (b := t) (by omega) hv2 t0 t1
  have e1 : IntKind.i64.wrap (vt * t) = vt * t := IntWalk.i64_in _ (by omega)
  cases hF : ctForm k with
  | false =>
    have HF := Lib.hid hF
    have HR : Hid (planB ⟨p, q, g, k, o, l, m, pt, th, tr, mx, vt, sd⟩ = basB ⟨p, q, g⟩ sH sHs 12) := by unfold Hid planB; simp only [h1, h2, h3, h4, h5, h6, h7, hF, Bool.not_false, Bool.not_true, Bool.true_and, Bool.false_and]; rfl
    clear h1 h3 h4 h5 h6 h7 hF ht
    go_enter Try.func71, Try.ntmps71
    go_wp2_with fail
    rw [← HWW.out]
    clear HWW
    have i0 := HX.out.cell (i := 0) rfl
    have i1 := HX.out.cell (i := 1) rfl
    have i2 := HX.out.cell (i := 2) rfl
    have i3 := HX.out.cell (i := 3) rfl
    have i4 := HX.out.cell (i := 4) rfl
    have i5 := HX.out.cell (i := 5) rfl
    have i6 := HX.out.cell (i := 6) rfl
    have i7 := HX.out.cell (i := 7) rfl
    have i8 := HX.out.cell (i := 8) rfl
    have i9 := HX.out.cell (i := 9) rfl
    have i10 := HX.out.cell (i := 10) rfl
    have i11 := HX.out.cell (i := 11) rfl
    have i12 := HX.out.cell (i := 12) rfl
    go_wp2_with fail
    refine (spec_bGood ⟨p, q, g⟩ k o l m pt _).mono ?_
    rintro e w1 ⟨rfl, hb1⟩
    rw [H1.out]
    have HX1 : Hid (BoxN w1 w.heap.size 33 [.int .i64 p, .int .i64 q, .int .i64 g, .int .i64 k, .int .i64 o, .int .i64 l, .int .i64 m, .int .i64 pt, .int .i64 th, .int .i64 tr, .int .i64 mx, .int .i64 vt, .int .i64 sd]) := HX.out.below hb1
    have HB1 := Lib.hid (Below.next HB.out hb1)
    clear hb1 HX
    clear i0 i1 i2 i3 i4 i5 i6 i7 i8 i9 i10 i11 i12
    have i0 := HX1.out.cell (i := 0) rfl
    have i1 := HX1.out.cell (i := 1) rfl
    have i2 := HX1.out.cell (i := 2) rfl
    have i3 := HX1.out.cell (i := 3) rfl
    have i4 := HX1.out.cell (i := 4) rfl
    have i5 := HX1.out.cell (i := 5) rfl
    have i6 := HX1.out.cell (i := 6) rfl
    have i7 := HX1.out.cell (i := 7) rfl
    have i8 := HX1.out.cell (i := 8) rfl
    have i9 := HX1.out.cell (i := 9) rfl
    have i10 := HX1.out.cell (i := 10) rfl
    have i11 := HX1.out.cell (i := 11) rfl
    have i12 := HX1.out.cell (i := 12) rfl
    go_wp2_with (first
      | (go_at_call 76; refine (spec_l1In _ _ _ _).mono ?_; rintro e w2 ⟨rfl, rfl⟩; first | rw [H3.out] | rw [H4.out] | rw [H5.out] | rw [H6.out])
      | (go_at_call 80; refine (spec_l3Digest _ _).mono ?_; rintro e w2 ⟨rfl, rfl⟩; rw [H7.out])
      | fail)
    have g0 := fun u => grow_cell i0 u
    have g1 := fun u => grow_cell i1 u
    have g3 := fun u => grow_cell i3 u
    have g4 := fun u => grow_cell i4 u
    have g5 := fun u => grow_cell i5 u
    have g6 := fun u => grow_cell i6 u
    have g7 := fun u => grow_cell i7 u
    have g11 := fun u => grow_cell i11 u
    clear i0 i1 i2 i3 i4 i5 i6 i7 i8 i9 i10 i11 i12
    (refine wp_region_grow (by kernel_rfl) (by kernel_rfl) ?_; (repeat (go_big_quiet_step ((first | (go_at_call 168; refine calls_grow (spec_bRows k o l m pt _) (fun e w' h => ⟨by rw [h.1, HF.out], h.2⟩)) | (go_at_call 169; refine calls_grow (spec_bTop k o l m pt _) (fun e w' h => ⟨by rw [h.1, HM.out HF.out], h.2⟩)) | fail)))); refine wpQuiet_nil ?_; intro _ hw'; obtain ⟨uq, hw''⟩ := hw'; subst hw''; have hbq := grow_below w1 uq; generalize grow w1 uq = wq at hbq ⊢)
    clear g0 g1 g3 g4 g5 g6 g7 g11
    have HX2 := Lib.hid (HX1.out.below hbq)
    have HB2 := Lib.hid (Below.next HB1.out hbq)
    clear hbq HX1 HB1
    have i0 := HX2.out.cell (i := 0) rfl
    have i1 := HX2.out.cell (i := 1) rfl
    have i2 := HX2.out.cell (i := 2) rfl
    have i3 := HX2.out.cell (i := 3) rfl
    have i4 := HX2.out.cell (i := 4) rfl
    have i5 := HX2.out.cell (i := 5) rfl
    have i6 := HX2.out.cell (i := 6) rfl
    have i7 := HX2.out.cell (i := 7) rfl
    have i8 := HX2.out.cell (i := 8) rfl
    have i9 := HX2.out.cell (i := 9) rfl
    have i10 := HX2.out.cell (i := 10) rfl
    have i11 := HX2.out.cell (i := 11) rfl
    have i12 := HX2.out.cell (i := 12) rfl
    go_wp2_with fail
    refine (spec_bases12 ⟨p, q, g⟩ _ HGD.out).mono ?_
    rintro e w3 ⟨⟨x, a, mm, c, rfl⟩, hb3⟩
    have HB3 := Lib.hid (Below.next HB2.out hb3)
    clear hb3
    clear i0 i1 i2 i3 i4 i5 i6 i7 i8 i9 i10 i11 i12
    go_wp2_with fail
    go_ret
    exact ⟨ret_bool HR.out.symm, HB3.out.alloc HB3.out.size _⟩
  | true =>
    have HF := Lib.hid hF
    cases h8 : decide (q ≤ vt * t) with
    | true =>
      have HR : Hid (planB ⟨p, q, g, k, o, l, m, pt, th, tr, mx, vt, sd⟩ = false) := by unfold Hid planB; simp only [h1, h2, h3, h4, h5, h6, h7, hF, ht, h8, Bool.not_false, Bool.not_true, Bool.true_and, Bool.false_and, Bool.and_self]
      clear h1 h3 h4 h5 h6 h7 hF ht
      go_enter Try.func71, Try.ntmps71
      go_wp2_with fail
      rw [← HWW.out]
      clear HWW
      have i0 := HX.out.cell (i := 0) rfl
      have i1 := HX.out.cell (i := 1) rfl
      have i2 := HX.out.cell (i := 2) rfl
      have i3 := HX.out.cell (i := 3) rfl
      have i4 := HX.out.cell (i := 4) rfl
      have i5 := HX.out.cell (i := 5) rfl
      have i6 := HX.out.cell (i := 6) rfl
      have i7 := HX.out.cell (i := 7) rfl
      have i8 := HX.out.cell (i := 8) rfl
      have i9 := HX.out.cell (i := 9) rfl
      have i10 := HX.out.cell (i := 10) rfl
      have i11 := HX.out.cell (i := 11) rfl
      have i12 := HX.out.cell (i := 12) rfl
      go_wp2_with fail
      refine (spec_bGood ⟨p, q, g⟩ k o l m pt _).mono ?_
      rintro e w1 ⟨rfl, hb1⟩
      rw [H1.out]
      have HX1 : Hid (BoxN w1 w.heap.size 33 [.int .i64 p, .int .i64 q, .int .i64 g, .int .i64 k, .int .i64 o, .int .i64 l, .int .i64 m, .int .i64 pt, .int .i64 th, .int .i64 tr, .int .i64 mx, .int .i64 vt, .int .i64 sd]) := HX.out.below hb1
      have HB1 := Lib.hid (Below.next HB.out hb1)
      clear hb1 HX
      clear i0 i1 i2 i3 i4 i5 i6 i7 i8 i9 i10 i11 i12
      have i0 := HX1.out.cell (i := 0) rfl
      have i1 := HX1.out.cell (i := 1) rfl
      have i2 := HX1.out.cell (i := 2) rfl
      have i3 := HX1.out.cell (i := 3) rfl
      have i4 := HX1.out.cell (i := 4) rfl
      have i5 := HX1.out.cell (i := 5) rfl
      have i6 := HX1.out.cell (i := 6) rfl
      have i7 := HX1.out.cell (i := 7) rfl
      have i8 := HX1.out.cell (i := 8) rfl
      have i9 := HX1.out.cell (i := 9) rfl
      have i10 := HX1.out.cell (i := 10) rfl
      have i11 := HX1.out.cell (i := 11) rfl
      have i12 := HX1.out.cell (i := 12) rfl
      go_wp2_with (first
        | (go_at_call 76; refine (spec_l1In _ _ _ _).mono ?_; rintro e w2 ⟨rfl, rfl⟩; first | rw [H3.out] | rw [H4.out] | rw [H5.out] | rw [H6.out])
        | (go_at_call 80; refine (spec_l3Digest _ _).mono ?_; rintro e w2 ⟨rfl, rfl⟩; rw [H7.out])
        | fail)
      have g0 := fun u => grow_cell i0 u
      have g1 := fun u => grow_cell i1 u
      have g3 := fun u => grow_cell i3 u
      have g4 := fun u => grow_cell i4 u
      have g5 := fun u => grow_cell i5 u
      have g6 := fun u => grow_cell i6 u
      have g7 := fun u => grow_cell i7 u
      have g11 := fun u => grow_cell i11 u
      clear i0 i1 i2 i3 i4 i5 i6 i7 i8 i9 i10 i11 i12
      (refine wp_region_grow (by kernel_rfl) (by kernel_rfl) ?_; (repeat (go_big_quiet_step ((first | (go_at_call 168; refine calls_grow (spec_bRows k o l m pt _) (fun e w' h => ⟨by rw [h.1, HF.out], h.2⟩)) | (go_at_call 169; refine calls_grow (spec_bTop k o l m pt _) (fun e w' h => ⟨by rw [h.1, HM.out HF.out], h.2⟩)) | fail)))); refine wpQuiet_nil ?_; intro _ hw'; obtain ⟨uq, hw''⟩ := hw'; subst hw''; have hbq := grow_below w1 uq; generalize grow w1 uq = wq at hbq ⊢)
      clear g0 g1 g3 g4 g5 g6 g7 g11
      have HX2 := Lib.hid (HX1.out.below hbq)
      have HB2 := Lib.hid (Below.next HB1.out hbq)
      clear hbq HX1 HB1
      have i0 := HX2.out.cell (i := 0) rfl
      have i1 := HX2.out.cell (i := 1) rfl
      have i2 := HX2.out.cell (i := 2) rfl
      have i3 := HX2.out.cell (i := 3) rfl
      have i4 := HX2.out.cell (i := 4) rfl
      have i5 := HX2.out.cell (i := 5) rfl
      have i6 := HX2.out.cell (i := 6) rfl
      have i7 := HX2.out.cell (i := 7) rfl
      have i8 := HX2.out.cell (i := 8) rfl
      have i9 := HX2.out.cell (i := 9) rfl
      have i10 := HX2.out.cell (i := 10) rfl
      have i11 := HX2.out.cell (i := 11) rfl
      have i12 := HX2.out.cell (i := 12) rfl
      clear i0 i1 i2 i3 i4 i5 i6 i7 i8 i9 i10 i11 i12
      go_wp2_with fail
      go_ret
      exact ⟨ret_bool HR.out.symm, HB2.out⟩
    | false =>
      have HR : Hid (planB ⟨p, q, g, k, o, l, m, pt, th, tr, mx, vt, sd⟩ = basB ⟨p, q, g⟩ sH sHs 12) := by unfold Hid planB; simp only [h1, h2, h3, h4, h5, h6, h7, hF, ht, h8, Bool.not_false, Bool.not_true, Bool.true_and, Bool.false_and, Bool.and_false]; rfl
      clear h1 h3 h4 h5 h6 h7 hF ht
      go_enter Try.func71, Try.ntmps71
      go_wp2_with fail
      rw [← HWW.out]
      clear HWW
      have i0 := HX.out.cell (i := 0) rfl
      have i1 := HX.out.cell (i := 1) rfl
      have i2 := HX.out.cell (i := 2) rfl
      have i3 := HX.out.cell (i := 3) rfl
      have i4 := HX.out.cell (i := 4) rfl
      have i5 := HX.out.cell (i := 5) rfl
      have i6 := HX.out.cell (i := 6) rfl
      have i7 := HX.out.cell (i := 7) rfl
      have i8 := HX.out.cell (i := 8) rfl
      have i9 := HX.out.cell (i := 9) rfl
      have i10 := HX.out.cell (i := 10) rfl
      have i11 := HX.out.cell (i := 11) rfl
      have i12 := HX.out.cell (i := 12) rfl
      go_wp2_with fail
      refine (spec_bGood ⟨p, q, g⟩ k o l m pt _).mono ?_
      rintro e w1 ⟨rfl, hb1⟩
      rw [H1.out]
      have HX1 : Hid (BoxN w1 w.heap.size 33 [.int .i64 p, .int .i64 q, .int .i64 g, .int .i64 k, .int .i64 o, .int .i64 l, .int .i64 m, .int .i64 pt, .int .i64 th, .int .i64 tr, .int .i64 mx, .int .i64 vt, .int .i64 sd]) := HX.out.below hb1
      have HB1 := Lib.hid (Below.next HB.out hb1)
      clear hb1 HX
      clear i0 i1 i2 i3 i4 i5 i6 i7 i8 i9 i10 i11 i12
      have i0 := HX1.out.cell (i := 0) rfl
      have i1 := HX1.out.cell (i := 1) rfl
      have i2 := HX1.out.cell (i := 2) rfl
      have i3 := HX1.out.cell (i := 3) rfl
      have i4 := HX1.out.cell (i := 4) rfl
      have i5 := HX1.out.cell (i := 5) rfl
      have i6 := HX1.out.cell (i := 6) rfl
      have i7 := HX1.out.cell (i := 7) rfl
      have i8 := HX1.out.cell (i := 8) rfl
      have i9 := HX1.out.cell (i := 9) rfl
      have i10 := HX1.out.cell (i := 10) rfl
      have i11 := HX1.out.cell (i := 11) rfl
      have i12 := HX1.out.cell (i := 12) rfl
      go_wp2_with (first
        | (go_at_call 76; refine (spec_l1In _ _ _ _).mono ?_; rintro e w2 ⟨rfl, rfl⟩; first | rw [H3.out] | rw [H4.out] | rw [H5.out] | rw [H6.out])
        | (go_at_call 80; refine (spec_l3Digest _ _).mono ?_; rintro e w2 ⟨rfl, rfl⟩; rw [H7.out])
        | fail)
      have g0 := fun u => grow_cell i0 u
      have g1 := fun u => grow_cell i1 u
      have g3 := fun u => grow_cell i3 u
      have g4 := fun u => grow_cell i4 u
      have g5 := fun u => grow_cell i5 u
      have g6 := fun u => grow_cell i6 u
      have g7 := fun u => grow_cell i7 u
      have g11 := fun u => grow_cell i11 u
      clear i0 i1 i2 i3 i4 i5 i6 i7 i8 i9 i10 i11 i12
      (refine wp_region_grow (by kernel_rfl) (by kernel_rfl) ?_; (repeat (go_big_quiet_step ((first | (go_at_call 168; refine calls_grow (spec_bRows k o l m pt _) (fun e w' h => ⟨by rw [h.1, HF.out], h.2⟩)) | (go_at_call 169; refine calls_grow (spec_bTop k o l m pt _) (fun e w' h => ⟨by rw [h.1, HM.out HF.out], h.2⟩)) | fail)))); refine wpQuiet_nil ?_; intro _ hw'; obtain ⟨uq, hw''⟩ := hw'; subst hw''; have hbq := grow_below w1 uq; generalize grow w1 uq = wq at hbq ⊢)
      clear g0 g1 g3 g4 g5 g6 g7 g11
      have HX2 := Lib.hid (HX1.out.below hbq)
      have HB2 := Lib.hid (Below.next HB1.out hbq)
      clear hbq HX1 HB1
      have i0 := HX2.out.cell (i := 0) rfl
      have i1 := HX2.out.cell (i := 1) rfl
      have i2 := HX2.out.cell (i := 2) rfl
      have i3 := HX2.out.cell (i := 3) rfl
      have i4 := HX2.out.cell (i := 4) rfl
      have i5 := HX2.out.cell (i := 5) rfl
      have i6 := HX2.out.cell (i := 6) rfl
      have i7 := HX2.out.cell (i := 7) rfl
      have i8 := HX2.out.cell (i := 8) rfl
      have i9 := HX2.out.cell (i := 9) rfl
      have i10 := HX2.out.cell (i := 10) rfl
      have i11 := HX2.out.cell (i := 11) rfl
      have i12 := HX2.out.cell (i := 12) rfl
      go_wp2_with fail
      refine (spec_bases12 ⟨p, q, g⟩ _ HGD.out).mono ?_
      rintro e w3 ⟨⟨x, a, mm, c, rfl⟩, hb3⟩
      have HB3 := Lib.hid (Below.next HB2.out hb3)
      clear hb3
      clear i0 i1 i2 i3 i4 i5 i6 i7 i8 i9 i10 i11 i12
      go_wp2_with fail
      go_ret
      exact ⟨ret_bool HR.out.symm, HB3.out.alloc HB3.out.size _⟩
end Go.Proofs.Ytcpigedjblkcfaa

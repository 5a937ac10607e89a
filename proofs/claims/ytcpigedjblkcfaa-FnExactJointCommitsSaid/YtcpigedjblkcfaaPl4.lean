/- Plans of elections: authors' secrets. -/
import Derived.Test.YtcpigedjblkcfaaPl3
namespace Go.Proofs.Ytcpigedjblkcfaa
open Go.RowKit
set_option linter.unusedSimpArgs false
set_option linter.unusedVariables false

noncomputable def secB (d : PlanD) (i : Int) : Bool := planB d && decide (0 ≤ i ∧ i ≤ authI d - 1)
noncomputable def secR (d : PlanD) (i : Int) : Int := if secB d i = true then secI d i else 0
theorem sAuth_size : sAuth.size ≤ 40 := by decide
theorem OkPl.q2 {d : PlanD} (h : OkPl d) : d.q ≤ 2000000000 ∧ d.p ≤ 2000000000 := by
  have hg := goodG_ok h.gd
  have h1 := hg.q2; have h2 := hg.p2
  simp only [] at h1 h2
  exact ⟨by omega, by omega⟩
theorem authI_bd {d : PlanD} (h : OkPl d) : 2 ≤ authI d ∧ authI d ≤ 20 := by
  have := h.tr; have := h.mx; have := h.vt
  unfold authI; omega
theorem digest_sm {i : Int} (h0 : 0 ≤ i) (h1 : i ≤ 1000000) : digestB i = true := by unfold digestB; exact decide_eq_true ⟨by omega, by omega⟩
theorem Ints.trio (w : World) {a b c : Int} (ha : I64 a) (hb : I64 b) (hc : I64 c) : Ints (w.alloc (.cells #[.int .i64 a, .int .i64 b, .int .i64 c] 3)) (.slice (some ⟨w.heap.size, 0, none⟩) 3 3) [a, b, c] :=
  (OwnI.lit w (Nat.le_refl _) (AllI64.cons ha (AllI64.cons hb (AllI64.one hc))) rfl (by simp [maxLen]) 3 rfl).ints
set_option maxRecDepth 100000 in
set_option maxHeartbeats 1000000 in
theorem impl_secret (p q g k o l m pt th tr mx vt sd i : Int) (w : World) (h : OkPl ⟨p, q, g, k, o, l, m, pt, th, tr, mx, vt, sd⟩) (hi : digestB i = true) :
    Calls Try.prog 79 #[.agg #[.int .i64 p, .int .i64 q, .int .i64 g, .int .i64 k, .int .i64 o, .int .i64 l, .int .i64 m, .int .i64 pt, .int .i64 th, .int .i64 tr, .int .i64 mx, .int .i64 vt, .int .i64 sd], .int .i64 i] w fun e w' => e = .returned (.int .i64 (secI ⟨p, q, g, k, o, l, m, pt, th, tr, mx, vt, sd⟩ i)) ∧ Below w.heap.size w w' := by
  obtain ⟨HLB, HLH⟩ := lab2_ok (s := sAuth) sAuth_size h.sd hi
  have HLB := Lib.hid HLB
  have HLH := Lib.hid HLH
  have HSD : Hid (I64 sd) := digest_I64 h.sd
  have HSB := Lib.hid h.sd
  have HII : Hid (I64 i) := digest_I64 hi
  have HID := Lib.hid hi
  have hq8 := h.q8
  obtain ⟨hq2, _⟩ := h.q2
  simp only [] at hq8 hq2 HLB HLH HSB
  have HSI : Hid (secI ⟨p, q, g, k, o, l, m, pt, th, tr, mx, vt, sd⟩ i = hashOf (lab sAuth ++ [sd, i]) % q) := rfl
  rw [HSI.out]
  obtain ⟨dg, hdg⟩ : ∃ dg, hashOf (lab sAuth ++ [sd, i]) = dg := ⟨_, rfl⟩
  have HDG := Lib.hid hdg
  obtain ⟨hd0, hd1⟩ := hashOf_bd (lab sAuth ++ [sd, i])
  rw [hdg] at hd0 hd1 ⊢
  clear hdg h hi HSI
  have hr0 : 0 ≤ dg % q := Int.emod_nonneg _ (by omega)
  have hr1 : dg % q < q := Int.emod_lt_of_pos _ (by omega)
  obtain ⟨W, hW⟩ : ∃ W, W = w.alloc (.cells #[.int .i64 p, .int .i64 q, .int .i64 g, .int .i64 k, .int .i64 o, .int .i64 l, .int .i64 m, .int .i64 pt, .int .i64 th, .int .i64 tr, .int .i64 mx, .int .i64 vt, .int .i64 sd] 33) := ⟨_, rfl⟩
  have HB : Hid (Below w.heap.size w W) := by unfold Hid; rw [hW]; exact (Below.refl _ _).alloc (Nat.le_refl _) _
  have HX : Hid (BoxN W w.heap.size 33 [.int .i64 p, .int .i64 q, .int .i64 g, .int .i64 k, .int .i64 o, .int .i64 l, .int .i64 m, .int .i64 pt, .int .i64 th, .int .i64 tr, .int .i64 mx, .int .i64 vt, .int .i64 sd]) := by unfold Hid; rw [hW]; exact BoxN.new w _ _
  have HSW : Hid (W.heap.size = w.heap.size + 1) := by unfold Hid; rw [hW]; simp
  have HWW := Lib.hid hW; clear hW
  go_enter Try.func79, Try.ntmps79
  go_wp2_with fail
  rw [← HWW.out]
  try rw [← HSW.out]
  clear HWW HSW
  have i0 := HX.out.cell (i := 0) rfl
  have i1 := HX.out.cell (i := 1) rfl
  have i2 := HX.out.cell (i := 2) rfl
  have i3 := HX.out.cell (i := 3) rfl
  have i4 := HX.out.cell (i := 4) rfl
  have i5 := HX.out.cell (i := 5) rfl
  have i6 := HX.out.cell (i := 6) rfl
  have i7 := HX.out.cell (i := 7) rfl
  have i8 := HX.out.cell (i := 8) rfl
  have i9 := HX.out.cell (i := 9) rfl
  have i10 := HX.out.cell (i := 10) rfl
  have i11 := HX.out.cell (i := 11) rfl
  have i12 := HX.out.cell (i := 12) rfl
  go_wp2_with fail
  refine (impl_HashLabelled sAuth _ _ _ (Ints.lit2 _ HSD.out HII.out) (by decide) (by simp)).mono ?_
  rintro e w1 ⟨rfl, hb1⟩
  rw [HLB.out, HLH.out, HDG.out]
  have hbb : Below W.heap.size W w1 := Below.next ((Below.refl _ _).alloc (Nat.le_refl _) _) hb1
  have HX1 := Lib.hid (HX.out.below hbb)
  have HB1 := Lib.hid (Below.next HB.out hbb)
  clear hbb hb1 HX
  clear i0 i1 i2 i3 i4 i5 i6 i7 i8 i9 i10 i11 i12
  have i0 := HX1.out.cell (i := 0) rfl
  have i1 := HX1.out.cell (i := 1) rfl
  have i2 := HX1.out.cell (i := 2) rfl
  have i3 := HX1.out.cell (i := 3) rfl
  have i4 := HX1.out.cell (i := 4) rfl
  have i5 := HX1.out.cell (i := 5) rfl
  have i6 := HX1.out.cell (i := 6) rfl
  have i7 := HX1.out.cell (i := 7) rfl
  have i8 := HX1.out.cell (i := 8) rfl
  have i9 := HX1.out.cell (i := 9) rfl
  have i10 := HX1.out.cell (i := 10) rfl
  have i11 := HX1.out.cell (i := 11) rfl
  have i12 := HX1.out.cell (i := 12) rfl
  go_wp2_with fail
  go_ret
  exact ⟨rfl, HB1.out⟩
set_option maxRecDepth 100000 in
set_option maxHeartbeats 1000000 in
theorem spec_nSecret (p q g k o l m pt th tr mx vt sd i : Int) (w : World) (h : OkPl ⟨p, q, g, k, o, l, m, pt, th, tr, mx, vt, sd⟩) (hi : digestB i = true) :
    Calls Try.prog 77 #[.agg #[.int .i64 p, .int .i64 q, .int .i64 g, .int .i64 k, .int .i64 o, .int .i64 l, .int .i64 m, .int .i64 pt, .int .i64 th, .int .i64 tr, .int .i64 mx, .int .i64 vt, .int .i64 sd], .int .i64 i] w fun e w' => e = .returned (.int .i64 (secI ⟨p, q, g, k, o, l, m, pt, th, tr, mx, vt, sd⟩ i)) ∧ Below w.heap.size w w' := by
  obtain ⟨HLB, HLH⟩ := lab2_ok (s := sAuth) sAuth_size h.sd hi
  have HLB := Lib.hid HLB
  have HLH := Lib.hid HLH
  have HSD : Hid (I64 sd) := digest_I64 h.sd
  have HSB := Lib.hid h.sd
  have HII : Hid (I64 i) := digest_I64 hi
  have HID := Lib.hid hi
  have hq8 := h.q8
  obtain ⟨hq2, _⟩ := h.q2
  simp only [] at hq8 hq2 HLB HLH HSB
  have HSI : Hid (secI ⟨p, q, g, k, o, l, m, pt, th, tr, mx, vt, sd⟩ i = hashOf (lab sAuth ++ [sd, i]) % q) := rfl
  rw [HSI.out]
  obtain ⟨dg, hdg⟩ : ∃ dg, hashOf (lab sAuth ++ [sd, i]) = dg := ⟨_, rfl⟩
  have HDG := Lib.hid hdg
  obtain ⟨hd0, hd1⟩ := hashOf_bd (lab sAuth ++ [sd, i])
  rw [hdg] at hd0 hd1 ⊢
  clear hdg h hi HSI
  have hr0 : 0 ≤ dg % q := Int.emod_nonneg _ (by omega)
  have hr1 : dg % q < q := Int.emod_lt_of_pos _ (by omega)
  have HAL : Hid ([sd, i].all digestB = true) := by unfold Hid; rw [List.all_cons, List.all_cons, HSB.out, HID.out]; rfl
  have et : Int.tmod dg q = dg % q := Int.tmod_eq_emod_of_nonneg hd0
  have ew2 : IntKind.i64.wrap (dg % q) = dg % q := IntWalk.i64_in _ (by omega)
  have hpz : ¬ q = 0 := by omega
  have hpz2 : (q == 0) = false := by rw [beq_eq_false_iff_ne]; omega
  obtain ⟨W, hW⟩ : ∃ W, W = w.alloc (.cells #[.int .i64 p, .int .i64 q, .int .i64 g, .int .i64 k, .int .i64 o, .int .i64 l, .int .i64 m, .int .i64 pt, .int .i64 th, .int .i64 tr, .int .i64 mx, .int .i64 vt, .int .i64 sd] 33) := ⟨_, rfl⟩
  have HB : Hid (Below w.heap.size w W) := by unfold Hid; rw [hW]; exact (Below.refl _ _).alloc (Nat.le_refl _) _
  have HX : Hid (BoxN W w.heap.size 33 [.int .i64 p, .int .i64 q, .int .i64 g, .int .i64 k, .int .i64 o, .int .i64 l, .int .i64 m, .int .i64 pt, .int .i64 th, .int .i64 tr, .int .i64 mx, .int .i64 vt, .int .i64 sd]) := by unfold Hid; rw [hW]; exact BoxN.new w _ _
  have HSW : Hid (W.heap.size = w.heap.size + 1) := by unfold Hid; rw [hW]; simp
  have HWW := Lib.hid hW; clear hW
  go_enter Try.func77, Try.ntmps77
  go_wp2_with fail
  rw [← HWW.out]
  try rw [← HSW.out]
  clear HWW HSW
  have c1 := HX.out.cell (i := 1) rfl
  have c12 := HX.out.cell (i := 12) rfl
  go_wp2_with fail
  go_region_held3 (fun w' => Below W.heap.size W w' ∧ w'.cell? ⟨w.heap.size, 1, none⟩ = some (.int .i64 q) ∧ w'.cell? ⟨w.heap.size, 12, none⟩ = some (.int .i64 sd)) (first | (have hbq : Below W.heap.size W _ := (Below.refl _ _).drew; exact ⟨hbq, box_at c1 hbq, box_at c12 hbq⟩) | (refine (fun (hbq : Below W.heap.size W _) => ⟨hbq, box_at c1 hbq, box_at c12 hbq⟩) ?_; exact keep_b (by with_reducible assumption) (And.left (by assumption))) | (refine (fun (hbq : Below W.heap.size W _) => ⟨hbq, box_at c1 hbq, box_at c12 hbq⟩) ?_; exact keep_al (And.left (by assumption)) _) | (refine (fun (hbq : Below W.heap.size W _) => ⟨hbq, box_at c1 hbq, box_at c12 hbq⟩) ?_; exact Below.next (keep_al (And.left (by assumption)) _) (by with_reducible assumption)) | assumption | fail) ((first
    | (go_at_call 175; refine (spec_hLabelled sAuth _ [sd, i] _ (by first | exact Ints.lit2 _ HSD.out HII.out | exact (Ints.lit2 _ HSD.out HII.out).drew) (by decide) (by simp) HAL.out).mono ?_; rintro e w4 ⟨rfl, hb4⟩; rw [HDG.out])
    | fail))
  obtain ⟨hbx, z1, z12⟩ := (‹Below W.heap.size W _ ∧ _›)
  clear c1 c12
  have HB1 := Lib.hid (HB.out.trans (hbx.mono HB.out.size))
  clear hbx
  go_wp2_with fail
  go_ret
  exact ⟨rfl, HB1.out⟩
set_option maxRecDepth 100000 in
set_option maxHeartbeats 2000000 in
theorem impl_AuthorSecret (p q g k o l m pt th tr mx vt sd i : Int) (w : World) :
    Calls Try.prog 17 #[.agg #[.int .i64 p, .int .i64 q, .int .i64 g, .int .i64 k, .int .i64 o, .int .i64 l, .int .i64 m, .int .i64 pt, .int .i64 th, .int .i64 tr, .int .i64 mx, .int .i64 vt, .int .i64 sd], .int .i64 i] w fun e w' => e = .returned (.tuple #[.int .i64 (secR ⟨p, q, g, k, o, l, m, pt, th, tr, mx, vt, sd⟩ i), .bool (secB ⟨p, q, g, k, o, l, m, pt, th, tr, mx, vt, sd⟩ i)]) ∧ Below w.heap.size w w' := by
  obtain ⟨W, hW⟩ : ∃ W, W = w.alloc (.cells #[.int .i64 p, .int .i64 q, .int .i64 g, .int .i64 k, .int .i64 o, .int .i64 l, .int .i64 m, .int .i64 pt, .int .i64 th, .int .i64 tr, .int .i64 mx, .int .i64 vt, .int .i64 sd] 33) := ⟨_, rfl⟩
  have HB : Hid (Below w.heap.size w W) := by unfold Hid; rw [hW]; exact (Below.refl _ _).alloc (Nat.le_refl _) _
  have HX : Hid (BoxN W w.heap.size 33 [.int .i64 p, .int .i64 q, .int .i64 g, .int .i64 k, .int .i64 o, .int .i64 l, .int .i64 m, .int .i64 pt, .int .i64 th, .int .i64 tr, .int .i64 mx, .int .i64 vt, .int .i64 sd]) := by unfold Hid; rw [hW]; exact BoxN.new w _ _
  have HSW : Hid (W.heap.size = w.heap.size + 1) := by unfold Hid; rw [hW]; simp
  have HWW := Lib.hid hW; clear hW
  cases hP : planB ⟨p, q, g, k, o, l, m, pt, th, tr, mx, vt, sd⟩ with
  | false =>
    have HR : Hid (secB ⟨p, q, g, k, o, l, m, pt, th, tr, mx, vt, sd⟩ i = false) := by unfold Hid secB; rw [hP]; rfl
    have HV : Hid (secR ⟨p, q, g, k, o, l, m, pt, th, tr, mx, vt, sd⟩ i = 0) := by unfold Hid secR; rw [HR.out]; rfl
    rw [HR.out, HV.out]
    have HP := Lib.hid hP
    clear hP
    go_enter Try.func17, Try.ntmps17
    go_wp2_with fail
    rw [← HWW.out]
    try rw [← HSW.out]
    clear HWW HSW
    have i0 := HX.out.cell (i := 0) rfl
    have i1 := HX.out.cell (i := 1) rfl
    have i2 := HX.out.cell (i := 2) rfl
    have i3 := HX.out.cell (i := 3) rfl
    have i4 := HX.out.cell (i := 4) rfl
    have i5 := HX.out.cell (i := 5) rfl
    have i6 := HX.out.cell (i := 6) rfl
    have i7 := HX.out.cell (i := 7) rfl
    have i8 := HX.out.cell (i := 8) rfl
    have i9 := HX.out.cell (i := 9) rfl
    have i10 := HX.out.cell (i := 10) rfl
    have i11 := HX.out.cell (i := 11) rfl
    have i12 := HX.out.cell (i := 12) rfl
    go_wp2_with fail
    refine (impl_IsValidPlan p q g k o l m pt th tr mx vt sd _).mono ?_
    rintro e w1 ⟨rfl, hb1⟩
    rw [HP.out]
    have HX1 : Hid (BoxN w1 w.heap.size 33 [.int .i64 p, .int .i64 q, .int .i64 g, .int .i64 k, .int .i64 o, .int .i64 l, .int .i64 m, .int .i64 pt, .int .i64 th, .int .i64 tr, .int .i64 mx, .int .i64 vt, .int .i64 sd]) := HX.out.below hb1
    have HB1 := Lib.hid (Below.next HB.out hb1)
    clear hb1 HX
    clear i0 i1 i2 i3 i4 i5 i6 i7 i8 i9 i10 i11 i12
    have i0 := HX1.out.cell (i := 0) rfl
    have i1 := HX1.out.cell (i := 1) rfl
    have i2 := HX1.out.cell (i := 2) rfl
    have i3 := HX1.out.cell (i := 3) rfl
    have i4 := HX1.out.cell (i := 4) rfl
    have i5 := HX1.out.cell (i := 5) rfl
    have i6 := HX1.out.cell (i := 6) rfl
    have i7 := HX1.out.cell (i := 7) rfl
    have i8 := HX1.out.cell (i := 8) rfl
    have i9 := HX1.out.cell (i := 9) rfl
    have i10 := HX1.out.cell (i := 10) rfl
    have i11 := HX1.out.cell (i := 11) rfl
    have i12 := HX1.out.cell (i := 12) rfl
    go_wp2_with fail
    go_ret2
    exact ⟨rfl, HB1.out⟩
  | true =>
    have HP := Lib.hid hP
    have HOK := Lib.hid (planB_ok hP)
    obtain ⟨ha0, ha1⟩ := authI_bd HOK.out
    obtain ⟨a, ha⟩ : ∃ a, authI ⟨p, q, g, k, o, l, m, pt, th, tr, mx, vt, sd⟩ = a := ⟨_, rfl⟩
    have HA := Lib.hid ha
    rw [ha] at ha0 ha1
    have e1 : IntKind.i64.wrap (a - 1) = a - 1 := IntWalk.i64_in _ (by omega)
    cases hI : decide (0 ≤ i ∧ i ≤ a - 1) with
    | false =>
      have HI := Lib.hid hI
      have HR : Hid (secB ⟨p, q, g, k, o, l, m, pt, th, tr, mx, vt, sd⟩ i = false) := by unfold Hid secB; rw [hP, ha, hI]; rfl
      have HV : Hid (secR ⟨p, q, g, k, o, l, m, pt, th, tr, mx, vt, sd⟩ i = 0) := by unfold Hid secR; rw [HR.out]; rfl
      rw [HR.out, HV.out]
      clear hP ha hI
      go_enter Try.func17, Try.ntmps17
      go_wp2_with fail
      rw [← HWW.out]
      try rw [← HSW.out]
      clear HWW HSW
      have i0 := HX.out.cell (i := 0) rfl
      have i1 := HX.out.cell (i := 1) rfl
      have i2 := HX.out.cell (i := 2) rfl
      have i3 := HX.out.cell (i := 3) rfl
      have i4 := HX.out.cell (i := 4) rfl
      have i5 := HX.out.cell (i := 5) rfl
      have i6 := HX.out.cell (i := 6) rfl
      have i7 := HX.out.cell (i := 7) rfl
      have i8 := HX.out.cell (i := 8) rfl
      have i9 := HX.out.cell (i := 9) rfl
      have i10 := HX.out.cell (i := 10) rfl
      have i11 := HX.out.cell (i := 11) rfl
      have i12 := HX.out.cell (i := 12) rfl
      go_wp2_with fail
      refine (impl_IsValidPlan p q g k o l m pt th tr mx vt sd _).mono ?_
      rintro e w1 ⟨rfl, hb1⟩
      rw [HP.out]
      have HX1 : Hid (BoxN w1 w.heap.size 33 [.int .i64 p, .int .i64 q, .int .i64 g, .int .i64 k, .int .i64 o, .int .i64 l, .int .i64 m, .int .i64 pt, .int .i64 th, .int .i64 tr, .int .i64 mx, .int .i64 vt, .int .i64 sd]) := HX.out.below hb1
      have HB1 := Lib.hid (Below.next HB.out hb1)
      clear hb1 HX
      clear i0 i1 i2 i3 i4 i5 i6 i7 i8 i9 i10 i11 i12
      have i0 := HX1.out.cell (i := 0) rfl
      have i1 := HX1.out.cell (i := 1) rfl
      have i2 := HX1.out.cell (i := 2) rfl
      have i3 := HX1.out.cell (i := 3) rfl
      have i4 := HX1.out.cell (i := 4) rfl
      have i5 := HX1.out.cell (i := 5) rfl
      have i6 := HX1.out.cell (i := 6) rfl
      have i7 := HX1.out.cell (i := 7) rfl
      have i8 := HX1.out.cell (i := 8) rfl
      have i9 := HX1.out.cell (i := 9) rfl
      have i10 := HX1.out.cell (i := 10) rfl
      have i11 := HX1.out.cell (i := 11) rfl
      have i12 := HX1.out.cell (i := 12) rfl
      go_wp2_with fail
      refine (impl_authors p q g k o l m pt th tr mx vt sd _ HOK.out).mono ?_
      rintro e w2 ⟨rfl, hb2⟩
      rw [HA.out]
      have HX2 : Hid (BoxN w2 w.heap.size 33 [.int .i64 p, .int .i64 q, .int .i64 g, .int .i64 k, .int .i64 o, .int .i64 l, .int .i64 m, .int .i64 pt, .int .i64 th, .int .i64 tr, .int .i64 mx, .int .i64 vt, .int .i64 sd]) := HX1.out.below hb2
      have HB2 := Lib.hid (Below.next HB1.out hb2)
      clear hb2 HX1
      clear i0 i1 i2 i3 i4 i5 i6 i7 i8 i9 i10 i11 i12
      have i0 := HX2.out.cell (i := 0) rfl
      have i1 := HX2.out.cell (i := 1) rfl
      have i2 := HX2.out.cell (i := 2) rfl
      have i3 := HX2.out.cell (i := 3) rfl
      have i4 := HX2.out.cell (i := 4) rfl
      have i5 := HX2.out.cell (i := 5) rfl
      have i6 := HX2.out.cell (i := 6) rfl
      have i7 := HX2.out.cell (i := 7) rfl
      have i8 := HX2.out.cell (i := 8) rfl
      have i9 := HX2.out.cell (i := 9) rfl
      have i10 := HX2.out.cell (i := 10) rfl
      have i11 := HX2.out.cell (i := 11) rfl
      have i12 := HX2.out.cell (i := 12) rfl
      go_wp2_with fail
      refine (impl_within _ _ _ _).mono ?_
      rintro e w3 ⟨rfl, rfl⟩
      rw [HI.out]
      go_wp2_with fail
      go_ret2
      exact ⟨rfl, HB2.out⟩
    | true =>
      have HI := Lib.hid hI
      have HD : Hid (digestB i = true) := by obtain ⟨_, _⟩ := of_decide_eq_true hI; exact digest_sm (by omega) (by omega)
      have HR : Hid (secB ⟨p, q, g, k, o, l, m, pt, th, tr, mx, vt, sd⟩ i = true) := by unfold Hid secB; rw [hP, ha, hI]; rfl
      have HV : Hid (secR ⟨p, q, g, k, o, l, m, pt, th, tr, mx, vt, sd⟩ i = secI ⟨p, q, g, k, o, l, m, pt, th, tr, mx, vt, sd⟩ i) := by unfold Hid secR; rw [if_pos HR.out]
      rw [HR.out, HV.out]
      clear hP ha hI
      go_enter Try.func17, Try.ntmps17
      go_wp2_with fail
      rw [← HWW.out]
      try rw [← HSW.out]
      clear HWW HSW
      have i0 := HX.out.cell (i := 0) rfl
      have i1 := HX.out.cell (i := 1) rfl
      have i2 := HX.out.cell (i := 2) rfl
      have i3 := HX.out.cell (i := 3) rfl
      have i4 := HX.out.cell (i := 4) rfl
      have i5 := HX.out.cell (i := 5) rfl
      have i6 := HX.out.cell (i := 6) rfl
      have i7 := HX.out.cell (i := 7) rfl
      have i8 := HX.out.cell (i := 8) rfl
      have i9 := HX.out.cell (i := 9) rfl
      have i10 := HX.out.cell (i := 10) rfl
      have i11 := HX.out.cell (i := 11) rfl
      have i12 := HX.out.cell (i := 12) rfl
      go_wp2_with fail
      refine (impl_IsValidPlan p q g k o l m pt th tr mx vt sd _).mono ?_
      rintro e w1 ⟨rfl, hb1⟩
      rw [HP.out]
      have HX1 : Hid (BoxN w1 w.heap.size 33 [.int .i64 p, .int .i64 q, .int .i64 g, .int .i64 k, .int .i64 o, .int .i64 l, .int .i64 m, .int .i64 pt, .int .i64 th, .int .i64 tr, .int .i64 mx, .int .i64 vt, .int .i64 sd]) := HX.out.below hb1
      have HB1 := Lib.hid (Below.next HB.out hb1)
      clear hb1 HX
      clear i0 i1 i2 i3 i4 i5 i6 i7 i8 i9 i10 i11 i12
      have i0 := HX1.out.cell (i := 0) rfl
      have i1 := HX1.out.cell (i := 1) rfl
      have i2 := HX1.out.cell (i := 2) rfl
      have i3 := HX1.out.cell (i := 3) rfl
      have i4 := HX1.out.cell (i := 4) rfl
      have i5 := HX1.out.cell (i := 5) rfl
      have i6 := HX1.out.cell (i := 6) rfl
      have i7 := HX1.out.cell (i := 7) rfl
      have i8 := HX1.out.cell (i := 8) rfl
      have i9 := HX1.out.cell (i := 9) rfl
      have i10 := HX1.out.cell (i := 10) rfl
      have i11 := HX1.out.cell (i := 11) rfl
      have i12 := HX1.out.cell (i := 12) rfl
      go_wp2_with fail
      refine (impl_authors p q g k o l m pt th tr mx vt sd _ HOK.out).mono ?_
      rintro e w2 ⟨rfl, hb2⟩
      rw [HA.out]
      have HX2 : Hid (BoxN w2 w.heap.size 33 [.int .i64 p, .int .i64 q, .int .i64 g, .int .i64 k, .int .i64 o, .int .i64 l, .int .i64 m, .int .i64 pt, .int .i64 th, .int .i64 tr, .int .i64 mx, .int .i64 vt, .int .i64 sd]) := HX1.out.below hb2
      have HB2 := Lib.hid (Below.next HB1.out hb2)
      clear hb2 HX1
      clear i0 i1 i2 i3 i4 i5 i6 i7 i8 i9 i10 i11 i12
      have i0 := HX2.out.cell (i := 0) rfl
      have i1 := HX2.out.cell (i := 1) rfl
      have i2 := HX2.out.cell (i := 2) rfl
      have i3 := HX2.out.cell (i := 3) rfl
      have i4 := HX2.out.cell (i := 4) rfl
      have i5 := HX2.out.cell (i := 5) rfl
      have i6 := HX2.out.cell (i := 6) rfl
      have i7 := HX2.out.cell (i := 7) rfl
      have i8 := HX2.out.cell (i := 8) rfl
      have i9 := HX2.out.cell (i := 9) rfl
      have i10 := HX2.out.cell (i := 10) rfl
      have i11 := HX2.out.cell (i := 11) rfl
      have i12 := HX2.out.cell (i := 12) rfl
      go_wp2_with fail
      refine (impl_within _ _ _ _).mono ?_
      rintro e w3 ⟨rfl, rfl⟩
      rw [HI.out]
      go_wp2_with fail
      refine (impl_secret p q g k o l m pt th tr mx vt sd i _ HOK.out HD.out).mono ?_
      rintro e w4 ⟨rfl, hb4⟩
      have HB4 := Lib.hid (Below.next HB2.out hb4)
      clear hb4
      clear i0 i1 i2 i3 i4 i5 i6 i7 i8 i9 i10 i11 i12
      go_wp2_with fail
      go_ret2
      exact ⟨rfl, HB4.out⟩
set_option maxRecDepth 100000 in
set_option maxHeartbeats 2000000 in
theorem spec_AuthorSecret (p q g k o l m pt th tr mx vt sd i : Int) (w : World) :
    Calls Try.prog 16 #[.agg #[.int .i64 p, .int .i64 q, .int .i64 g, .int .i64 k, .int .i64 o, .int .i64 l, .int .i64 m, .int .i64 pt, .int .i64 th, .int .i64 tr, .int .i64 mx, .int .i64 vt, .int .i64 sd], .int .i64 i] w fun e w' => e = .returned (.tuple #[.int .i64 (secR ⟨p, q, g, k, o, l, m, pt, th, tr, mx, vt, sd⟩ i), .bool (secB ⟨p, q, g, k, o, l, m, pt, th, tr, mx, vt, sd⟩ i)]) ∧ Below w.heap.size w w' := by
  obtain ⟨W, hW⟩ : ∃ W, W = w.alloc (.cells #[.int .i64 p, .int .i64 q, .int .i64 g, .int .i64 k, .int .i64 o, .int .i64 l, .int .i64 m, .int .i64 pt, .int .i64 th, .int .i64 tr, .int .i64 mx, .int .i64 vt, .int .i64 sd] 33) := ⟨_, rfl⟩
  have HB : Hid (Below w.heap.size w W) := by unfold Hid; rw [hW]; exact (Below.refl _ _).alloc (Nat.le_refl _) _
  have HX : Hid (BoxN W w.heap.size 33 [.int .i64 p, .int .i64 q, .int .i64 g, .int .i64 k, .int .i64 o, .int .i64 l, .int .i64 m, .int .i64 pt, .int .i64 th, .int .i64 tr, .int .i64 mx, .int .i64 vt, .int .i64 sd]) := by unfold Hid; rw [hW]; exact BoxN.new w _ _
  have HSW : Hid (W.heap.size = w.heap.size + 1) := by unfold Hid; rw [hW]; simp
  have HWW := Lib.hid hW; clear hW
  cases hP : planB ⟨p, q, g, k, o, l, m, pt, th, tr, mx, vt, sd⟩ with
  | false =>
    have HR : Hid (secB ⟨p, q, g, k, o, l, m, pt, th, tr, mx, vt, sd⟩ i = false) := by unfold Hid secB; rw [hP]; rfl
    have HV : Hid (secR ⟨p, q, g, k, o, l, m, pt, th, tr, mx, vt, sd⟩ i = 0) := by unfold Hid secR; rw [HR.out]; rfl
    rw [HR.out, HV.out]
    have HP := Lib.hid hP
    clear hP
    go_enter Try.func16, Try.ntmps16
    go_wp2_with fail
    rw [← HWW.out]
    try rw [← HSW.out]
    clear HWW HSW
    have i0 := HX.out.cell (i := 0) rfl
    have i1 := HX.out.cell (i := 1) rfl
    have i2 := HX.out.cell (i := 2) rfl
    have i3 := HX.out.cell (i := 3) rfl
    have i4 := HX.out.cell (i := 4) rfl
    have i5 := HX.out.cell (i := 5) rfl
    have i6 := HX.out.cell (i := 6) rfl
    have i7 := HX.out.cell (i := 7) rfl
    have i8 := HX.out.cell (i := 8) rfl
    have i9 := HX.out.cell (i := 9) rfl
    have i10 := HX.out.cell (i := 10) rfl
    have i11 := HX.out.cell (i := 11) rfl
    have i12 := HX.out.cell (i := 12) rfl
    go_wp2_with fail
    refine (spec_nPlan p q g k o l m pt th tr mx vt sd _).mono ?_
    rintro e w1 ⟨rfl, hb1⟩
    rw [HP.out]
    have HX1 : Hid (BoxN w1 w.heap.size 33 [.int .i64 p, .int .i64 q, .int .i64 g, .int .i64 k, .int .i64 o, .int .i64 l, .int .i64 m, .int .i64 pt, .int .i64 th, .int .i64 tr, .int .i64 mx, .int .i64 vt, .int .i64 sd]) := HX.out.below hb1
    have HB1 := Lib.hid (Below.next HB.out hb1)
    clear hb1 HX
    clear i0 i1 i2 i3 i4 i5 i6 i7 i8 i9 i10 i11 i12
    have i0 := HX1.out.cell (i := 0) rfl
    have i1 := HX1.out.cell (i := 1) rfl
    have i2 := HX1.out.cell (i := 2) rfl
    have i3 := HX1.out.cell (i := 3) rfl
    have i4 := HX1.out.cell (i := 4) rfl
    have i5 := HX1.out.cell (i := 5) rfl
    have i6 := HX1.out.cell (i := 6) rfl
    have i7 := HX1.out.cell (i := 7) rfl
    have i8 := HX1.out.cell (i := 8) rfl
    have i9 := HX1.out.cell (i := 9) rfl
    have i10 := HX1.out.cell (i := 10) rfl
    have i11 := HX1.out.cell (i := 11) rfl
    have i12 := HX1.out.cell (i := 12) rfl
    go_wp2_with fail
    go_ret2
    exact ⟨rfl, HB1.out⟩
  | true =>
    have HP := Lib.hid hP
    have HOK := Lib.hid (planB_ok hP)
    obtain ⟨ha0, ha1⟩ := authI_bd HOK.out
    obtain ⟨a, ha⟩ : ∃ a, authI ⟨p, q, g, k, o, l, m, pt, th, tr, mx, vt, sd⟩ = a := ⟨_, rfl⟩
    have HA := Lib.hid ha
    rw [ha] at ha0 ha1
    have e1 : IntKind.i64.wrap (a - 1) = a - 1 := IntWalk.i64_in _ (by omega)
    cases hI : decide (0 ≤ i ∧ i ≤ a - 1) with
    | false =>
      have HI := Lib.hid hI
      have HR : Hid (secB ⟨p, q, g, k, o, l, m, pt, th, tr, mx, vt, sd⟩ i = false) := by unfold Hid secB; rw [hP, ha, hI]; rfl
      have HV : Hid (secR ⟨p, q, g, k, o, l, m, pt, th, tr, mx, vt, sd⟩ i = 0) := by unfold Hid secR; rw [HR.out]; rfl
      rw [HR.out, HV.out]
      clear hP ha hI
      go_enter Try.func16, Try.ntmps16
      go_wp2_with fail
      rw [← HWW.out]
      try rw [← HSW.out]
      clear HWW HSW
      have i0 := HX.out.cell (i := 0) rfl
      have i1 := HX.out.cell (i := 1) rfl
      have i2 := HX.out.cell (i := 2) rfl
      have i3 := HX.out.cell (i := 3) rfl
      have i4 := HX.out.cell (i := 4) rfl
      have i5 := HX.out.cell (i := 5) rfl
      have i6 := HX.out.cell (i := 6) rfl
      have i7 := HX.out.cell (i := 7) rfl
      have i8 := HX.out.cell (i := 8) rfl
      have i9 := HX.out.cell (i := 9) rfl
      have i10 := HX.out.cell (i := 10) rfl
      have i11 := HX.out.cell (i := 11) rfl
      have i12 := HX.out.cell (i := 12) rfl
      go_wp2_with fail
      refine (spec_nPlan p q g k o l m pt th tr mx vt sd _).mono ?_
      rintro e w1 ⟨rfl, hb1⟩
      rw [HP.out]
      have HX1 : Hid (BoxN w1 w.heap.size 33 [.int .i64 p, .int .i64 q, .int .i64 g, .int .i64 k, .int .i64 o, .int .i64 l, .int .i64 m, .int .i64 pt, .int .i64 th, .int .i64 tr, .int .i64 mx, .int .i64 vt, .int .i64 sd]) := HX.out.below hb1
      have HB1 := Lib.hid (Below.next HB.out hb1)
      clear hb1 HX
      clear i0 i1 i2 i3 i4 i5 i6 i7 i8 i9 i10 i11 i12
      have i0 := HX1.out.cell (i := 0) rfl
      have i1 := HX1.out.cell (i := 1) rfl
      have i2 := HX1.out.cell (i := 2) rfl
      have i3 := HX1.out.cell (i := 3) rfl
      have i4 := HX1.out.cell (i := 4) rfl
      have i5 := HX1.out.cell (i := 5) rfl
      have i6 := HX1.out.cell (i := 6) rfl
      have i7 := HX1.out.cell (i := 7) rfl
      have i8 := HX1.out.cell (i := 8) rfl
      have i9 := HX1.out.cell (i := 9) rfl
      have i10 := HX1.out.cell (i := 10) rfl
      have i11 := HX1.out.cell (i := 11) rfl
      have i12 := HX1.out.cell (i := 12) rfl
      go_wp2_with fail
      refine (spec_nAuthors p q g k o l m pt th tr mx vt sd _ HOK.out).mono ?_
      rintro e w2 ⟨rfl, hb2⟩
      rw [HA.out]
      have HX2 : Hid (BoxN w2 w.heap.size 33 [.int .i64 p, .int .i64 q, .int .i64 g, .int .i64 k, .int .i64 o, .int .i64 l, .int .i64 m, .int .i64 pt, .int .i64 th, .int .i64 tr, .int .i64 mx, .int .i64 vt, .int .i64 sd]) := HX1.out.below hb2
      have HB2 := Lib.hid (Below.next HB1.out hb2)
      clear hb2 HX1
      clear i0 i1 i2 i3 i4 i5 i6 i7 i8 i9 i10 i11 i12
      have i0 := HX2.out.cell (i := 0) rfl
      have i1 := HX2.out.cell (i := 1) rfl
      have i2 := HX2.out.cell (i := 2) rfl
      have i3 := HX2.out.cell (i := 3) rfl
      have i4 := HX2.out.cell (i := 4) rfl
      have i5 := HX2.out.cell (i := 5) rfl
      have i6 := HX2.out.cell (i := 6) rfl
      have i7 := HX2.out.cell (i := 7) rfl
      have i8 := HX2.out.cell (i := 8) rfl
      have i9 := HX2.out.cell (i := 9) rfl
      have i10 := HX2.out.cell (i := 10) rfl
      have i11 := HX2.out.cell (i := 11) rfl
      have i12 := HX2.out.cell (i := 12) rfl
      go_wp2_with fail
      refine (spec_l1In _ _ _ _).mono ?_
      rintro e w3 ⟨rfl, rfl⟩
      rw [HI.out]
      go_wp2_with fail
      go_ret2
      exact ⟨rfl, HB2.out⟩
    | true =>
      have HI := Lib.hid hI
      have HD : Hid (digestB i = true) := by obtain ⟨_, _⟩ := of_decide_eq_true hI; exact digest_sm (by omega) (by omega)
      have HR : Hid (secB ⟨p, q, g, k, o, l, m, pt, th, tr, mx, vt, sd⟩ i = true) := by unfold Hid secB; rw [hP, ha, hI]; rfl
      have HV : Hid (secR ⟨p, q, g, k, o, l, m, pt, th, tr, mx, vt, sd⟩ i = secI ⟨p, q, g, k, o, l, m, pt, th, tr, mx, vt, sd⟩ i) := by unfold Hid secR; rw [if_pos HR.out]
      rw [HR.out, HV.out]
      clear hP ha hI
      go_enter Try.func16, Try.ntmps16
      go_wp2_with fail
      rw [← HWW.out]
      try rw [← HSW.out]
      clear HWW HSW
      have i0 := HX.out.cell (i := 0) rfl
      have i1 := HX.out.cell (i := 1) rfl
      have i2 := HX.out.cell (i := 2) rfl
      have i3 := HX.out.cell (i := 3) rfl
      have i4 := HX.out.cell (i := 4) rfl
      have i5 := HX.out.cell (i := 5) rfl
      have i6 := HX.out.cell (i := 6) rfl
      have i7 := HX.out.cell (i := 7) rfl
      have i8 := HX.out.cell (i := 8) rfl
      have i9 := HX.out.cell (i := 9) rfl
      have i10 := HX.out.cell (i := 10) rfl
      have i11 := HX.out.cell (i := 11) rfl
      have i12 := HX.out.cell (i := 12) rfl
      go_wp2_with fail
      refine (spec_nPlan p q g k o l m pt th tr mx vt sd _).mono ?_
      rintro e w1 ⟨rfl, hb1⟩
      rw [HP.out]
      have HX1 : Hid (BoxN w1 w.heap.size 33 [.int .i64 p, .int .i64 q, .int .i64 g, .int .i64 k, .int .i64 o, .int .i64 l, .int .i64 m, .int .i64 pt, .int .i64 th, .int .i64 tr, .int .i64 mx, .int .i64 vt, .int .i64 sd]) := HX.out.below hb1
      have HB1 := Lib.hid (Below.next HB.out hb1)
      clear hb1 HX
      clear i0 i1 i2 i3 i4 i5 i6 i7 i8 i9 i10 i11 i12
      have i0 := HX1.out.cell (i := 0) rfl
      have i1 := HX1.out.cell (i := 1) rfl
      have i2 := HX1.out.cell (i := 2) rfl
      have i3 := HX1.out.cell (i := 3) rfl
      have i4 := HX1.out.cell (i := 4) rfl
      have i5 := HX1.out.cell (i := 5) rfl
      have i6 := HX1.out.cell (i := 6) rfl
      have i7 := HX1.out.cell (i := 7) rfl
      have i8 := HX1.out.cell (i := 8) rfl
      have i9 := HX1.out.cell (i := 9) rfl
      have i10 := HX1.out.cell (i := 10) rfl
      have i11 := HX1.out.cell (i := 11) rfl
      have i12 := HX1.out.cell (i := 12) rfl
      go_wp2_with fail
      refine (spec_nAuthors p q g k o l m pt th tr mx vt sd _ HOK.out).mono ?_
      rintro e w2 ⟨rfl, hb2⟩
      rw [HA.out]
      have HX2 : Hid (BoxN w2 w.heap.size 33 [.int .i64 p, .int .i64 q, .int .i64 g, .int .i64 k, .int .i64 o, .int .i64 l, .int .i64 m, .int .i64 pt, .int .i64 th, .int .i64 tr, .int .i64 mx, .int .i64 vt, .int .i64 sd]) := HX1.out.below hb2
      have HB2 := Lib.hid (Below.next HB1.out hb2)
      clear hb2 HX1
      clear i0 i1 i2 i3 i4 i5 i6 i7 i8 i9 i10 i11 i12
      have i0 := HX2.out.cell (i := 0) rfl
      have i1 := HX2.out.cell (i := 1) rfl
      have i2 := HX2.out.cell (i := 2) rfl
      have i3 := HX2.out.cell (i := 3) rfl
      have i4 := HX2.out.cell (i := 4) rfl
      have i5 := HX2.out.cell (i := 5) rfl
      have i6 := HX2.out.cell (i := 6) rfl
      have i7 := HX2.out.cell (i := 7) rfl
      have i8 := HX2.out.cell (i := 8) rfl
      have i9 := HX2.out.cell (i := 9) rfl
      have i10 := HX2.out.cell (i := 10) rfl
      have i11 := HX2.out.cell (i := 11) rfl
      have i12 := HX2.out.cell (i := 12) rfl
      go_wp2_with fail
      refine (spec_l1In _ _ _ _).mono ?_
      rintro e w3 ⟨rfl, rfl⟩
      rw [HI.out]
      go_wp2_with fail
      refine (spec_nSecret p q g k o l m pt th tr mx vt sd i _ HOK.out HD.out).mono ?_
      rintro e w4 ⟨rfl, hb4⟩
      have HB4 := Lib.hid (Below.next HB2.out hb4)
      clear hb4
      clear i0 i1 i2 i3 i4 i5 i6 i7 i8 i9 i10 i11 i12
      go_wp2_with fail
      go_ret2
      exact ⟨rfl, HB4.out⟩
end Go.Proofs.Ytcpigedjblkcfaa

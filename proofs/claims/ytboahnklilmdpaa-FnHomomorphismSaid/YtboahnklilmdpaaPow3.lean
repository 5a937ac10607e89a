/- Groups: walks of LogOf. -/
import Derived.Test.YtboahnklilmdpaaPow2
namespace Go.Proofs.Ytboahnklilmdpaa
open Go.RowKit
set_option linter.unusedSimpArgs false
set_option linter.unusedVariables false

set_option maxRecDepth 100000 in
set_option maxHeartbeats 2000000 in
theorem impl_LogOf (gr : GroupD) (b x m : Int) (w : World) (hb64 : I64 b) (hx64 : I64 x) :
    Calls Try.prog 160 #[.agg #[.int .i64 gr.p, .int .i64 gr.q, .int .i64 gr.g], .int .i64 b, .int .i64 x, .int .i64 m] w fun e w' => e = .returned (.tuple #[.int .i64 (loR gr b x m), .bool (loB gr b x m)]) ∧ Below w.heap.size w w' := by
  have HBI := Lib.hid hb64
  have HXI := Lib.hid hx64
  clear hb64 hx64
  obtain ⟨p, q, g⟩ := gr
  obtain ⟨W, hW⟩ : ∃ W, W = w.alloc (.cells #[.int .i64 p, .int .i64 q, .int .i64 g] 39) := ⟨_, rfl⟩
  have HB : Hid (Below w.heap.size w W) := by unfold Hid; rw [hW]; exact (Below.refl _ _).alloc (Nat.le_refl _) _
  have HX : Hid (BoxN W w.heap.size 39 [.int .i64 p, .int .i64 q, .int .i64 g]) := by unfold Hid; rw [hW]; exact BoxN.new w _ _
  have HSW : Hid (W.heap.size = w.heap.size + 1) := by unfold Hid; rw [hW]; simp
  have HWW := Lib.hid hW
  clear hW
  obtain ⟨b3, hb3⟩ : ∃ c, (elB ⟨p, q, g⟩ b && elB ⟨p, q, g⟩ x) = c := ⟨_, rfl⟩
  have H3 : Hid (([b, x].all (elB ⟨p, q, g⟩)) = b3) := by unfold Hid; rw [← hb3]; simp
  obtain ⟨b4, hb4⟩ : ∃ c, decide (0 ≤ m ∧ m ≤ 1000000) = c := ⟨_, rfl⟩
  have H4 := Lib.hid hb4
  obtain ⟨b1, hb1⟩ : ∃ c, goodG ⟨p, q, g⟩ = c := ⟨_, rfl⟩
  have H1 := Lib.hid hb1
  have HA : Hid (loA ⟨p, q, g⟩ b x m = (b1 && (b3 && b4))) := by unfold Hid loA; rw [hb1, hb3, hb4]
  cases b1 with
  | false =>
    have HR : Hid (loB ⟨p, q, g⟩ b x m = false) := by unfold Hid loB; rw [HA.out]; rfl
    have HV : Hid (loR ⟨p, q, g⟩ b x m = 0) := by unfold Hid loR; rw [HR.out]; rfl
    rw [HR.out, HV.out]
    clear hb1 hb3 hb4
    go_enter Try.func160, Try.ntmps160
    go_wp2_with fail
    rw [← HWW.out]
    try rw [← HSW.out]
    clear HWW
    refine (impl_IsValidGroup ⟨p, q, g⟩ _).mono ?_
    rintro e w1 ⟨rfl, hcum⟩
    rw [H1.out]
    have c0 := box_at (HX.out.cell (i := 0) rfl) hcum
    have c1 := box_at (HX.out.cell (i := 1) rfl) hcum
    have c2 := box_at (HX.out.cell (i := 2) rfl) hcum
    go_wp2_with fail
    go_ret2
    exact ⟨rfl, HB.out.trans (hcum.mono HB.out.size)⟩
  | true =>
  have HG := Lib.hid (goodG_ok hb1)
  cases b3 with
  | false =>
    have HR : Hid (loB ⟨p, q, g⟩ b x m = false) := by unfold Hid loB; rw [HA.out]; rfl
    have HV : Hid (loR ⟨p, q, g⟩ b x m = 0) := by unfold Hid loR; rw [HR.out]; rfl
    rw [HR.out, HV.out]
    clear hb1 hb3 hb4
    go_enter Try.func160, Try.ntmps160
    go_wp2_with fail
    rw [← HWW.out]
    try rw [← HSW.out]
    clear HWW
    refine (impl_IsValidGroup ⟨p, q, g⟩ _).mono ?_
    rintro e w1 ⟨rfl, hcum⟩
    rw [H1.out]
    have c0 := box_at (HX.out.cell (i := 0) rfl) hcum
    have c1 := box_at (HX.out.cell (i := 1) rfl) hcum
    have c2 := box_at (HX.out.cell (i := 2) rfl) hcum
    go_wp2_with (first
      | (go_at_call 166; refine (impl_hasAll ⟨p, q, g⟩ _ [b, x] _ HG.out (Ints.lit2 _ HBI.out HXI.out)).mono ?_; rintro e wa ⟨rfl, hba⟩; rw [H3.out]; (replace hba := Below.next ((Below.refl _ _).alloc (Nat.le_refl _) _) hba); (replace hcum := Below.next hcum hba); (replace c0 := box_at c0 hba); (replace c1 := box_at c1 hba); (replace c2 := box_at c2 hba); clear hba)
      | (go_at_call 204; refine (impl_within _ _ _ _).mono ?_; rintro e wa ⟨rfl, rfl⟩; rw [H4.out])
      | fail)
    go_ret2
    exact ⟨rfl, HB.out.trans (hcum.mono HB.out.size)⟩
  | true =>
  cases b4 with
  | false =>
    have HR : Hid (loB ⟨p, q, g⟩ b x m = false) := by unfold Hid loB; rw [HA.out]; rfl
    have HV : Hid (loR ⟨p, q, g⟩ b x m = 0) := by unfold Hid loR; rw [HR.out]; rfl
    rw [HR.out, HV.out]
    clear hb1 hb3 hb4
    go_enter Try.func160, Try.ntmps160
    go_wp2_with fail
    rw [← HWW.out]
    try rw [← HSW.out]
    clear HWW
    refine (impl_IsValidGroup ⟨p, q, g⟩ _).mono ?_
    rintro e w1 ⟨rfl, hcum⟩
    rw [H1.out]
    have c0 := box_at (HX.out.cell (i := 0) rfl) hcum
    have c1 := box_at (HX.out.cell (i := 1) rfl) hcum
    have c2 := box_at (HX.out.cell (i := 2) rfl) hcum
    go_wp2_with (first
      | (go_at_call 166; refine (impl_hasAll ⟨p, q, g⟩ _ [b, x] _ HG.out (Ints.lit2 _ HBI.out HXI.out)).mono ?_; rintro e wa ⟨rfl, hba⟩; rw [H3.out]; (replace hba := Below.next ((Below.refl _ _).alloc (Nat.le_refl _) _) hba); (replace hcum := Below.next hcum hba); (replace c0 := box_at c0 hba); (replace c1 := box_at c1 hba); (replace c2 := box_at c2 hba); clear hba)
      | (go_at_call 204; refine (impl_within _ _ _ _).mono ?_; rintro e wa ⟨rfl, rfl⟩; rw [H4.out])
      | fail)
    go_ret2
    exact ⟨rfl, HB.out.trans (hcum.mono HB.out.size)⟩
  | true =>
  obtain ⟨m0, m1⟩ := of_decide_eq_true hb4
  obtain ⟨hel, hex⟩ := (Bool.and_eq_true _ _).mp hb3
  have HEL := Lib.hid hel
  have HSB := Lib.hid (elB_small HG.out hel)
  have hq1 := HG.out.q1
  have hq2 := HG.out.q2
  have hp2 := HG.out.p2
  simp only [] at hq1 hq2 hp2
  have HR : Hid (loB ⟨p, q, g⟩ b x m = decide (0 ≤ lgF ⟨p, q, g⟩ b x 0 (lgM ⟨p, q, g⟩ m))) := by unfold Hid loB; rw [HA.out]; rfl
  have HV : Hid (loR ⟨p, q, g⟩ b x m = if 0 ≤ lgF ⟨p, q, g⟩ b x 0 (lgM ⟨p, q, g⟩ m) then lgF ⟨p, q, g⟩ b x 0 (lgM ⟨p, q, g⟩ m) else 0) := by unfold Hid loR; rw [HR.out]; simp
  clear hb1 hb3 hb4 hel hex
  have HML : Hid (lgM ⟨p, q, g⟩ m = (min m (q - 1) + 1).toNat) := rfl
  have ewq : IntKind.i64.wrap (q - 1) = q - 1 := IntWalk.i64_in _ (by omega)
  go_enter Try.func160, Try.ntmps160
  go_wp2_with fail
  rw [← HWW.out]
  try rw [← HSW.out]
  clear HWW
  refine (impl_IsValidGroup ⟨p, q, g⟩ _).mono ?_
  rintro e w1 ⟨rfl, hcum⟩
  rw [H1.out]
  have c0 := box_at (HX.out.cell (i := 0) rfl) hcum
  have c1 := box_at (HX.out.cell (i := 1) rfl) hcum
  have c2 := box_at (HX.out.cell (i := 2) rfl) hcum
  go_wp2_with (first
    | (go_at_call 166; refine (impl_hasAll ⟨p, q, g⟩ _ [b, x] _ HG.out (Ints.lit2 _ HBI.out HXI.out)).mono ?_; rintro e wa ⟨rfl, hba⟩; rw [H3.out]; (replace hba := Below.next ((Below.refl _ _).alloc (Nat.le_refl _) _) hba); (replace hcum := Below.next hcum hba); (replace c0 := box_at c0 hba); (replace c1 := box_at c1 hba); (replace c2 := box_at c2 hba); clear hba)
    | (go_at_call 204; refine (impl_within _ _ _ _).mono ?_; rintro e wa ⟨rfl, rfl⟩; rw [H4.out])
    | fail)
  have hmn : 0 ≤ min m (q - 1) ∧ min m (q - 1) ≤ 1000000 := by omega
  obtain ⟨n0, n1⟩ := hmn
  have HLS := Lib.hid (lgF_some (gr := ⟨p, q, g⟩) (b := b) (x := x) (n := (min m (q - 1) + 1).toNat) (k := 0))
  refine (impl_log ⟨p, q, g⟩ b x (min m (q - 1)) _ HG.out HSB.out ⟨n0, n1⟩).mono ?_
  rintro e w9 ⟨rfl, hb9⟩
  obtain ⟨R, hR⟩ : ∃ R, lgF ⟨p, q, g⟩ b x 0 (min m (q - 1) + 1).toNat = R := ⟨_, rfl⟩
  have hrr : R = -1 ∨ ∃ j : Nat, R = j := by
    rcases HLS.out with h | ⟨j, h, _⟩
    · exact .inl (hR.symm.trans h)
    · exact .inr ⟨j, hR.symm.trans h⟩
  rw [hR]
  have HRR := Lib.hid hR
  have hfin := Below.next hcum hb9
  clear hb9 hcum c0 c1 c2 hR n0 n1
  rcases hrr with rfl | ⟨j, rfl⟩
  · go_wp2_with fail
    go_ret2
    exact ⟨ret_int_bool (by rw [HV.out, HML.out, HRR.out]; rfl) (by rw [HR.out, HML.out, HRR.out]; rfl), HB.out.trans (hfin.mono HB.out.size)⟩
  · have hj0 : ¬ ((j : Int) < 0) := by omega
    have hjd : decide ((j : Int) < 0) = false := decide_eq_false hj0
    go_wp2_with fail
    go_ret2
    exact ⟨ret_int_bool (by rw [HV.out, HML.out, HRR.out, if_pos (by omega)]) (by rw [HR.out, HML.out, HRR.out]; exact (decide_eq_true (by omega)).symm), HB.out.trans (hfin.mono HB.out.size)⟩
end Go.Proofs.Ytboahnklilmdpaa

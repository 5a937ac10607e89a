/- Walks: StageRecord, the reference's. -/
import Derived.Test.YtcpigedjblkcfaaStg2
namespace Go.Proofs.Ytcpigedjblkcfaa
open Go.RowKit
set_option linter.unusedSimpArgs false
set_option linter.unusedVariables false

theorem cxA (q1 q2 q3 q4 : Bool) (h : q1 = true → q3 = false) : (q1 = true ∧ q2 = true ∧ q3 = false) ∨ (q1 = true ∧ q2 = false ∧ q3 = false) ∨ (q1 = false ∧ q3 = false) ∨ (q1 = false ∧ q3 = true ∧ q4 = false) ∨ (q1 = false ∧ q3 = true ∧ q4 = true) := by
  cases q1 <;> cases q2 <;> cases q3 <;> cases q4 <;> simp_all
set_option maxRecDepth 100000 in
set_option maxHeartbeats 8000000 in
theorem spec_StageRecord (v : Value) (d : StageD) (w : World) (hz : (szStage d : Int) ≤ 1048576) (h : (kS rStage).rd w v d) :
    Calls Try.prog 28 #[v] w fun e w' => ∃ v', e = .returned (.tuple #[v', .bool (stgB d)]) ∧ InI w' w.heap.size w'.heap.size v' (stgR d) ∧ Below w.heap.size w w' := by
  have HZ := Lib.hid hz
  have HZP := Lib.hid (szT_parts hz)
  clear hz
  (obtain ⟨q1, h_q⟩ : ∃ b_q, (d.argument == 1) = b_q := ⟨_, rfl⟩); have H1 := Lib.hid h_q; clear h_q
  (obtain ⟨q2, h_q⟩ : ∃ b_q, noPoly d.poly = b_q := ⟨_, rfl⟩); have H2 := Lib.hid h_q; clear h_q
  (obtain ⟨q3, h_q⟩ : ∃ b_q, (d.argument == 2) = b_q := ⟨_, rfl⟩); have H3 := Lib.hid h_q; clear h_q
  (obtain ⟨q4, h_q⟩ : ∃ b_q, noMat d.matrix = b_q := ⟨_, rfl⟩); have H4 := Lib.hid h_q; clear h_q
  (obtain ⟨q5, h_q⟩ : ∃ b_q, recB (joinL (stgParts d)) = b_q := ⟨_, rfl⟩); have H5 := Lib.hid h_q; clear h_q
  have HB : Hid (stgB d = (((q1 && q2) || (q3 && q4)) && q5)) := by unfold Hid stgB stgE; rw [H1.out, H2.out, H3.out, H4.out, H5.out]
  rw [HB.out]
  have hex : q1 = true → q3 = false := by
    intro h1
    have a := H1.out
    rw [h1] at a
    have b := H3.out
    rw [eq_of_beq a] at b
    exact b.symm.trans rfl
  obtain ⟨ad_1, nd_1, cd_1, ad_2, nd_2, cd_2, ad_3, nd_3, cd_3, ad_4, nd_4, cd_4, ad_5, nd_5, cd_5, ad_6, nd_6, cd_6, ad_7, nd_7, cd_7, ad_8, nd_8, cd_8, ad_9, nd_9, cd_9, ad_10, nd_10, cd_10, ad_11, nd_11, cd_11, ad_12, nd_12, cd_12, rfl, jd_0, kd_1, kd_2, kd_3, kd_4, kd_5, kd_6, kd_7, kd_8, kd_9, kd_10, kd_11, kd_12⟩ := rdStage.1 h
  obtain ⟨W, hW⟩ : ∃ W, W = (w.alloc (.cells #[.int .i64 d.argument, .slice ad_1 nd_1 cd_1, .slice ad_2 nd_2 cd_2, .slice ad_3 nd_3 cd_3, .slice ad_4 nd_4 cd_4, .slice ad_5 nd_5 cd_5, .slice ad_6 nd_6 cd_6, .slice ad_7 nd_7 cd_7, .slice ad_8 nd_8 cd_8, .slice ad_9 nd_9 cd_9, .slice ad_10 nd_10 cd_10, .slice ad_11 nd_11 cd_11, .slice ad_12 nd_12 cd_12] 63)) := ⟨_, rfl⟩
  have HWB : Hid (Below w.heap.size w W) := by unfold Hid; rw [hW]; (repeat (first | exact Below.refl _ _ | assumption | refine Below.drew ?_ | refine Below.alloc ?_ (by first | (simp; done) | (simp; omega)) _ | refine Below.setCell ?_ (by first | (simp; done) | (simp; omega)) _))
  have FX : Hid (∀ W', Below W.heap.size W W' → W'.cell? ⟨w.heap.size, 0, none⟩ = some (.int .i64 d.argument) ∧ W'.cell? ⟨w.heap.size, 1, none⟩ = some (.slice ad_1 nd_1 cd_1) ∧ W'.cell? ⟨w.heap.size, 2, none⟩ = some (.slice ad_2 nd_2 cd_2) ∧ W'.cell? ⟨w.heap.size, 3, none⟩ = some (.slice ad_3 nd_3 cd_3) ∧ W'.cell? ⟨w.heap.size, 4, none⟩ = some (.slice ad_4 nd_4 cd_4) ∧ W'.cell? ⟨w.heap.size, 5, none⟩ = some (.slice ad_5 nd_5 cd_5) ∧ W'.cell? ⟨w.heap.size, 6, none⟩ = some (.slice ad_6 nd_6 cd_6) ∧ W'.cell? ⟨w.heap.size, 7, none⟩ = some (.slice ad_7 nd_7 cd_7) ∧ W'.cell? ⟨w.heap.size, 8, none⟩ = some (.slice ad_8 nd_8 cd_8) ∧ W'.cell? ⟨w.heap.size, 9, none⟩ = some (.slice ad_9 nd_9 cd_9) ∧ W'.cell? ⟨w.heap.size, 10, none⟩ = some (.slice ad_10 nd_10 cd_10) ∧ W'.cell? ⟨w.heap.size, 11, none⟩ = some (.slice ad_11 nd_11 cd_11) ∧ W'.cell? ⟨w.heap.size, 12, none⟩ = some (.slice ad_12 nd_12 cd_12)) := fun W' hb => by
    exact ⟨box_at (by rw [hW]; simp [go_sem]) hb, box_at (by rw [hW]; simp [go_sem]) hb, box_at (by rw [hW]; simp [go_sem]) hb, box_at (by rw [hW]; simp [go_sem]) hb, box_at (by rw [hW]; simp [go_sem]) hb, box_at (by rw [hW]; simp [go_sem]) hb, box_at (by rw [hW]; simp [go_sem]) hb, box_at (by rw [hW]; simp [go_sem]) hb, box_at (by rw [hW]; simp [go_sem]) hb, box_at (by rw [hW]; simp [go_sem]) hb, box_at (by rw [hW]; simp [go_sem]) hb, box_at (by rw [hW]; simp [go_sem]) hb, box_at (by rw [hW]; simp [go_sem]) hb⟩
  have hsW : W.heap.size = w.heap.size + 1 := by rw [hW]; simp
  have Hd := Lib.hid ((kS rStage).rd_below h HWB.out); clear h
  have Jd_0 := Lib.hid jd_0; clear jd_0
  have F_d_out := Lib.hid ((kR 105 rCipher).rd_below kd_1 HWB.out)
  have F_d_matrix := Lib.hid ((kS rMatrixProof).rd_below (w := w) (rdMatrixProof.2 ⟨_, _, _, _, _, _, _, _, _, _, _, _, _, _, _, rfl, kd_2, kd_3, kd_4, kd_5, kd_6⟩ : (kS rMatrixProof).rd w (.agg #[.slice ad_2 nd_2 cd_2, .slice ad_3 nd_3 cd_3, .slice ad_4 nd_4 cd_4, .slice ad_5 nd_5 cd_5, .slice ad_6 nd_6 cd_6]) d.matrix) HWB.out)
  have F_d_poly := Lib.hid ((kS rPolyProof).rd_below (w := w) (rdPolyProof.2 ⟨_, _, _, _, _, _, _, _, _, _, _, _, _, _, _, _, _, _, rfl, kd_7, kd_8, kd_9, kd_10, kd_11, kd_12⟩ : (kS rPolyProof).rd w (.agg #[.slice ad_7 nd_7 cd_7, .slice ad_8 nd_8 cd_8, .slice ad_9 nd_9 cd_9, .slice ad_10 nd_10 cd_10, .slice ad_11 nd_11 cd_11, .slice ad_12 nd_12 cd_12]) d.poly) HWB.out)
  clear kd_1 kd_2 kd_3 kd_4 kd_5 kd_6 kd_7 kd_8 kd_9 kd_10 kd_11 kd_12
  have HW := Lib.hid hW; clear hW
  clear hsW
  rcases cxA q1 q2 q3 q4 hex with ⟨rfl, rfl, rfl⟩ | ⟨rfl, rfl, rfl⟩ | ⟨rfl, rfl⟩ | ⟨rfl, rfl, rfl⟩ | ⟨rfl, rfl, rfl⟩
  all_goals
    clear hex
    have g1 := H1.out
    have g3 := H3.out
    go_enter Try.func28, Try.ntmps28
    go_wp2_with fail
    rw [← HW.out]
    have hcum : Below W.heap.size W W := Below.refl _ _
    obtain ⟨p0_0, p0_1, p0_2, p0_3, p0_4, p0_5, p0_6, p0_7, p0_8, p0_9, p0_10, p0_11, p0_12⟩ := FX.out _ hcum
  · skip
    refine (spec_xNoPoly _ d.poly _ HZP.out.2.2 ((kS rPolyProof).rd_below F_d_poly.out (Below.refl _ _))).mono ?_
    rintro e w1 ⟨rfl, hb1⟩
    rw [H2.out]
    (replace hcum := hcum.trans (hb1.mono hcum.size)); clear hb1; clear p0_0 p0_1 p0_2 p0_3 p0_4 p0_5 p0_6 p0_7 p0_8 p0_9 p0_10 p0_11 p0_12; obtain ⟨p0_0, p0_1, p0_2, p0_3, p0_4, p0_5, p0_6, p0_7, p0_8, p0_9, p0_10, p0_11, p0_12⟩ := FX.out _ hcum
    have HC := Lib.hid hcum
    go_wp2_with fail
    refine (spec_xRecord _ d _ HZ.out ((kS rStage).rd_below Hd.out HC.out)).mono ?_
    rintro e w3 ⟨v3, rfl, ho3, hb3⟩
    have HO3 := Lib.hid ho3
    have HB3 := Lib.hid (Below.next HWB.out (Below.next HC.out hb3))
    have hs0 := HWB.out.size
    have hs1 := HC.out.size
    clear ho3 hb3
    go_wp2_with fail
    refine (spec_l4If _ _ _ HO3.out.ints).mono ?_
    rintro e w4 ⟨rfl, hb4⟩
    rw [H5.out]
    have HO4 := Lib.hid (HO3.out.below hb4)
    have HB4 := Lib.hid (Below.next HB3.out hb4)
    clear hb4
    cases q5 with
    | false =>
      have HR := Lib.hid (stgR_no HB.out)
      rw [if_neg (by simp)]
      go_wp2_with fail
      go_ret2
      exact ⟨_, rfl, by rw [HR.out]; exact InI.of_own (OwnI.nil _ _), HB4.out⟩
    | true =>
      have HR := Lib.hid (stgR_yes HB.out)
      rw [if_pos rfl]
      go_wp2_with fail
      go_ret2
      exact ⟨_, rfl, by rw [HR.out]; exact InI.of_own (HO4.out.mono (by omega)), HB4.out⟩
  · skip
    refine (spec_xNoPoly _ d.poly _ HZP.out.2.2 ((kS rPolyProof).rd_below F_d_poly.out (Below.refl _ _))).mono ?_
    rintro e w1 ⟨rfl, hb1⟩
    rw [H2.out]
    (replace hcum := hcum.trans (hb1.mono hcum.size)); clear hb1; clear p0_0 p0_1 p0_2 p0_3 p0_4 p0_5 p0_6 p0_7 p0_8 p0_9 p0_10 p0_11 p0_12; obtain ⟨p0_0, p0_1, p0_2, p0_3, p0_4, p0_5, p0_6, p0_7, p0_8, p0_9, p0_10, p0_11, p0_12⟩ := FX.out _ hcum
    go_wp2_with fail
    have HR := Lib.hid (stgR_no HB.out)
    go_wp2_with fail
    go_ret2
    exact ⟨_, rfl, by rw [HR.out]; exact InI.of_own (OwnI.nil _ _), Below.next HWB.out hcum⟩
  · skip
    have HR := Lib.hid (stgR_no HB.out)
    go_wp2_with fail
    go_ret2
    exact ⟨_, rfl, by rw [HR.out]; exact InI.of_own (OwnI.nil _ _), Below.next HWB.out hcum⟩
  · go_wp2_with fail
    refine (spec_xNoMatrix _ d.matrix _ HZP.out.2.1 ((kS rMatrixProof).rd_below F_d_matrix.out hcum)).mono ?_
    rintro e w2 ⟨rfl, hb2⟩
    rw [H4.out]
    (replace hcum := hcum.trans (hb2.mono hcum.size)); clear hb2; clear p0_0 p0_1 p0_2 p0_3 p0_4 p0_5 p0_6 p0_7 p0_8 p0_9 p0_10 p0_11 p0_12; obtain ⟨p0_0, p0_1, p0_2, p0_3, p0_4, p0_5, p0_6, p0_7, p0_8, p0_9, p0_10, p0_11, p0_12⟩ := FX.out _ hcum
    have HR := Lib.hid (stgR_no HB.out)
    go_wp2_with fail
    go_ret2
    exact ⟨_, rfl, by rw [HR.out]; exact InI.of_own (OwnI.nil _ _), Below.next HWB.out hcum⟩
  · go_wp2_with fail
    refine (spec_xNoMatrix _ d.matrix _ HZP.out.2.1 ((kS rMatrixProof).rd_below F_d_matrix.out hcum)).mono ?_
    rintro e w2 ⟨rfl, hb2⟩
    rw [H4.out]
    (replace hcum := hcum.trans (hb2.mono hcum.size)); clear hb2; clear p0_0 p0_1 p0_2 p0_3 p0_4 p0_5 p0_6 p0_7 p0_8 p0_9 p0_10 p0_11 p0_12; obtain ⟨p0_0, p0_1, p0_2, p0_3, p0_4, p0_5, p0_6, p0_7, p0_8, p0_9, p0_10, p0_11, p0_12⟩ := FX.out _ hcum
    have HC := Lib.hid hcum
    go_wp2_with fail
    refine (spec_xRecord _ d _ HZ.out ((kS rStage).rd_below Hd.out HC.out)).mono ?_
    rintro e w3 ⟨v3, rfl, ho3, hb3⟩
    have HO3 := Lib.hid ho3
    have HB3 := Lib.hid (Below.next HWB.out (Below.next HC.out hb3))
    have hs0 := HWB.out.size
    have hs1 := HC.out.size
    clear ho3 hb3
    go_wp2_with fail
    refine (spec_l4If _ _ _ HO3.out.ints).mono ?_
    rintro e w4 ⟨rfl, hb4⟩
    rw [H5.out]
    have HO4 := Lib.hid (HO3.out.below hb4)
    have HB4 := Lib.hid (Below.next HB3.out hb4)
    clear hb4
    cases q5 with
    | false =>
      have HR := Lib.hid (stgR_no HB.out)
      rw [if_neg (by simp)]
      go_wp2_with fail
      go_ret2
      exact ⟨_, rfl, by rw [HR.out]; exact InI.of_own (OwnI.nil _ _), HB4.out⟩
    | true =>
      have HR := Lib.hid (stgR_yes HB.out)
      rw [if_pos rfl]
      go_wp2_with fail
      go_ret2
      exact ⟨_, rfl, by rw [HR.out]; exact InI.of_own (HO4.out.mono (by omega)), HB4.out⟩
end Go.Proofs.Ytcpigedjblkcfaa

/- Walks: BoardLeaves. -/
import Derived.Test.YtodennbdfloccaaVLeaf
namespace Go.Proofs.Ytodennbdfloccaa
open Go.RowKit
set_option linter.unusedSimpArgs false
set_option linter.unusedVariables false

noncomputable def blL (gr : GroupD) (d : BoardD) : List Int := if vbR gr d = true then leavesL d.entries else []
theorem blL_yes {gr : GroupD} {d : BoardD} (h : vbR gr d = true) : blL gr d = leavesL d.entries := by unfold blL; rw [if_pos h]
theorem blL_no {gr : GroupD} {d : BoardD} (h : vbR gr d = false) : blL gr d = [] := by unfold blL; rw [if_neg (by rw [h]; simp)]
theorem vbR_leaves {gr : GroupD} {d : BoardD} (h : vbR gr d = true) : (∀ i (hi : i < d.entries.length), LeafOk i (d.entries[i]'hi)) ∧ d.entries.length ≤ 64 :=
  ⟨fun i hi => board_leaf (vbR_ok h).1 (vbR_ok h).2 hi, (boardB_parts (vbR_ok h).2).2.1⟩
theorem blL_length (gr : GroupD) (d : BoardD) : (blL gr d).length ≤ 64 := by
  cases h : vbR gr d with
  | true => rw [blL_yes h, leavesL_length]; exact (vbR_leaves h).2
  | false => rw [blL_no h]; simp
set_option maxRecDepth 100000 in
set_option maxHeartbeats 2000000 in
theorem impl_BoardLeaves (gr : GroupD) (v : Value) (d : BoardD) (w : World) (hz : (szBoard d : Int) ≤ 1000000000) (h : (kS rBoard).rd w v d) :
    Calls Try.prog 15 #[.agg #[.int .i64 gr.p, .int .i64 gr.q, .int .i64 gr.g], v] w fun e w' => ∃ v', e = .returned (.tuple #[v', .bool (vbR gr d)]) ∧ InI w' w.heap.size w'.heap.size v' (blL gr d) ∧ Below w.heap.size w w' := by
  clear hz
  (obtain ⟨q1, h_q⟩ : ∃ b_q, vbR gr d = b_q := ⟨_, rfl⟩); have H1 := Lib.hid h_q; clear h_q
  rw [H1.out]
  obtain ⟨ad_0, nd_0, cd_0, ad_1, nd_1, cd_1, rfl, kd_0, kd_1⟩ := rdBoard.1 h
  obtain ⟨W, hW⟩ : ∃ W, W = ((w.alloc (.cells #[.int .i64 gr.p, .int .i64 gr.q, .int .i64 gr.g] 31)).alloc (.cells #[.slice ad_0 nd_0 cd_0, .slice ad_1 nd_1 cd_1] 35)) := ⟨_, rfl⟩
  have HWB : Hid (Below w.heap.size w W) := by unfold Hid; rw [hW]; (repeat (first | exact Below.refl _ _ | assumption | refine Below.drew ?_ | refine Below.alloc ?_ (by first | (simp; done) | (simp; omega)) _ | refine Below.setCell ?_ (by first | (simp; done) | (simp; omega)) _))
  have FX : Hid (∀ W', Below W.heap.size W W' → W'.cell? ⟨w.heap.size, 0, none⟩ = some (.int .i64 gr.p) ∧ W'.cell? ⟨w.heap.size, 1, none⟩ = some (.int .i64 gr.q) ∧ W'.cell? ⟨w.heap.size, 2, none⟩ = some (.int .i64 gr.g) ∧ W'.cell? ⟨w.heap.size + 1, 0, none⟩ = some (.slice ad_0 nd_0 cd_0) ∧ W'.cell? ⟨w.heap.size + 1, 1, none⟩ = some (.slice ad_1 nd_1 cd_1)) := fun W' hb => by
    exact ⟨box_at (by rw [hW]; simp [go_sem]) hb, box_at (by rw [hW]; simp [go_sem]) hb, box_at (by rw [hW]; simp [go_sem]) hb, box_at (by rw [hW]; simp [go_sem]) hb, box_at (by rw [hW]; simp [go_sem]) hb⟩
  have hsW : W.heap.size = w.heap.size + 2 := by rw [hW]; simp
  have Hd := Lib.hid ((kS rBoard).rd_below h HWB.out); clear h
  have F_d_keys := Lib.hid (sInts.rd_below kd_0 HWB.out)
  have F_d_entries := Lib.hid ((kR 120 rEntry).rd_below kd_1 HWB.out)
  clear kd_0 kd_1
  have HW := Lib.hid hW; clear hW
  go_enter Try.func15, Try.ntmps15
  go_wp2_with fail
  rw [← HW.out]
  have hcum : Below W.heap.size W W := Below.refl _ _
  obtain ⟨p0_0, p0_1, p0_2, p1_0, p1_1⟩ := FX.out _ hcum
  refine (impl_areBoard gr d _ _ Hd.out).mono ?_
  rintro e w1 ⟨rfl, hb1⟩
  rw [H1.out]
  (replace hcum := hcum.trans (hb1.mono hcum.size)); clear hb1; clear p0_0 p0_1 p0_2 p1_0 p1_1; obtain ⟨p0_0, p0_1, p0_2, p1_0, p1_1⟩ := FX.out _ hcum
  cases q1 with
  | false =>
    have HR := Lib.hid (blL_no H1.out)
    go_wp2_with fail
    go_ret2
    exact ⟨_, rfl, by rw [HR.out]; exact InI.of_own (OwnI.nil _ _), Below.next HWB.out hcum⟩
  | true =>
    have HC := Lib.hid hcum
    have HR := Lib.hid (blL_yes H1.out)
    have HL := Lib.hid (vbR_leaves H1.out)
    have hs1 := HC.out.size
    have hs2 := HWB.out.size
    go_wp2_with fail
    refine (impl_boardLeaves _ d _ ((kS rBoard).rd_below Hd.out HC.out) HL.out.1 HL.out.2).mono ?_
    rintro e w2 ⟨v2, rfl, ho2, hb2⟩
    have HO2 := Lib.hid ho2; clear ho2
    (replace hcum := hcum.trans (hb2.mono hcum.size)); clear hb2; clear p0_0 p0_1 p0_2 p1_0 p1_1; obtain ⟨p0_0, p0_1, p0_2, p1_0, p1_1⟩ := FX.out _ hcum
    go_wp2_with fail
    go_ret2
    exact ⟨_, rfl, by rw [HR.out]; exact InI.of_own (HO2.out.mono (by omega)), Below.next HWB.out hcum⟩
set_option maxRecDepth 100000 in
set_option maxHeartbeats 2000000 in
theorem spec_BoardLeaves (gr : GroupD) (v : Value) (d : BoardD) (w : World) (hz : (szBoard d : Int) ≤ 1000000000) (h : (kS rBoard).rd w v d) :
    Calls Try.prog 12 #[.agg #[.int .i64 gr.p, .int .i64 gr.q, .int .i64 gr.g], v] w fun e w' => ∃ v', e = .returned (.tuple #[v', .bool (vbR gr d)]) ∧ InI w' w.heap.size w'.heap.size v' (blL gr d) ∧ Below w.heap.size w w' := by
  clear hz
  (obtain ⟨q1, h_q⟩ : ∃ b_q, goodG gr = b_q := ⟨_, rfl⟩); have H1 := Lib.hid h_q; clear h_q
  (obtain ⟨q2, h_q⟩ : ∃ b_q, boardB gr d = b_q := ⟨_, rfl⟩); have H2 := Lib.hid h_q; clear h_q
  have HV : Hid (vbR gr d = (q1 && q2)) := by unfold Hid vbR; rw [H1.out, H2.out]
  rw [HV.out]
  obtain ⟨ad_0, nd_0, cd_0, ad_1, nd_1, cd_1, rfl, kd_0, kd_1⟩ := rdBoard.1 h
  obtain ⟨W, hW⟩ : ∃ W, W = ((w.alloc (.cells #[.int .i64 gr.p, .int .i64 gr.q, .int .i64 gr.g] 31)).alloc (.cells #[.slice ad_0 nd_0 cd_0, .slice ad_1 nd_1 cd_1] 35)) := ⟨_, rfl⟩
  have HWB : Hid (Below w.heap.size w W) := by unfold Hid; rw [hW]; (repeat (first | exact Below.refl _ _ | assumption | refine Below.drew ?_ | refine Below.alloc ?_ (by first | (simp; done) | (simp; omega)) _ | refine Below.setCell ?_ (by first | (simp; done) | (simp; omega)) _))
  have FX : Hid (∀ W', Below W.heap.size W W' → W'.cell? ⟨w.heap.size, 0, none⟩ = some (.int .i64 gr.p) ∧ W'.cell? ⟨w.heap.size, 1, none⟩ = some (.int .i64 gr.q) ∧ W'.cell? ⟨w.heap.size, 2, none⟩ = some (.int .i64 gr.g) ∧ W'.cell? ⟨w.heap.size + 1, 0, none⟩ = some (.slice ad_0 nd_0 cd_0) ∧ W'.cell? ⟨w.heap.size + 1, 1, none⟩ = some (.slice ad_1 nd_1 cd_1)) := fun W' hb => by
    exact ⟨box_at (by rw [hW]; simp [go_sem]) hb, box_at (by rw [hW]; simp [go_sem]) hb, box_at (by rw [hW]; simp [go_sem]) hb, box_at (by rw [hW]; simp [go_sem]) hb, box_at (by rw [hW]; simp [go_sem]) hb⟩
  have hsW : W.heap.size = w.heap.size + 2 := by rw [hW]; simp
  have Hd := Lib.hid ((kS rBoard).rd_below h HWB.out); clear h
  have F_d_keys := Lib.hid (sInts.rd_below kd_0 HWB.out)
  have F_d_entries := Lib.hid ((kR 120 rEntry).rd_below kd_1 HWB.out)
  clear kd_0 kd_1
  have HW := Lib.hid hW; clear hW
  go_enter Try.func12, Try.ntmps12
  go_wp2_with fail
  rw [← HW.out]
  have hcum : Below W.heap.size W W := Below.refl _ _
  obtain ⟨p0_0, p0_1, p0_2, p1_0, p1_1⟩ := FX.out _ hcum
  refine (spec_l2Good gr _).mono ?_
  rintro e w1 ⟨rfl, hb1⟩
  rw [H1.out]
  (replace hcum := hcum.trans (hb1.mono hcum.size)); clear hb1; clear p0_0 p0_1 p0_2 p1_0 p1_1; obtain ⟨p0_0, p0_1, p0_2, p1_0, p1_1⟩ := FX.out _ hcum
  cases q1 with
  | false =>
    have HR := Lib.hid (blL_no HV.out)
    go_wp2_with fail
    go_ret2
    exact ⟨_, rfl, by rw [HR.out]; exact InI.of_own (OwnI.nil _ _), Below.next HWB.out hcum⟩
  | true =>
    have HG := Lib.hid (goodG_ok H1.out)
    have HC := Lib.hid hcum
    go_wp2_with fail
    refine (spec_oBoard gr d _ _ HG.out ((kS rBoard).rd_below Hd.out HC.out)).mono ?_
    rintro e w2 ⟨rfl, hb2⟩
    rw [H2.out]
    (replace hcum := hcum.trans (hb2.mono hcum.size)); clear hb2; clear p0_0 p0_1 p0_2 p1_0 p1_1; obtain ⟨p0_0, p0_1, p0_2, p1_0, p1_1⟩ := FX.out _ hcum
    cases q2 with
    | false =>
      have HR := Lib.hid (blL_no HV.out)
      go_wp2_with fail
      go_ret2
      exact ⟨_, rfl, by rw [HR.out]; exact InI.of_own (OwnI.nil _ _), Below.next HWB.out hcum⟩
    | true =>
      have HR := Lib.hid (blL_yes HV.out)
      have HL := Lib.hid (vbR_leaves HV.out)
      have HC2 := Lib.hid hcum
      have hs1 := HC2.out.size
      have hs2 := HWB.out.size
      go_wp2_with fail
      refine (spec_oLeaves _ d _ ((kS rBoard).rd_below Hd.out HC2.out) HL.out.1 HL.out.2).mono ?_
      rintro e w3 ⟨v3, rfl, ho3, hb3⟩
      have HO3 := Lib.hid ho3; clear ho3
      (replace hcum := hcum.trans (hb3.mono hcum.size)); clear hb3; clear p0_0 p0_1 p0_2 p1_0 p1_1; obtain ⟨p0_0, p0_1, p0_2, p1_0, p1_1⟩ := FX.out _ hcum
      go_wp2_with fail
      go_ret2
      exact ⟨_, rfl, by rw [HR.out]; exact InI.of_own (HO3.out.mono (by omega)), Below.next HWB.out hcum⟩
end Go.Proofs.Ytodennbdfloccaa

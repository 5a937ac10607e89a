/- Walks: CheckHead, FirstWrongHead. -/
import Derived.Test.YtodennbdfloccaaGreatVFits
import Derived.Test.YtodennbdfloccaaGreatMerge4
namespace Go.Proofs.YtodennbdfloccaaGreat
open Go.RowKit
set_option linter.unusedSimpArgs false
set_option linter.unusedVariables false

theorem vbR_parts {gr : GroupD} {d : BoardD} (h : vbR gr d = true) : goodG gr = true ∧ boardB gr d = true := by
  unfold vbR at h; rw [Bool.and_eq_true] at h; exact h
noncomputable def chR (gr : GroupD) (d : BoardD) (h : HeadD) : Bool := vbR gr d && fitsB gr d h
theorem ret_bb2 {a a' b b' : Bool} (h : a = a') (h' : b = b') : Ending.returned (.tuple #[.bool a, .bool b]) = .returned (.tuple #[.bool a', .bool b']) := by rw [h, h']
set_option maxRecDepth 100000 in
set_option maxHeartbeats 2000000 in
theorem impl_CheckHead (gr : GroupD) (v1 : Value) (d : BoardD) (v2 : Value) (h : HeadD) (w : World) (hz1 : (szBoard d : Int) ≤ 1000000000) (h1 : (kS rBoard).rd w v1 d) (hz2 : (szHead h : Int) ≤ 1000000000) (h2 : (kS rHead).rd w v2 h) :
    Calls Tryz.prog 13 #[.agg #[.int .i64 gr.p, .int .i64 gr.q, .int .i64 gr.g], v1, v2] w fun e w' => e = .returned (.tuple #[.bool (chR gr d h), .bool (vbR gr d)]) ∧ Below w.heap.size w w' := by
  clear hz1 hz2
  (obtain ⟨q1, h_q⟩ : ∃ b_q, vbR gr d = b_q := ⟨_, rfl⟩); have H1 := Lib.hid h_q; clear h_q
  (obtain ⟨q2, h_q⟩ : ∃ b_q, fitsB gr d h = b_q := ⟨_, rfl⟩); have H2 := Lib.hid h_q; clear h_q
  have HR : Hid (chR gr d h = (q1 && q2)) := by unfold Hid chR; rw [H1.out, H2.out]
  rw [HR.out, H1.out]
  obtain ⟨ad_0, nd_0, cd_0, ad_1, nd_1, cd_1, rfl, kd_0, kd_1⟩ := rdBoard.1 h1
  obtain ⟨ah_3, nh_3, ch_3, ah_4, nh_4, ch_4, ah_5, nh_5, ch_5, rfl, jh_0, jh_1, jh_2, kh_3, kh_4, kh_5⟩ := rdHead.1 h2
  obtain ⟨W, hW⟩ : ∃ W, W = (((w.alloc (.cells #[.int .i64 gr.p, .int .i64 gr.q, .int .i64 gr.g] 36)).alloc (.cells #[.slice ad_0 nd_0 cd_0, .slice ad_1 nd_1 cd_1] 40)).alloc (.cells #[.int .i64 h.author, .int .i64 h.size, .int .i64 h.root, .slice ah_3 nh_3 ch_3, .slice ah_4 nh_4 ch_4, .slice ah_5 nh_5 ch_5] 44)) := ⟨_, rfl⟩
  have HWB : Hid (Below w.heap.size w W) := by unfold Hid; rw [hW]; (repeat (first | exact Below.refl _ _ | assumption | refine Below.drew ?_ | refine Below.alloc ?_ (by first | (simp; done) | (simp; omega)) _ | refine Below.setCell ?_ (by first | (simp; done) | (simp; omega)) _))
  have FX : Hid (∀ W', Below W.heap.size W W' → W'.cell? ⟨w.heap.size, 0, none⟩ = some (.int .i64 gr.p) ∧ W'.cell? ⟨w.heap.size, 1, none⟩ = some (.int .i64 gr.q) ∧ W'.cell? ⟨w.heap.size, 2, none⟩ = some (.int .i64 gr.g) ∧ W'.cell? ⟨w.heap.size + 1, 0, none⟩ = some (.slice ad_0 nd_0 cd_0) ∧ W'.cell? ⟨w.heap.size + 1, 1, none⟩ = some (.slice ad_1 nd_1 cd_1) ∧ W'.cell? ⟨w.heap.size + 1 + 1, 0, none⟩ = some (.int .i64 h.author) ∧ W'.cell? ⟨w.heap.size + 1 + 1, 1, none⟩ = some (.int .i64 h.size) ∧ W'.cell? ⟨w.heap.size + 1 + 1, 2, none⟩ = some (.int .i64 h.root) ∧ W'.cell? ⟨w.heap.size + 1 + 1, 3, none⟩ = some (.slice ah_3 nh_3 ch_3) ∧ W'.cell? ⟨w.heap.size + 1 + 1, 4, none⟩ = some (.slice ah_4 nh_4 ch_4) ∧ W'.cell? ⟨w.heap.size + 1 + 1, 5, none⟩ = some (.slice ah_5 nh_5 ch_5)) := fun W' hb => by
    exact ⟨box_at (by rw [hW]; simp [go_sem]) hb, box_at (by rw [hW]; simp [go_sem]) hb, box_at (by rw [hW]; simp [go_sem]) hb, box_at (by rw [hW]; simp [go_sem]) hb, box_at (by rw [hW]; simp [go_sem]) hb, box_at (by rw [hW]; simp [go_sem]) hb, box_at (by rw [hW]; simp [go_sem]) hb, box_at (by rw [hW]; simp [go_sem]) hb, box_at (by rw [hW]; simp [go_sem]) hb, box_at (by rw [hW]; simp [go_sem]) hb, box_at (by rw [hW]; simp [go_sem]) hb⟩
  have hsW : W.heap.size = w.heap.size + 3 := by rw [hW]; simp
  have Hd := Lib.hid ((kS rBoard).rd_below h1 HWB.out); clear h1
  have F_d_keys := Lib.hid (sInts.rd_below kd_0 HWB.out)
  have F_d_entries := Lib.hid ((kR 115 rEntry).rd_below kd_1 HWB.out)
  clear kd_0 kd_1
  have Hh := Lib.hid ((kS rHead).rd_below h2 HWB.out); clear h2
  have Jh_0 := Lib.hid jh_0; clear jh_0
  have Jh_1 := Lib.hid jh_1; clear jh_1
  have Jh_2 := Lib.hid jh_2; clear jh_2
  have F_h_sign := Lib.hid ((kS rProof).rd_below (w := w) (rdProof.2 ⟨_, _, _, _, _, _, _, _, _, rfl, kh_3, kh_4, kh_5⟩ : (kS rProof).rd w (.agg #[.slice ah_3 nh_3 ch_3, .slice ah_4 nh_4 ch_4, .slice ah_5 nh_5 ch_5]) h.sign) HWB.out)
  clear kh_3 kh_4 kh_5
  have HW := Lib.hid hW; clear hW
  go_enter Tryz.func13, Tryz.ntmps13
  go_wp2_with fail
  rw [← HW.out]
  have hcum : Below W.heap.size W W := Below.refl _ _
  obtain ⟨p0_0, p0_1, p0_2, p1_0, p1_1, p2_0, p2_1, p2_2, p2_3, p2_4, p2_5⟩ := FX.out _ hcum
  refine (impl_areBoard gr d _ _ Hd.out).mono ?_
  rintro e w1 ⟨rfl, hb1⟩
  rw [H1.out]
  (replace hcum := hcum.trans (hb1.mono hcum.size)); clear hb1; clear p0_0 p0_1 p0_2 p1_0 p1_1 p2_0 p2_1 p2_2 p2_3 p2_4 p2_5; obtain ⟨p0_0, p0_1, p0_2, p1_0, p1_1, p2_0, p2_1, p2_2, p2_3, p2_4, p2_5⟩ := FX.out _ hcum
  cases q1 with
  | false =>
    go_wp2_with fail
    go_ret2
    exact ⟨rfl, Below.next HWB.out hcum⟩
  | true =>
    have HV := Lib.hid (vbR_ok H1.out)
    have HC := Lib.hid hcum
    go_wp2_with fail
    refine (impl_fits gr _ d _ h _ HV.out.1 HV.out.2 ((kS rBoard).rd_below Hd.out HC.out) ((kS rHead).rd_below Hh.out HC.out)).mono ?_
    rintro e w2 ⟨rfl, hb2⟩
    rw [H2.out]
    (replace hcum := hcum.trans (hb2.mono hcum.size)); clear hb2; clear p0_0 p0_1 p0_2 p1_0 p1_1 p2_0 p2_1 p2_2 p2_3 p2_4 p2_5; obtain ⟨p0_0, p0_1, p0_2, p1_0, p1_1, p2_0, p2_1, p2_2, p2_3, p2_4, p2_5⟩ := FX.out _ hcum
    go_wp2_with fail
    go_ret2
    exact ⟨rfl, Below.next HWB.out hcum⟩
set_option maxRecDepth 100000 in
set_option maxHeartbeats 2000000 in
theorem spec_CheckHead (gr : GroupD) (v1 : Value) (d : BoardD) (v2 : Value) (h : HeadD) (w : World) (hz1 : (szBoard d : Int) ≤ 1000000000) (h1 : (kS rBoard).rd w v1 d) (hz2 : (szHead h : Int) ≤ 1000000000) (h2 : (kS rHead).rd w v2 h) :
    Calls Tryz.prog 9 #[.agg #[.int .i64 gr.p, .int .i64 gr.q, .int .i64 gr.g], v1, v2] w fun e w' => e = .returned (.tuple #[.bool (chR gr d h), .bool (vbR gr d)]) ∧ Below w.heap.size w w' := by
  clear hz1 hz2
  (obtain ⟨q1, h_q⟩ : ∃ b_q, goodG gr = b_q := ⟨_, rfl⟩); have H1 := Lib.hid h_q; clear h_q
  (obtain ⟨q2, h_q⟩ : ∃ b_q, boardB gr d = b_q := ⟨_, rfl⟩); have H2 := Lib.hid h_q; clear h_q
  (obtain ⟨q3, h_q⟩ : ∃ b_q, fitsB gr d h = b_q := ⟨_, rfl⟩); have H3 := Lib.hid h_q; clear h_q
  have HV : Hid (vbR gr d = (q1 && q2)) := by unfold Hid vbR; rw [H1.out, H2.out]
  have HR : Hid (chR gr d h = ((q1 && q2) && q3)) := by unfold Hid chR; rw [HV.out, H3.out]
  rw [HR.out, HV.out]
  obtain ⟨ad_0, nd_0, cd_0, ad_1, nd_1, cd_1, rfl, kd_0, kd_1⟩ := rdBoard.1 h1
  obtain ⟨ah_3, nh_3, ch_3, ah_4, nh_4, ch_4, ah_5, nh_5, ch_5, rfl, jh_0, jh_1, jh_2, kh_3, kh_4, kh_5⟩ := rdHead.1 h2
  obtain ⟨W, hW⟩ : ∃ W, W = (((w.alloc (.cells #[.int .i64 gr.p, .int .i64 gr.q, .int .i64 gr.g] 36)).alloc (.cells #[.slice ad_0 nd_0 cd_0, .slice ad_1 nd_1 cd_1] 40)).alloc (.cells #[.int .i64 h.author, .int .i64 h.size, .int .i64 h.root, .slice ah_3 nh_3 ch_3, .slice ah_4 nh_4 ch_4, .slice ah_5 nh_5 ch_5] 44)) := ⟨_, rfl⟩
  have HWB : Hid (Below w.heap.size w W) := by unfold Hid; rw [hW]; (repeat (first | exact Below.refl _ _ | assumption | refine Below.drew ?_ | refine Below.alloc ?_ (by first | (simp; done) | (simp; omega)) _ | refine Below.setCell ?_ (by first | (simp; done) | (simp; omega)) _))
  have FX : Hid (∀ W', Below W.heap.size W W' → W'.cell? ⟨w.heap.size, 0, none⟩ = some (.int .i64 gr.p) ∧ W'.cell? ⟨w.heap.size, 1, none⟩ = some (.int .i64 gr.q) ∧ W'.cell? ⟨w.heap.size, 2, none⟩ = some (.int .i64 gr.g) ∧ W'.cell? ⟨w.heap.size + 1, 0, none⟩ = some (.slice ad_0 nd_0 cd_0) ∧ W'.cell? ⟨w.heap.size + 1, 1, none⟩ = some (.slice ad_1 nd_1 cd_1) ∧ W'.cell? ⟨w.heap.size + 1 + 1, 0, none⟩ = some (.int .i64 h.author) ∧ W'.cell? ⟨w.heap.size + 1 + 1, 1, none⟩ = some (.int .i64 h.size) ∧ W'.cell? ⟨w.heap.size + 1 + 1, 2, none⟩ = some (.int .i64 h.root) ∧ W'.cell? ⟨w.heap.size + 1 + 1, 3, none⟩ = some (.slice ah_3 nh_3 ch_3) ∧ W'.cell? ⟨w.heap.size + 1 + 1, 4, none⟩ = some (.slice ah_4 nh_4 ch_4) ∧ W'.cell? ⟨w.heap.size + 1 + 1, 5, none⟩ = some (.slice ah_5 nh_5 ch_5)) := fun W' hb => by
    exact ⟨box_at (by rw [hW]; simp [go_sem]) hb, box_at (by rw [hW]; simp [go_sem]) hb, box_at (by rw [hW]; simp [go_sem]) hb, box_at (by rw [hW]; simp [go_sem]) hb, box_at (by rw [hW]; simp [go_sem]) hb, box_at (by rw [hW]; simp [go_sem]) hb, box_at (by rw [hW]; simp [go_sem]) hb, box_at (by rw [hW]; simp [go_sem]) hb, box_at (by rw [hW]; simp [go_sem]) hb, box_at (by rw [hW]; simp [go_sem]) hb, box_at (by rw [hW]; simp [go_sem]) hb⟩
  have hsW : W.heap.size = w.heap.size + 3 := by rw [hW]; simp
  have Hd := Lib.hid ((kS rBoard).rd_below h1 HWB.out); clear h1
  have F_d_keys := Lib.hid (sInts.rd_below kd_0 HWB.out)
  have F_d_entries := Lib.hid ((kR 115 rEntry).rd_below kd_1 HWB.out)
  clear kd_0 kd_1
  have Hh := Lib.hid ((kS rHead).rd_below h2 HWB.out); clear h2
  have Jh_0 := Lib.hid jh_0; clear jh_0
  have Jh_1 := Lib.hid jh_1; clear jh_1
  have Jh_2 := Lib.hid jh_2; clear jh_2
  have F_h_sign := Lib.hid ((kS rProof).rd_below (w := w) (rdProof.2 ⟨_, _, _, _, _, _, _, _, _, rfl, kh_3, kh_4, kh_5⟩ : (kS rProof).rd w (.agg #[.slice ah_3 nh_3 ch_3, .slice ah_4 nh_4 ch_4, .slice ah_5 nh_5 ch_5]) h.sign) HWB.out)
  clear kh_3 kh_4 kh_5
  have HW := Lib.hid hW; clear hW
  go_enter Tryz.func9, Tryz.ntmps9
  go_wp2_with fail
  rw [← HW.out]
  have hcum : Below W.heap.size W W := Below.refl _ _
  obtain ⟨p0_0, p0_1, p0_2, p1_0, p1_1, p2_0, p2_1, p2_2, p2_3, p2_4, p2_5⟩ := FX.out _ hcum
  refine (spec_l2Good gr _).mono ?_
  rintro e w1 ⟨rfl, hb1⟩
  rw [H1.out]
  (replace hcum := hcum.trans (hb1.mono hcum.size)); clear hb1; clear p0_0 p0_1 p0_2 p1_0 p1_1 p2_0 p2_1 p2_2 p2_3 p2_4 p2_5; obtain ⟨p0_0, p0_1, p0_2, p1_0, p1_1, p2_0, p2_1, p2_2, p2_3, p2_4, p2_5⟩ := FX.out _ hcum
  cases q1 with
  | false =>
    go_wp2_with fail
    go_ret2
    exact ⟨rfl, Below.next HWB.out hcum⟩
  | true =>
    have HG := Lib.hid (goodG_ok H1.out)
    have HC := Lib.hid hcum
    go_wp2_with fail
    refine (spec_oBoard gr d _ _ HG.out ((kS rBoard).rd_below Hd.out HC.out)).mono ?_
    rintro e w2 ⟨rfl, hb2⟩
    rw [H2.out]
    (replace hcum := hcum.trans (hb2.mono hcum.size)); clear hb2; clear p0_0 p0_1 p0_2 p1_0 p1_1 p2_0 p2_1 p2_2 p2_3 p2_4 p2_5; obtain ⟨p0_0, p0_1, p0_2, p1_0, p1_1, p2_0, p2_1, p2_2, p2_3, p2_4, p2_5⟩ := FX.out _ hcum
    cases q2 with
    | false =>
      go_wp2_with fail
      go_ret2
      exact ⟨rfl, Below.next HWB.out hcum⟩
    | true =>
      have HC2 := Lib.hid hcum
      go_wp2_with fail
      refine (spec_oChecks gr _ d _ h _ HG.out H2.out ((kS rBoard).rd_below Hd.out HC2.out) ((kS rHead).rd_below Hh.out HC2.out)).mono ?_
      rintro e w3 ⟨rfl, hb3⟩
      rw [H3.out]
      (replace hcum := hcum.trans (hb3.mono hcum.size)); clear hb3; clear p0_0 p0_1 p0_2 p1_0 p1_1 p2_0 p2_1 p2_2 p2_3 p2_4 p2_5; obtain ⟨p0_0, p0_1, p0_2, p1_0, p1_1, p2_0, p2_1, p2_2, p2_3, p2_4, p2_5⟩ := FX.out _ hcum
      go_wp2_with fail
      go_ret2
      exact ⟨rfl, Below.next HWB.out hcum⟩
/-- the first head that is not that of a board -/
noncomputable def fwN (gr : GroupD) (d : BoardD) (hs : List HeadD) : Nat := hs.findIdx fun h => !fitsB gr d h
noncomputable def fwB (gr : GroupD) (d : BoardD) (hs : List HeadD) : Bool := vbR gr d && headsB hs
noncomputable def fwI (gr : GroupD) (d : BoardD) (hs : List HeadD) : Int := if fwB gr d hs = true then (fwN gr d hs : Int) else 0
theorem fwN_at {gr : GroupD} {d : BoardD} {hs : List HeadD} {k : Nat} (hk : k < hs.length) (h : fitsB gr d hs[k] = false) (hf : ∀ j (hj : j < hs.length), j < k → fitsB gr d hs[j] = true) : fwN gr d hs = k := by
  unfold fwN
  rw [List.findIdx_eq hk]
  exact ⟨by rw [h]; rfl, fun j hji => by rw [hf j (by omega) hji]; rfl⟩
theorem fwN_all {gr : GroupD} {d : BoardD} {hs : List HeadD} (hf : ∀ j (hj : j < hs.length), fitsB gr d hs[j] = true) : fwN gr d hs = hs.length := by
  unfold fwN
  rw [List.findIdx_eq_length]
  intro x hx
  obtain ⟨i, hi, rfl⟩ := List.getElem_of_mem hx
  rw [hf i hi]; rfl
theorem fwI_no {gr : GroupD} {d : BoardD} {hs : List HeadD} (h : fwB gr d hs = false) : fwI gr d hs = 0 := by unfold fwI; rw [if_neg (by rw [h]; simp)]
theorem fwI_yes {gr : GroupD} {d : BoardD} {hs : List HeadD} (h : fwB gr d hs = true) : fwI gr d hs = fwN gr d hs := by unfold fwI; rw [if_pos h]
set_option maxRecDepth 100000 in
set_option maxHeartbeats 4000000 in
theorem impl_FirstWrongHead (gr : GroupD) (v1 : Value) (d : BoardD) (v2 : Value) (hs : List HeadD) (w : World) (hz1 : (szBoard d : Int) ≤ 1000000000) (h1 : (kS rBoard).rd w v1 d) (hz2 : (szHeadS hs : Int) ≤ 1000000000) (h2 : (kR 44 rHead).rd w v2 hs) :
    Calls Tryz.prog 19 #[.agg #[.int .i64 gr.p, .int .i64 gr.q, .int .i64 gr.g], v1, v2] w fun e w' => e = .returned (.tuple #[.int .i64 (fwI gr d hs), .bool (fwB gr d hs)]) ∧ Below w.heap.size w w' := by
  clear hz1 hz2
  (obtain ⟨q1, h_q⟩ : ∃ b_q, vbR gr d = b_q := ⟨_, rfl⟩); have H1 := Lib.hid h_q; clear h_q
  (obtain ⟨q2, h_q⟩ : ∃ b_q, headsB hs = b_q := ⟨_, rfl⟩); have H2 := Lib.hid h_q; clear h_q
  have HFQ : Hid (fwB gr d hs = (q1 && q2)) := by unfold Hid fwB; rw [H1.out, H2.out]
  rw [HFQ.out]
  have HH : Hid (RdR rHead w v2 hs) := h2
  obtain ⟨a2, n2, c2, rfl⟩ := HH.out.shape
  have el := HH.out.len
  obtain ⟨k1, k2⟩ := HH.out.capMax
  unfold maxLen at k2
  have HE := Lib.hid el
  have HN20 : Hid (headsB hs = true → n2 ≤ 20) := fun h => by
    unfold headsB at h
    simp only [Bool.and_eq_true, decide_eq_true_eq] at h
    have := HE.out; omega
  clear h2 el
  obtain ⟨ad_0, nd_0, cd_0, ad_1, nd_1, cd_1, rfl, kd_0, kd_1⟩ := rdBoard.1 h1
  obtain ⟨W, hW⟩ : ∃ W, W = ((w.alloc (.cells #[.int .i64 gr.p, .int .i64 gr.q, .int .i64 gr.g] 36)).alloc (.cells #[.slice ad_0 nd_0 cd_0, .slice ad_1 nd_1 cd_1] 40)) := ⟨_, rfl⟩
  have HWB : Hid (Below w.heap.size w W) := by unfold Hid; rw [hW]; (repeat (first | exact Below.refl _ _ | assumption | refine Below.drew ?_ | refine Below.alloc ?_ (by first | (simp; done) | (simp; omega)) _ | refine Below.setCell ?_ (by first | (simp; done) | (simp; omega)) _))
  have FX : Hid (∀ W', Below W.heap.size W W' → W'.cell? ⟨w.heap.size, 0, none⟩ = some (.int .i64 gr.p) ∧ W'.cell? ⟨w.heap.size, 1, none⟩ = some (.int .i64 gr.q) ∧ W'.cell? ⟨w.heap.size, 2, none⟩ = some (.int .i64 gr.g) ∧ W'.cell? ⟨w.heap.size + 1, 0, none⟩ = some (.slice ad_0 nd_0 cd_0) ∧ W'.cell? ⟨w.heap.size + 1, 1, none⟩ = some (.slice ad_1 nd_1 cd_1)) := fun W' hb => by
    exact ⟨box_at (by rw [hW]; simp [go_sem]) hb, box_at (by rw [hW]; simp [go_sem]) hb, box_at (by rw [hW]; simp [go_sem]) hb, box_at (by rw [hW]; simp [go_sem]) hb, box_at (by rw [hW]; simp [go_sem]) hb⟩
  have hsW : W.heap.size = w.heap.size + 2 := by rw [hW]; simp
  have Hd := Lib.hid ((kS rBoard).rd_below h1 HWB.out); clear h1
  have F_d_keys := Lib.hid (sInts.rd_below kd_0 HWB.out)
  have F_d_entries := Lib.hid ((kR 115 rEntry).rd_below kd_1 HWB.out)
  clear kd_0 kd_1
  have HW := Lib.hid hW; clear hW
  have HHW : Hid (RdR rHead W (.slice a2 n2 c2) hs) := HH.out.below HWB.out
  go_enter Tryz.func19, Tryz.ntmps19
  go_wp2_with fail
  rw [← HW.out]
  have hcum : Below W.heap.size W W := Below.refl _ _
  obtain ⟨p0_0, p0_1, p0_2, p1_0, p1_1⟩ := FX.out _ hcum
  refine (impl_areBoard gr d _ _ Hd.out).mono ?_
  rintro e w1 ⟨rfl, hb1⟩
  rw [H1.out]
  (replace hcum := hcum.trans (hb1.mono hcum.size)); clear hb1; clear p0_0 p0_1 p0_2 p1_0 p1_1; obtain ⟨p0_0, p0_1, p0_2, p1_0, p1_1⟩ := FX.out _ hcum
  cases q1 with
  | false =>
    have HR := Lib.hid (fwI_no HFQ.out)
    go_wp2_with fail
    go_ret2
    exact ⟨ret_int_bool (by first | (rw [HR.out]; done) | (rw [HR.out]; rfl) | exact HR.out.symm) rfl, Below.next HWB.out hcum⟩
  | true =>
    have HG := Lib.hid (vbR_ok H1.out).1
    have HBD := Lib.hid (vbR_ok H1.out).2
    have HC1 := Lib.hid hcum
    go_wp2_with fail
    refine (impl_areHeads _ hs _ (HHW.out.below HC1.out)).mono ?_
    rintro e w2 ⟨rfl, hb2⟩
    rw [H2.out]
    (replace hcum := hcum.trans (hb2.mono hcum.size)); clear hb2; clear p0_0 p0_1 p0_2 p1_0 p1_1; obtain ⟨p0_0, p0_1, p0_2, p1_0, p1_1⟩ := FX.out _ hcum
    cases q2 with
    | false =>
      have HR := Lib.hid (fwI_no HFQ.out)
      go_wp2_with fail
      go_ret2
      exact ⟨ret_int_bool (by first | (rw [HR.out]; done) | (rw [HR.out]; rfl) | exact HR.out.symm) rfl, Below.next HWB.out hcum⟩
    | true =>
      have HFB : Hid (fwB gr d hs = true) := HFQ.out
      have HHB := H2
      have hn20 := HN20.out HHB.out
      have HRI := Lib.hid (fwI_yes HFB.out)
      have HC := Lib.hid hcum
      clear hcum
      go_wp2_with fail
      go_loopg [21] n2 (fun g i wr => ∃ k : Nat, k + g = n2 ∧ i = .int .i64 k ∧ Hid (∀ j (hj : j < hs.length), j < k → fitsB gr d (hs[j]'hj) = true) ∧ Below W.heap.size W wr)
      case atStart => exact ⟨0, by omega, rfl, (fun j hj h => by omega), HC.out⟩
      case round =>
        obtain ⟨k, hkg, rfl, HF, hb⟩ := hrel
        clear p0_0 p0_1 p0_2 p1_0 p1_1
        obtain ⟨p0_0, p0_1, p0_2, p1_0, p1_1⟩ := FX.out _ hb
        by_cases hlt : k < n2
        · have HK : Hid (k < hs.length) := by unfold Hid; rw [HE.out]; exact hlt
          obtain ⟨q4, h4⟩ : ∃ b, fitsB gr d (hs[k]'HK.out) = b := ⟨_, rfl⟩
          have H4 := Lib.hid h4; clear h4
          have HRN : Hid (q4 = false → fwN gr d hs = k) := fun e => fwN_at HK.out (H4.out.trans e) HF.out
          have HFK : Hid (q4 = true → ∀ j (hj : j < hs.length), j < k + 1 → fitsB gr d (hs[j]'hj) = true) := fun e j hj hjk => by
            rcases Nat.lt_succ_iff_lt_or_eq.1 hjk with h | rfl
            · exact HF.out j hj h
            · exact H4.out.trans e
          obtain ⟨b_h, o_h, rfl, hcx⟩ := HHW.out.at_ (by omega)
          obtain ⟨us, hcell, hrd⟩ := hcx k HK.out
          clear hcx
          generalize hs[k]'HK.out = h at hrd H4
          obtain ⟨ah_3, nh_3, ch_3, ah_4, nh_4, ch_4, ah_5, nh_5, ch_5, ers, jh_0, jh_1, jh_2, kh_3, kh_4, kh_5⟩ := rdHead.1 ⟨us, rfl, hrd⟩
          obtain rfl : us = [.int .i64 h.author, .int .i64 h.size, .int .i64 h.root, .slice ah_3 nh_3 ch_3, .slice ah_4 nh_4 ch_4, .slice ah_5 nh_5 ch_5] := by have h := Value.agg.inj ers; simpa using congrArg Array.toList h
          clear ers hrd
          have y_h_0 : wr.cell? ⟨b_h, o_h + k * 6, none⟩ = some (.int .i64 h.author) := box_at (hcell 0 (by decide)) hb
          have y_h_1 : wr.cell? ⟨b_h, o_h + k * 6 + 1, none⟩ = some (.int .i64 h.size) := box_at (hcell 1 (by decide)) hb
          have y_h_2 : wr.cell? ⟨b_h, o_h + k * 6 + 2, none⟩ = some (.int .i64 h.root) := box_at (hcell 2 (by decide)) hb
          have y_h_3 : wr.cell? ⟨b_h, o_h + k * 6 + 3, none⟩ = some (.slice ah_3 nh_3 ch_3) := box_at (hcell 3 (by decide)) hb
          have y_h_4 : wr.cell? ⟨b_h, o_h + k * 6 + 4, none⟩ = some (.slice ah_4 nh_4 ch_4) := box_at (hcell 4 (by decide)) hb
          have y_h_5 : wr.cell? ⟨b_h, o_h + k * 6 + 5, none⟩ = some (.slice ah_5 nh_5 ch_5) := box_at (hcell 5 (by decide)) hb
          clear hcell
          have HR_h := Lib.hid ((kS rHead).rd_below (rdHead.2 ⟨_, _, _, _, _, _, _, _, _, rfl, jh_0, jh_1, jh_2, kh_3, kh_4, kh_5⟩ : (kS rHead).rd W (.agg #[.int .i64 h.author, .int .i64 h.size, .int .i64 h.root, .slice ah_3 nh_3 ch_3, .slice ah_4 nh_4 ch_4, .slice ah_5 nh_5 ch_5]) h) hb)
          have F_h_sign := Lib.hid ((kS rProof).rd_below (rdProof.2 ⟨_, _, _, _, _, _, _, _, _, rfl, kh_3, kh_4, kh_5⟩ : (kS rProof).rd W (.agg #[.slice ah_3 nh_3 ch_3, .slice ah_4 nh_4 ch_4, .slice ah_5 nh_5 ch_5]) h.sign) hb)
          have J_h_0 := Lib.hid jh_0
          have J_h_1 := Lib.hid jh_1
          have J_h_2 := Lib.hid jh_2
          clear jh_0 jh_1 jh_2 kh_3 kh_4 kh_5
          have hwk : IntKind.i64.wrap ((k : Int) + 1) = (k : Int) + 1 := IntWalk.i64_in _ (by omega)
          have zl0 : w.heap.size < wr.heap.size := World.block_lt_of_cell? _ _ p0_0
          have zl1 : w.heap.size + 1 < wr.heap.size := World.block_lt_of_cell? _ _ p1_0
          go_wp2_with fail
          clear zl0 zl1
          obtain ⟨V, hV⟩ : ∃ V, V = wr.alloc (.cells #[.int .i64 h.author, .int .i64 h.size, .int .i64 h.root, .slice ah_3 nh_3 ch_3, .slice ah_4 nh_4 ch_4, .slice ah_5 nh_5 ch_5] 44) := ⟨_, rfl⟩
          rw [← hV]
          have HV : Hid (Below wr.heap.size wr V) := by unfold Hid; rw [hV]; exact (Below.refl _ _).alloc (Nat.le_refl _) _
          have hsV : V.heap.size = wr.heap.size + 1 := by rw [hV]; simp
          have x_h_0 : V.cell? ⟨wr.heap.size, 0, none⟩ = some (.int .i64 h.author) := by rw [hV]; simp [go_sem]
          have x_h_1 : V.cell? ⟨wr.heap.size, 1, none⟩ = some (.int .i64 h.size) := by rw [hV]; simp [go_sem]
          have x_h_2 : V.cell? ⟨wr.heap.size, 2, none⟩ = some (.int .i64 h.root) := by rw [hV]; simp [go_sem]
          have x_h_3 : V.cell? ⟨wr.heap.size, 3, none⟩ = some (.slice ah_3 nh_3 ch_3) := by rw [hV]; simp [go_sem]
          have x_h_4 : V.cell? ⟨wr.heap.size, 4, none⟩ = some (.slice ah_4 nh_4 ch_4) := by rw [hV]; simp [go_sem]
          have x_h_5 : V.cell? ⟨wr.heap.size, 5, none⟩ = some (.slice ah_5 nh_5 ch_5) := by rw [hV]; simp [go_sem]
          have HRV_h := Lib.hid ((kS rHead).rd_below HR_h.out HV.out)
          clear hV
          have HBV := Lib.hid (Below.next hb HV.out)
          replace p0_0 := box_at p0_0 HV.out
          replace p0_1 := box_at p0_1 HV.out
          replace p0_2 := box_at p0_2 HV.out
          replace p1_0 := box_at p1_0 HV.out
          replace p1_1 := box_at p1_1 HV.out
          clear hb
          refine (impl_fits gr _ d _ h _ HG.out HBD.out ((kS rBoard).rd_below Hd.out HBV.out) HRV_h.out).mono ?_
          rintro e w2 ⟨rfl, hb2⟩
          rw [H4.out]
          have HB2 := Lib.hid (Below.next HBV.out hb2)
          clear hb2
          cases q4 with
          | false =>
            have HRK := HRN.out rfl
            have HRE : Hid (fwI gr d hs = (k : Int)) := by unfold Hid; rw [HRI.out, HRK]
            clear HRK
            go_wp2_with fail
            go_ret2
            exact ⟨ret_int_bool (by first | (rw [HRE.out]; done) | (rw [HRE.out]; rfl) | exact HRE.out.symm) rfl, Below.next HWB.out HB2.out⟩
          | true =>
            have HFN := Lib.hid (HFK.out rfl)
            go_wp2_with fail
            go_roundg (n2 - (k + 1))
            case measure => omega
            case rel => exact ⟨k + 1, by omega, by go_num, HFN.out, HB2.out⟩
        · obtain rfl : n2 = k := by omega
          have HRE : Hid (fwI gr d hs = (n2 : Int)) := by
            unfold Hid; rw [HRI.out, fwN_all (fun j hj => HF.out j hj (by have := HE.out; omega)), HE.out]
          go_wp2_with fail
          go_ret2
          exact ⟨ret_int_bool (by first | (rw [HRE.out]; done) | (rw [HRE.out]; rfl) | exact HRE.out.symm) rfl, Below.next HWB.out hb⟩
set_option maxRecDepth 100000 in
set_option maxHeartbeats 4000000 in
theorem spec_FirstWrongHead (gr : GroupD) (v1 : Value) (d : BoardD) (v2 : Value) (hs : List HeadD) (w : World) (hz1 : (szBoard d : Int) ≤ 1000000000) (h1 : (kS rBoard).rd w v1 d) (hz2 : (szHeadS hs : Int) ≤ 1000000000) (h2 : (kR 44 rHead).rd w v2 hs) :
    Calls Tryz.prog 17 #[.agg #[.int .i64 gr.p, .int .i64 gr.q, .int .i64 gr.g], v1, v2] w fun e w' => e = .returned (.tuple #[.int .i64 (fwI gr d hs), .bool (fwB gr d hs)]) ∧ Below w.heap.size w w' := by
  clear hz1 hz2
  (obtain ⟨q0, h_q⟩ : ∃ b_q, goodG gr = b_q := ⟨_, rfl⟩); have H0 := Lib.hid h_q; clear h_q
  (obtain ⟨q1, h_q⟩ : ∃ b_q, boardB gr d = b_q := ⟨_, rfl⟩); have H1 := Lib.hid h_q; clear h_q
  (obtain ⟨q2, h_q⟩ : ∃ b_q, headsB hs = b_q := ⟨_, rfl⟩); have H2 := Lib.hid h_q; clear h_q
  have HFQ : Hid (fwB gr d hs = ((q0 && q1) && q2)) := by unfold Hid fwB vbR; rw [H0.out, H1.out, H2.out]
  rw [HFQ.out]
  have HH : Hid (RdR rHead w v2 hs) := h2
  obtain ⟨a2, n2, c2, rfl⟩ := HH.out.shape
  have el := HH.out.len
  obtain ⟨k1, k2⟩ := HH.out.capMax
  unfold maxLen at k2
  have HE := Lib.hid el
  have HN20 : Hid (headsB hs = true → n2 ≤ 20) := fun h => by
    unfold headsB at h
    simp only [Bool.and_eq_true, decide_eq_true_eq] at h
    have := HE.out; omega
  clear h2 el
  obtain ⟨ad_0, nd_0, cd_0, ad_1, nd_1, cd_1, rfl, kd_0, kd_1⟩ := rdBoard.1 h1
  obtain ⟨W, hW⟩ : ∃ W, W = ((w.alloc (.cells #[.int .i64 gr.p, .int .i64 gr.q, .int .i64 gr.g] 36)).alloc (.cells #[.slice ad_0 nd_0 cd_0, .slice ad_1 nd_1 cd_1] 40)) := ⟨_, rfl⟩
  have HWB : Hid (Below w.heap.size w W) := by unfold Hid; rw [hW]; (repeat (first | exact Below.refl _ _ | assumption | refine Below.drew ?_ | refine Below.alloc ?_ (by first | (simp; done) | (simp; omega)) _ | refine Below.setCell ?_ (by first | (simp; done) | (simp; omega)) _))
  have FX : Hid (∀ W', Below W.heap.size W W' → W'.cell? ⟨w.heap.size, 0, none⟩ = some (.int .i64 gr.p) ∧ W'.cell? ⟨w.heap.size, 1, none⟩ = some (.int .i64 gr.q) ∧ W'.cell? ⟨w.heap.size, 2, none⟩ = some (.int .i64 gr.g) ∧ W'.cell? ⟨w.heap.size + 1, 0, none⟩ = some (.slice ad_0 nd_0 cd_0) ∧ W'.cell? ⟨w.heap.size + 1, 1, none⟩ = some (.slice ad_1 nd_1 cd_1)) := fun W' hb => by
    exact ⟨box_at (by rw [hW]; simp [go_sem]) hb, box_at (by rw [hW]; simp [go_sem]) hb, box_at (by rw [hW]; simp [go_sem]) hb, box_at (by rw [hW]; simp [go_sem]) hb, box_at (by rw [hW]; simp [go_sem]) hb⟩
  have hsW : W.heap.size = w.heap.size + 2 := by rw [hW]; simp
  have Hd := Lib.hid ((kS rBoard).rd_below h1 HWB.out); clear h1
  have F_d_keys := Lib.hid (sInts.rd_below kd_0 HWB.out)
  have F_d_entries := Lib.hid ((kR 115 rEntry).rd_below kd_1 HWB.out)
  clear kd_0 kd_1
  have HW := Lib.hid hW; clear hW
  have HHW : Hid (RdR rHead W (.slice a2 n2 c2) hs) := HH.out.below HWB.out
  go_enter Tryz.func17, Tryz.ntmps17
  go_wp2_with fail
  rw [← HW.out]
  have hcum : Below W.heap.size W W := Below.refl _ _
  obtain ⟨p0_0, p0_1, p0_2, p1_0, p1_1⟩ := FX.out _ hcum
  refine (spec_l2Good gr _).mono ?_
  rintro e w0 ⟨rfl, hb0⟩
  rw [H0.out]
  (replace hcum := hcum.trans (hb0.mono hcum.size)); clear hb0; clear p0_0 p0_1 p0_2 p1_0 p1_1; obtain ⟨p0_0, p0_1, p0_2, p1_0, p1_1⟩ := FX.out _ hcum
  cases q0 with
  | false =>
    have HR := Lib.hid (fwI_no HFQ.out)
    go_wp2_with fail
    go_ret2
    exact ⟨ret_int_bool (by first | (rw [HR.out]; done) | (rw [HR.out]; rfl) | exact HR.out.symm) rfl, Below.next HWB.out hcum⟩
  | true =>
    have HG := Lib.hid (goodG_ok H0.out)
    have HC0 := Lib.hid hcum
    go_wp2_with fail
    refine (spec_oBoard gr d _ _ HG.out ((kS rBoard).rd_below Hd.out HC0.out)).mono ?_
    rintro e w1 ⟨rfl, hb1⟩
    rw [H1.out]
    (replace hcum := hcum.trans (hb1.mono hcum.size)); clear hb1; clear p0_0 p0_1 p0_2 p1_0 p1_1; obtain ⟨p0_0, p0_1, p0_2, p1_0, p1_1⟩ := FX.out _ hcum
    cases q1 with
    | false =>
      have HR := Lib.hid (fwI_no HFQ.out)
      go_wp2_with fail
      go_ret2
      exact ⟨ret_int_bool (by first | (rw [HR.out]; done) | (rw [HR.out]; rfl) | exact HR.out.symm) rfl, Below.next HWB.out hcum⟩
    | true =>
      have HBD := H1
      have HC1 := Lib.hid hcum
      go_wp2_with fail
      refine (spec_fHeads _ hs _ (HHW.out.below HC1.out)).mono ?_
      rintro e w2 ⟨rfl, hb2⟩
      rw [H2.out]
      (replace hcum := hcum.trans (hb2.mono hcum.size)); clear hb2; clear p0_0 p0_1 p0_2 p1_0 p1_1; obtain ⟨p0_0, p0_1, p0_2, p1_0, p1_1⟩ := FX.out _ hcum
      cases q2 with
      | false =>
        have HR := Lib.hid (fwI_no HFQ.out)
        go_wp2_with fail
        go_ret2
        exact ⟨ret_int_bool (by first | (rw [HR.out]; done) | (rw [HR.out]; rfl) | exact HR.out.symm) rfl, Below.next HWB.out hcum⟩
      | true =>
        have HFB : Hid (fwB gr d hs = true) := HFQ.out
        have HHB := H2
        have hn20 := HN20.out HHB.out
        have HRI := Lib.hid (fwI_yes HFB.out)
        have HC := Lib.hid hcum
        clear hcum
        go_wp2_with fail
        go_loopg [26] n2 (fun g i wr => ∃ k : Nat, k + g = n2 ∧ i = .int .i64 k ∧ Hid (∀ j (hj : j < hs.length), j < k → fitsB gr d (hs[j]'hj) = true) ∧ Below W.heap.size W wr)
        case atStart => exact ⟨0, by omega, rfl, (fun j hj h => by omega), HC.out⟩
        case round =>
          obtain ⟨k, hkg, rfl, HF, hb⟩ := hrel
          clear p0_0 p0_1 p0_2 p1_0 p1_1
          obtain ⟨p0_0, p0_1, p0_2, p1_0, p1_1⟩ := FX.out _ hb
          by_cases hlt : k < n2
          · have HK : Hid (k < hs.length) := by unfold Hid; rw [HE.out]; exact hlt
            obtain ⟨q4, h4⟩ : ∃ b, fitsB gr d (hs[k]'HK.out) = b := ⟨_, rfl⟩
            have H4 := Lib.hid h4; clear h4
            have HRN : Hid (q4 = false → fwN gr d hs = k) := fun e => fwN_at HK.out (H4.out.trans e) HF.out
            have HFK : Hid (q4 = true → ∀ j (hj : j < hs.length), j < k + 1 → fitsB gr d (hs[j]'hj) = true) := fun e j hj hjk => by
              rcases Nat.lt_succ_iff_lt_or_eq.1 hjk with h | rfl
              · exact HF.out j hj h
              · exact H4.out.trans e
            obtain ⟨b_h, o_h, rfl, hcx⟩ := HHW.out.at_ (by omega)
            obtain ⟨us, hcell, hrd⟩ := hcx k HK.out
            clear hcx
            generalize hs[k]'HK.out = h at hrd H4
            obtain ⟨ah_3, nh_3, ch_3, ah_4, nh_4, ch_4, ah_5, nh_5, ch_5, ers, jh_0, jh_1, jh_2, kh_3, kh_4, kh_5⟩ := rdHead.1 ⟨us, rfl, hrd⟩
            obtain rfl : us = [.int .i64 h.author, .int .i64 h.size, .int .i64 h.root, .slice ah_3 nh_3 ch_3, .slice ah_4 nh_4 ch_4, .slice ah_5 nh_5 ch_5] := by have h := Value.agg.inj ers; simpa using congrArg Array.toList h
            clear ers hrd
            have y_h_0 : wr.cell? ⟨b_h, o_h + k * 6, none⟩ = some (.int .i64 h.author) := box_at (hcell 0 (by decide)) hb
            have y_h_1 : wr.cell? ⟨b_h, o_h + k * 6 + 1, none⟩ = some (.int .i64 h.size) := box_at (hcell 1 (by decide)) hb
            have y_h_2 : wr.cell? ⟨b_h, o_h + k * 6 + 2, none⟩ = some (.int .i64 h.root) := box_at (hcell 2 (by decide)) hb
            have y_h_3 : wr.cell? ⟨b_h, o_h + k * 6 + 3, none⟩ = some (.slice ah_3 nh_3 ch_3) := box_at (hcell 3 (by decide)) hb
            have y_h_4 : wr.cell? ⟨b_h, o_h + k * 6 + 4, none⟩ = some (.slice ah_4 nh_4 ch_4) := box_at (hcell 4 (by decide)) hb
            have y_h_5 : wr.cell? ⟨b_h, o_h + k * 6 + 5, none⟩ = some (.slice ah_5 nh_5 ch_5) := box_at (hcell 5 (by decide)) hb
            clear hcell
            have HR_h := Lib.hid ((kS rHead).rd_below (rdHead.2 ⟨_, _, _, _, _, _, _, _, _, rfl, jh_0, jh_1, jh_2, kh_3, kh_4, kh_5⟩ : (kS rHead).rd W (.agg #[.int .i64 h.author, .int .i64 h.size, .int .i64 h.root, .slice ah_3 nh_3 ch_3, .slice ah_4 nh_4 ch_4, .slice ah_5 nh_5 ch_5]) h) hb)
            have F_h_sign := Lib.hid ((kS rProof).rd_below (rdProof.2 ⟨_, _, _, _, _, _, _, _, _, rfl, kh_3, kh_4, kh_5⟩ : (kS rProof).rd W (.agg #[.slice ah_3 nh_3 ch_3, .slice ah_4 nh_4 ch_4, .slice ah_5 nh_5 ch_5]) h.sign) hb)
            have J_h_0 := Lib.hid jh_0
            have J_h_1 := Lib.hid jh_1
            have J_h_2 := Lib.hid jh_2
            clear jh_0 jh_1 jh_2 kh_3 kh_4 kh_5
            have hwk : IntKind.i64.wrap ((k : Int) + 1) = (k : Int) + 1 := IntWalk.i64_in _ (by omega)
            have zl0 : w.heap.size < wr.heap.size := World.block_lt_of_cell? _ _ p0_0
            have zl1 : w.heap.size + 1 < wr.heap.size := World.block_lt_of_cell? _ _ p1_0
            go_wp2_with fail
            clear zl0 zl1
            obtain ⟨V, hV⟩ : ∃ V, V = wr.alloc (.cells #[.int .i64 h.author, .int .i64 h.size, .int .i64 h.root, .slice ah_3 nh_3 ch_3, .slice ah_4 nh_4 ch_4, .slice ah_5 nh_5 ch_5] 44) := ⟨_, rfl⟩
            rw [← hV]
            have HV : Hid (Below wr.heap.size wr V) := by unfold Hid; rw [hV]; exact (Below.refl _ _).alloc (Nat.le_refl _) _
            have hsV : V.heap.size = wr.heap.size + 1 := by rw [hV]; simp
            have x_h_0 : V.cell? ⟨wr.heap.size, 0, none⟩ = some (.int .i64 h.author) := by rw [hV]; simp [go_sem]
            have x_h_1 : V.cell? ⟨wr.heap.size, 1, none⟩ = some (.int .i64 h.size) := by rw [hV]; simp [go_sem]
            have x_h_2 : V.cell? ⟨wr.heap.size, 2, none⟩ = some (.int .i64 h.root) := by rw [hV]; simp [go_sem]
            have x_h_3 : V.cell? ⟨wr.heap.size, 3, none⟩ = some (.slice ah_3 nh_3 ch_3) := by rw [hV]; simp [go_sem]
            have x_h_4 : V.cell? ⟨wr.heap.size, 4, none⟩ = some (.slice ah_4 nh_4 ch_4) := by rw [hV]; simp [go_sem]
            have x_h_5 : V.cell? ⟨wr.heap.size, 5, none⟩ = some (.slice ah_5 nh_5 ch_5) := by rw [hV]; simp [go_sem]
            have HRV_h := Lib.hid ((kS rHead).rd_below HR_h.out HV.out)
            clear hV
            have HBV := Lib.hid (Below.next hb HV.out)
            replace p0_0 := box_at p0_0 HV.out
            replace p0_1 := box_at p0_1 HV.out
            replace p0_2 := box_at p0_2 HV.out
            replace p1_0 := box_at p1_0 HV.out
            replace p1_1 := box_at p1_1 HV.out
            clear hb
            refine (spec_oChecks gr _ d _ h _ HG.out HBD.out ((kS rBoard).rd_below Hd.out HBV.out) HRV_h.out).mono ?_
            rintro e w2 ⟨rfl, hb2⟩
            rw [H4.out]
            have HB2 := Lib.hid (Below.next HBV.out hb2)
            clear hb2
            cases q4 with
            | false =>
              have HRK := HRN.out rfl
              have HRE : Hid (fwI gr d hs = (k : Int)) := by unfold Hid; rw [HRI.out, HRK]
              clear HRK
              go_wp2_with fail
              go_ret2
              exact ⟨ret_int_bool (by first | (rw [HRE.out]; done) | (rw [HRE.out]; rfl) | exact HRE.out.symm) rfl, Below.next HWB.out HB2.out⟩
            | true =>
              have HFN := Lib.hid (HFK.out rfl)
              go_wp2_with fail
              go_roundg (n2 - (k + 1))
              case measure => omega
              case rel => exact ⟨k + 1, by omega, by go_num, HFN.out, HB2.out⟩
          · obtain rfl : n2 = k := by omega
            have HRE : Hid (fwI gr d hs = (n2 : Int)) := by
              unfold Hid; rw [HRI.out, fwN_all (fun j hj => HF.out j hj (by have := HE.out; omega)), HE.out]
            go_wp2_with fail
            go_ret2
            exact ⟨ret_int_bool (by first | (rw [HRE.out]; done) | (rw [HRE.out]; rfl) | exact HRE.out.symm) rfl, Below.next HWB.out hb⟩
end Go.Proofs.YtodennbdfloccaaGreat

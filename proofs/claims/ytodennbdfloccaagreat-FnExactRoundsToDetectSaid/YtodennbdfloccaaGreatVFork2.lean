/- Walks: evidence of a fork, the reference's. -/
import Derived.Test.YtodennbdfloccaaGreatVFork
namespace Go.Proofs.YtodennbdfloccaaGreat
open Go.RowKit
set_option linter.unusedSimpArgs false
set_option linter.unusedVariables false

theorem bne_of {x y : Int} {q : Bool} (h : (x == y) = q) : (x != y) = !q := by rw [bne, h]
theorem beq_of {x y : Int} {q : Bool} (h : (x != y) = q) : (x == y) = !q := by rw [← h, bne, Bool.not_not]
set_option maxRecDepth 100000 in
set_option maxHeartbeats 16000000 in
theorem spec_fEvidence_no (gr : GroupD) (keys : List Int) (vk ve : Value) (d : ForkEvidenceD) (w : World) (hk : Ints w vk keys) (h : (kS rForkEvidence).rd w ve d)
    (hno : ((d.first.author == d.second.author) && ((d.first.size == d.second.size) && ((d.first.root != d.second.root) && decide (0 ≤ d.first.author ∧ d.first.author ≤ (keys.length : Int) - 1)))) = false) :
    Calls Tryz.prog 87 #[.agg #[.int .i64 gr.p, .int .i64 gr.q, .int .i64 gr.g], vk, ve] w fun e w' => e = .returned (.bool false) ∧ Below w.heap.size w w' := by
  obtain ⟨ak, n, c, rfl⟩ := hk.shape
  have e := hk.len
  obtain ⟨k1, k2⟩ := hk.capMax
  unfold maxLen at k2
  rw [e] at hno
  have hwr : IntKind.i64.wrap ((n : Int) - 1) = (n : Int) - 1 := IntWalk.i64_in _ (by omega)
  clear hk e
  (obtain ⟨q1, h_q⟩ : ∃ b_q, (d.first.author == d.second.author) = b_q := ⟨_, rfl⟩); have H1 := Lib.hid h_q; clear h_q
  (obtain ⟨q2, h_q⟩ : ∃ b_q, (d.first.size == d.second.size) = b_q := ⟨_, rfl⟩); have H2 := Lib.hid h_q; clear h_q
  (obtain ⟨q3, h_q⟩ : ∃ b_q, (d.first.root != d.second.root) = b_q := ⟨_, rfl⟩); have H3 := Lib.hid h_q; clear h_q
  (obtain ⟨q4, h_q⟩ : ∃ b_q, decide (0 ≤ d.first.author ∧ d.first.author ≤ (n : Int) - 1) = b_q := ⟨_, rfl⟩); have H4 := Lib.hid h_q; clear h_q
  rw [H1.out, H2.out, H3.out, H4.out] at hno
  obtain ⟨ad_3, nd_3, cd_3, ad_4, nd_4, cd_4, ad_5, nd_5, cd_5, ad_9, nd_9, cd_9, ad_10, nd_10, cd_10, ad_11, nd_11, cd_11, rfl, jd_0, jd_1, jd_2, jd_6, jd_7, jd_8, kd_3, kd_4, kd_5, kd_9, kd_10, kd_11⟩ := rdForkEvidence.1 h
  obtain ⟨W, hW⟩ : ∃ W, W = ((w.alloc (.cells #[.int .i64 gr.p, .int .i64 gr.q, .int .i64 gr.g] 36)).alloc (.cells #[.int .i64 d.first.author, .int .i64 d.first.size, .int .i64 d.first.root, .slice ad_3 nd_3 cd_3, .slice ad_4 nd_4 cd_4, .slice ad_5 nd_5 cd_5, .int .i64 d.second.author, .int .i64 d.second.size, .int .i64 d.second.root, .slice ad_9 nd_9 cd_9, .slice ad_10 nd_10 cd_10, .slice ad_11 nd_11 cd_11] 58)) := ⟨_, rfl⟩
  have HWB : Hid (Below w.heap.size w W) := by unfold Hid; rw [hW]; (repeat (first | exact Below.refl _ _ | assumption | refine Below.drew ?_ | refine Below.alloc ?_ (by first | (simp; done) | (simp; omega)) _ | refine Below.setCell ?_ (by first | (simp; done) | (simp; omega)) _))
  have FX : Hid (∀ W', Below W.heap.size W W' → W'.cell? ⟨w.heap.size, 0, none⟩ = some (.int .i64 gr.p) ∧ W'.cell? ⟨w.heap.size, 1, none⟩ = some (.int .i64 gr.q) ∧ W'.cell? ⟨w.heap.size, 2, none⟩ = some (.int .i64 gr.g) ∧ W'.cell? ⟨w.heap.size + 1, 0, none⟩ = some (.int .i64 d.first.author) ∧ W'.cell? ⟨w.heap.size + 1, 1, none⟩ = some (.int .i64 d.first.size) ∧ W'.cell? ⟨w.heap.size + 1, 2, none⟩ = some (.int .i64 d.first.root) ∧ W'.cell? ⟨w.heap.size + 1, 3, none⟩ = some (.slice ad_3 nd_3 cd_3) ∧ W'.cell? ⟨w.heap.size + 1, 4, none⟩ = some (.slice ad_4 nd_4 cd_4) ∧ W'.cell? ⟨w.heap.size + 1, 5, none⟩ = some (.slice ad_5 nd_5 cd_5) ∧ W'.cell? ⟨w.heap.size + 1, 6, none⟩ = some (.int .i64 d.second.author) ∧ W'.cell? ⟨w.heap.size + 1, 7, none⟩ = some (.int .i64 d.second.size) ∧ W'.cell? ⟨w.heap.size + 1, 8, none⟩ = some (.int .i64 d.second.root) ∧ W'.cell? ⟨w.heap.size + 1, 9, none⟩ = some (.slice ad_9 nd_9 cd_9) ∧ W'.cell? ⟨w.heap.size + 1, 10, none⟩ = some (.slice ad_10 nd_10 cd_10) ∧ W'.cell? ⟨w.heap.size + 1, 11, none⟩ = some (.slice ad_11 nd_11 cd_11)) := fun W' hb => by
    exact ⟨box_at (by rw [hW]; simp [go_sem]) hb, box_at (by rw [hW]; simp [go_sem]) hb, box_at (by rw [hW]; simp [go_sem]) hb, box_at (by rw [hW]; simp [go_sem]) hb, box_at (by rw [hW]; simp [go_sem]) hb, box_at (by rw [hW]; simp [go_sem]) hb, box_at (by rw [hW]; simp [go_sem]) hb, box_at (by rw [hW]; simp [go_sem]) hb, box_at (by rw [hW]; simp [go_sem]) hb, box_at (by rw [hW]; simp [go_sem]) hb, box_at (by rw [hW]; simp [go_sem]) hb, box_at (by rw [hW]; simp [go_sem]) hb, box_at (by rw [hW]; simp [go_sem]) hb, box_at (by rw [hW]; simp [go_sem]) hb, box_at (by rw [hW]; simp [go_sem]) hb⟩
  have hsW : W.heap.size = w.heap.size + 2 := by rw [hW]; simp
  have Hd := Lib.hid ((kS rForkEvidence).rd_below h HWB.out); clear h
  have Jd_0 := Lib.hid jd_0; clear jd_0
  have Jd_1 := Lib.hid jd_1; clear jd_1
  have Jd_2 := Lib.hid jd_2; clear jd_2
  have Jd_6 := Lib.hid jd_6; clear jd_6
  have Jd_7 := Lib.hid jd_7; clear jd_7
  have Jd_8 := Lib.hid jd_8; clear jd_8
  have F_d_first := Lib.hid ((kS rHead).rd_below (w := w) (rdHead.2 ⟨_, _, _, _, _, _, _, _, _, rfl, Jd_0.out, Jd_1.out, Jd_2.out, kd_3, kd_4, kd_5⟩ : (kS rHead).rd w (.agg #[.int .i64 d.first.author, .int .i64 d.first.size, .int .i64 d.first.root, .slice ad_3 nd_3 cd_3, .slice ad_4 nd_4 cd_4, .slice ad_5 nd_5 cd_5]) d.first) HWB.out)
  have F_d_second := Lib.hid ((kS rHead).rd_below (w := w) (rdHead.2 ⟨_, _, _, _, _, _, _, _, _, rfl, Jd_6.out, Jd_7.out, Jd_8.out, kd_9, kd_10, kd_11⟩ : (kS rHead).rd w (.agg #[.int .i64 d.second.author, .int .i64 d.second.size, .int .i64 d.second.root, .slice ad_9 nd_9 cd_9, .slice ad_10 nd_10 cd_10, .slice ad_11 nd_11 cd_11]) d.second) HWB.out)
  clear kd_3 kd_4 kd_5 kd_9 kd_10 kd_11
  have HW := Lib.hid hW; clear hW
  go_enter Tryz.func87, Tryz.ntmps87
  go_wp2_with fail
  rw [← HW.out]
  have hcum : Below W.heap.size W W := Below.refl _ _
  obtain ⟨p0_0, p0_1, p0_2, p1_0, p1_1, p1_2, p1_3, p1_4, p1_5, p1_6, p1_7, p1_8, p1_9, p1_10, p1_11⟩ := FX.out _ hcum
  go_region
  · obtain ⟨V, hV⟩ : ∃ V, V = ((W.alloc (.cells #[.int .i64 d.first.author, .int .i64 d.first.size, .int .i64 d.first.root, .slice ad_3 nd_3 cd_3, .slice ad_4 nd_4 cd_4, .slice ad_5 nd_5 cd_5] 44)).alloc (.cells #[.int .i64 d.second.author, .int .i64 d.second.size, .int .i64 d.second.root, .slice ad_9 nd_9 cd_9, .slice ad_10 nd_10 cd_10, .slice ad_11 nd_11 cd_11] 44)).drew := ⟨_, rfl⟩
    rw [← hV]
    have HWV : Hid (Below W.heap.size W V) := by unfold Hid; rw [hV]; (repeat (first | exact Below.refl _ _ | assumption | refine Below.drew ?_ | refine Below.alloc ?_ (by first | (simp; done) | (simp; omega)) _ | refine Below.setCell ?_ (by first | (simp; done) | (simp; omega)) _))
    have fa0 : V.cell? ⟨w.heap.size + 2, 0, none⟩ = some (.int .i64 d.first.author) := by rw [hV, ← hsW]; simp [go_sem]
    have fa1 : V.cell? ⟨w.heap.size + 2, 1, none⟩ = some (.int .i64 d.first.size) := by rw [hV, ← hsW]; simp [go_sem]
    have fa2 : V.cell? ⟨w.heap.size + 2, 2, none⟩ = some (.int .i64 d.first.root) := by rw [hV, ← hsW]; simp [go_sem]
    have fa3 : V.cell? ⟨w.heap.size + 2, 3, none⟩ = some (.slice ad_3 nd_3 cd_3) := by rw [hV, ← hsW]; simp [go_sem]
    have fa4 : V.cell? ⟨w.heap.size + 2, 4, none⟩ = some (.slice ad_4 nd_4 cd_4) := by rw [hV, ← hsW]; simp [go_sem]
    have fa5 : V.cell? ⟨w.heap.size + 2, 5, none⟩ = some (.slice ad_5 nd_5 cd_5) := by rw [hV, ← hsW]; simp [go_sem]
    have fb0 : V.cell? ⟨w.heap.size + 2 + 1, 0, none⟩ = some (.int .i64 d.second.author) := by rw [hV, ← hsW]; simp [go_sem]
    have fb1 : V.cell? ⟨w.heap.size + 2 + 1, 1, none⟩ = some (.int .i64 d.second.size) := by rw [hV, ← hsW]; simp [go_sem]
    have fb2 : V.cell? ⟨w.heap.size + 2 + 1, 2, none⟩ = some (.int .i64 d.second.root) := by rw [hV, ← hsW]; simp [go_sem]
    have fb3 : V.cell? ⟨w.heap.size + 2 + 1, 3, none⟩ = some (.slice ad_9 nd_9 cd_9) := by rw [hV, ← hsW]; simp [go_sem]
    have fb4 : V.cell? ⟨w.heap.size + 2 + 1, 4, none⟩ = some (.slice ad_10 nd_10 cd_10) := by rw [hV, ← hsW]; simp [go_sem]
    have fb5 : V.cell? ⟨w.heap.size + 2 + 1, 5, none⟩ = some (.slice ad_11 nd_11 cd_11) := by rw [hV, ← hsW]; simp [go_sem]
    have gg0 := box_at p0_0 HWV.out
    have gg1 := box_at p0_1 HWV.out
    have gg2 := box_at p0_2 HWV.out
    have Ha := Lib.hid ((kS rHead).rd_below F_d_first.out HWV.out)
    have Hb := Lib.hid ((kS rHead).rd_below F_d_second.out HWV.out)
    clear hV p0_0 p0_1 p0_2 p1_0 p1_1 p1_2 p1_3 p1_4 p1_5 p1_6 p1_7 p1_8 p1_9 p1_10 p1_11
    rcases ch4 q1 q2 q3 q4 with rfl | ⟨rfl, rfl⟩ | ⟨rfl, rfl, rfl⟩ | ⟨rfl, rfl, rfl, rfl⟩ | ⟨rfl, rfl, rfl, rfl⟩
    rotate_right
    · exact absurd hno (by simp)
    all_goals
      clear hno
      have e1 := bne_of H1.out
      have e2 := bne_of H2.out
      have e3 := beq_of H3.out
      go_wp2_with (first | (go_at_call 61; refine (spec_l1In _ _ _ _).mono ?_; rintro e wz ⟨rfl, rfl⟩; rw [H4.out]) | fail)
      go_ret
      exact ⟨rfl, Below.next HWB.out HWV.out⟩
  · obtain ⟨V, hV⟩ : ∃ V, V = ((W.alloc (.cells #[.int .i64 d.second.author, .int .i64 d.second.size, .int .i64 d.second.root, .slice ad_9 nd_9 cd_9, .slice ad_10 nd_10 cd_10, .slice ad_11 nd_11 cd_11] 44)).alloc (.cells #[.int .i64 d.first.author, .int .i64 d.first.size, .int .i64 d.first.root, .slice ad_3 nd_3 cd_3, .slice ad_4 nd_4 cd_4, .slice ad_5 nd_5 cd_5] 44)).drew := ⟨_, rfl⟩
    rw [← hV]
    have HWV : Hid (Below W.heap.size W V) := by unfold Hid; rw [hV]; (repeat (first | exact Below.refl _ _ | assumption | refine Below.drew ?_ | refine Below.alloc ?_ (by first | (simp; done) | (simp; omega)) _ | refine Below.setCell ?_ (by first | (simp; done) | (simp; omega)) _))
    have fa0 : V.cell? ⟨w.heap.size + 2 + 1, 0, none⟩ = some (.int .i64 d.first.author) := by rw [hV, ← hsW]; simp [go_sem]
    have fa1 : V.cell? ⟨w.heap.size + 2 + 1, 1, none⟩ = some (.int .i64 d.first.size) := by rw [hV, ← hsW]; simp [go_sem]
    have fa2 : V.cell? ⟨w.heap.size + 2 + 1, 2, none⟩ = some (.int .i64 d.first.root) := by rw [hV, ← hsW]; simp [go_sem]
    have fa3 : V.cell? ⟨w.heap.size + 2 + 1, 3, none⟩ = some (.slice ad_3 nd_3 cd_3) := by rw [hV, ← hsW]; simp [go_sem]
    have fa4 : V.cell? ⟨w.heap.size + 2 + 1, 4, none⟩ = some (.slice ad_4 nd_4 cd_4) := by rw [hV, ← hsW]; simp [go_sem]
    have fa5 : V.cell? ⟨w.heap.size + 2 + 1, 5, none⟩ = some (.slice ad_5 nd_5 cd_5) := by rw [hV, ← hsW]; simp [go_sem]
    have fb0 : V.cell? ⟨w.heap.size + 2, 0, none⟩ = some (.int .i64 d.second.author) := by rw [hV, ← hsW]; simp [go_sem]
    have fb1 : V.cell? ⟨w.heap.size + 2, 1, none⟩ = some (.int .i64 d.second.size) := by rw [hV, ← hsW]; simp [go_sem]
    have fb2 : V.cell? ⟨w.heap.size + 2, 2, none⟩ = some (.int .i64 d.second.root) := by rw [hV, ← hsW]; simp [go_sem]
    have fb3 : V.cell? ⟨w.heap.size + 2, 3, none⟩ = some (.slice ad_9 nd_9 cd_9) := by rw [hV, ← hsW]; simp [go_sem]
    have fb4 : V.cell? ⟨w.heap.size + 2, 4, none⟩ = some (.slice ad_10 nd_10 cd_10) := by rw [hV, ← hsW]; simp [go_sem]
    have fb5 : V.cell? ⟨w.heap.size + 2, 5, none⟩ = some (.slice ad_11 nd_11 cd_11) := by rw [hV, ← hsW]; simp [go_sem]
    have gg0 := box_at p0_0 HWV.out
    have gg1 := box_at p0_1 HWV.out
    have gg2 := box_at p0_2 HWV.out
    have Ha := Lib.hid ((kS rHead).rd_below F_d_first.out HWV.out)
    have Hb := Lib.hid ((kS rHead).rd_below F_d_second.out HWV.out)
    clear hV p0_0 p0_1 p0_2 p1_0 p1_1 p1_2 p1_3 p1_4 p1_5 p1_6 p1_7 p1_8 p1_9 p1_10 p1_11
    rcases ch4 q1 q2 q3 q4 with rfl | ⟨rfl, rfl⟩ | ⟨rfl, rfl, rfl⟩ | ⟨rfl, rfl, rfl, rfl⟩ | ⟨rfl, rfl, rfl, rfl⟩
    rotate_right
    · exact absurd hno (by simp)
    all_goals
      clear hno
      have e1 := bne_of H1.out
      have e2 := bne_of H2.out
      have e3 := beq_of H3.out
      go_wp2_with (first | (go_at_call 61; refine (spec_l1In _ _ _ _).mono ?_; rintro e wz ⟨rfl, rfl⟩; rw [H4.out]) | fail)
      go_ret
      exact ⟨rfl, Below.next HWB.out HWV.out⟩
set_option maxRecDepth 100000 in
set_option maxHeartbeats 16000000 in
theorem spec_fEvidence_yes (gr : GroupD) (keys : List Int) (vk ve : Value) (d : ForkEvidenceD) (w : World) (hg : OkG gr) (hkk : keysB gr keys = true) (hk : Ints w vk keys) (h : (kS rForkEvidence).rd w ve d)
    (h1 : (d.first.author == d.second.author) = true) (h2 : (d.first.size == d.second.size) = true) (h3 : (d.first.root != d.second.root) = true) (h4 : 0 ≤ d.first.author ∧ d.first.author ≤ (keys.length : Int) - 1) :
    Calls Tryz.prog 87 #[.agg #[.int .i64 gr.p, .int .i64 gr.q, .int .i64 gr.g], vk, ve] w fun e w' => e = .returned (.bool (isHeadB gr (nth keys d.first.author.toNat) d.first && isHeadB gr (nth keys d.first.author.toNat) d.second)) ∧ Below w.heap.size w w' := by
  have HG := Lib.hid hg; clear hg
  obtain ⟨ak, n, c, rfl⟩ := hk.shape
  have e := hk.len
  obtain ⟨k1, k2⟩ := hk.capMax
  unfold maxLen at k2
  have HKE := Lib.hid (keysB_at hkk (k := d.first.author.toNat) (by omega))
  rw [e] at h4
  have hwr : IntKind.i64.wrap ((n : Int) - 1) = (n : Int) - 1 := IntWalk.i64_in _ (by omega)
  have H4 : Hid (decide (0 ≤ d.first.author ∧ d.first.author ≤ (n : Int) - 1) = true) := decide_eq_true h4
  obtain ⟨z0, z1'⟩ := h4
  have z1 : d.first.author < (n : Int) := by omega
  obtain ⟨bk, ok, rfl, hcx⟩ := hk.at_ (by omega)
  have hy := hcx d.first.author.toNat (by omega)
  have hab : d.first.author = d.second.author := by simpa using h1
  have hy2 := hcx d.second.author.toNat (by omega)
  have z2 : 0 ≤ d.second.author := by omega
  have z3 : d.second.author < (n : Int) := by omega
  rw [show nth keys d.second.author.toNat = nth keys d.first.author.toNat by rw [hab]] at hy2
  have H1 := Lib.hid h1; have H2 := Lib.hid h2; have H3 := Lib.hid h3
  clear hk hkk e h1 h2 h3 z1' hcx hab
  generalize nth keys d.first.author.toNat = ky at hy hy2 HKE ⊢
  (obtain ⟨q7, h_q⟩ : ∃ b_q, isHeadB gr ky d.first = b_q := ⟨_, rfl⟩); have H7 := Lib.hid h_q; clear h_q
  (obtain ⟨q8, h_q⟩ : ∃ b_q, isHeadB gr ky d.second = b_q := ⟨_, rfl⟩); have H8 := Lib.hid h_q; clear h_q
  rw [H7.out, H8.out]
  obtain ⟨ad_3, nd_3, cd_3, ad_4, nd_4, cd_4, ad_5, nd_5, cd_5, ad_9, nd_9, cd_9, ad_10, nd_10, cd_10, ad_11, nd_11, cd_11, rfl, jd_0, jd_1, jd_2, jd_6, jd_7, jd_8, kd_3, kd_4, kd_5, kd_9, kd_10, kd_11⟩ := rdForkEvidence.1 h
  obtain ⟨W, hW⟩ : ∃ W, W = ((w.alloc (.cells #[.int .i64 gr.p, .int .i64 gr.q, .int .i64 gr.g] 36)).alloc (.cells #[.int .i64 d.first.author, .int .i64 d.first.size, .int .i64 d.first.root, .slice ad_3 nd_3 cd_3, .slice ad_4 nd_4 cd_4, .slice ad_5 nd_5 cd_5, .int .i64 d.second.author, .int .i64 d.second.size, .int .i64 d.second.root, .slice ad_9 nd_9 cd_9, .slice ad_10 nd_10 cd_10, .slice ad_11 nd_11 cd_11] 58)) := ⟨_, rfl⟩
  have HWB : Hid (Below w.heap.size w W) := by unfold Hid; rw [hW]; (repeat (first | exact Below.refl _ _ | assumption | refine Below.drew ?_ | refine Below.alloc ?_ (by first | (simp; done) | (simp; omega)) _ | refine Below.setCell ?_ (by first | (simp; done) | (simp; omega)) _))
  have FX : Hid (∀ W', Below W.heap.size W W' → W'.cell? ⟨w.heap.size, 0, none⟩ = some (.int .i64 gr.p) ∧ W'.cell? ⟨w.heap.size, 1, none⟩ = some (.int .i64 gr.q) ∧ W'.cell? ⟨w.heap.size, 2, none⟩ = some (.int .i64 gr.g) ∧ W'.cell? ⟨w.heap.size + 1, 0, none⟩ = some (.int .i64 d.first.author) ∧ W'.cell? ⟨w.heap.size + 1, 1, none⟩ = some (.int .i64 d.first.size) ∧ W'.cell? ⟨w.heap.size + 1, 2, none⟩ = some (.int .i64 d.first.root) ∧ W'.cell? ⟨w.heap.size + 1, 3, none⟩ = some (.slice ad_3 nd_3 cd_3) ∧ W'.cell? ⟨w.heap.size + 1, 4, none⟩ = some (.slice ad_4 nd_4 cd_4) ∧ W'.cell? ⟨w.heap.size + 1, 5, none⟩ = some (.slice ad_5 nd_5 cd_5) ∧ W'.cell? ⟨w.heap.size + 1, 6, none⟩ = some (.int .i64 d.second.author) ∧ W'.cell? ⟨w.heap.size + 1, 7, none⟩ = some (.int .i64 d.second.size) ∧ W'.cell? ⟨w.heap.size + 1, 8, none⟩ = some (.int .i64 d.second.root) ∧ W'.cell? ⟨w.heap.size + 1, 9, none⟩ = some (.slice ad_9 nd_9 cd_9) ∧ W'.cell? ⟨w.heap.size + 1, 10, none⟩ = some (.slice ad_10 nd_10 cd_10) ∧ W'.cell? ⟨w.heap.size + 1, 11, none⟩ = some (.slice ad_11 nd_11 cd_11)) := fun W' hb => by
    exact ⟨box_at (by rw [hW]; simp [go_sem]) hb, box_at (by rw [hW]; simp [go_sem]) hb, box_at (by rw [hW]; simp [go_sem]) hb, box_at (by rw [hW]; simp [go_sem]) hb, box_at (by rw [hW]; simp [go_sem]) hb, box_at (by rw [hW]; simp [go_sem]) hb, box_at (by rw [hW]; simp [go_sem]) hb, box_at (by rw [hW]; simp [go_sem]) hb, box_at (by rw [hW]; simp [go_sem]) hb, box_at (by rw [hW]; simp [go_sem]) hb, box_at (by rw [hW]; simp [go_sem]) hb, box_at (by rw [hW]; simp [go_sem]) hb, box_at (by rw [hW]; simp [go_sem]) hb, box_at (by rw [hW]; simp [go_sem]) hb, box_at (by rw [hW]; simp [go_sem]) hb⟩
  have hsW : W.heap.size = w.heap.size + 2 := by rw [hW]; simp
  have Hd := Lib.hid ((kS rForkEvidence).rd_below h HWB.out); clear h
  have Jd_0 := Lib.hid jd_0; clear jd_0
  have Jd_1 := Lib.hid jd_1; clear jd_1
  have Jd_2 := Lib.hid jd_2; clear jd_2
  have Jd_6 := Lib.hid jd_6; clear jd_6
  have Jd_7 := Lib.hid jd_7; clear jd_7
  have Jd_8 := Lib.hid jd_8; clear jd_8
  have F_d_first := Lib.hid ((kS rHead).rd_below (w := w) (rdHead.2 ⟨_, _, _, _, _, _, _, _, _, rfl, Jd_0.out, Jd_1.out, Jd_2.out, kd_3, kd_4, kd_5⟩ : (kS rHead).rd w (.agg #[.int .i64 d.first.author, .int .i64 d.first.size, .int .i64 d.first.root, .slice ad_3 nd_3 cd_3, .slice ad_4 nd_4 cd_4, .slice ad_5 nd_5 cd_5]) d.first) HWB.out)
  have F_d_second := Lib.hid ((kS rHead).rd_below (w := w) (rdHead.2 ⟨_, _, _, _, _, _, _, _, _, rfl, Jd_6.out, Jd_7.out, Jd_8.out, kd_9, kd_10, kd_11⟩ : (kS rHead).rd w (.agg #[.int .i64 d.second.author, .int .i64 d.second.size, .int .i64 d.second.root, .slice ad_9 nd_9 cd_9, .slice ad_10 nd_10 cd_10, .slice ad_11 nd_11 cd_11]) d.second) HWB.out)
  clear kd_3 kd_4 kd_5 kd_9 kd_10 kd_11
  have HW := Lib.hid hW; clear hW
  have hyW := box_at hy HWB.out
  have hyW2 := box_at hy2 HWB.out
  clear hy hy2
  go_enter Tryz.func87, Tryz.ntmps87
  go_wp2_with fail
  rw [← HW.out]
  have hcum : Below W.heap.size W W := Below.refl _ _
  obtain ⟨p0_0, p0_1, p0_2, p1_0, p1_1, p1_2, p1_3, p1_4, p1_5, p1_6, p1_7, p1_8, p1_9, p1_10, p1_11⟩ := FX.out _ hcum
  go_region
  · obtain ⟨V, hV⟩ : ∃ V, V = ((W.alloc (.cells #[.int .i64 d.first.author, .int .i64 d.first.size, .int .i64 d.first.root, .slice ad_3 nd_3 cd_3, .slice ad_4 nd_4 cd_4, .slice ad_5 nd_5 cd_5] 44)).alloc (.cells #[.int .i64 d.second.author, .int .i64 d.second.size, .int .i64 d.second.root, .slice ad_9 nd_9 cd_9, .slice ad_10 nd_10 cd_10, .slice ad_11 nd_11 cd_11] 44)).drew := ⟨_, rfl⟩
    rw [← hV]
    have HWV : Hid (Below W.heap.size W V) := by unfold Hid; rw [hV]; (repeat (first | exact Below.refl _ _ | assumption | refine Below.drew ?_ | refine Below.alloc ?_ (by first | (simp; done) | (simp; omega)) _ | refine Below.setCell ?_ (by first | (simp; done) | (simp; omega)) _))
    have fa0 : V.cell? ⟨w.heap.size + 2, 0, none⟩ = some (.int .i64 d.first.author) := by rw [hV, ← hsW]; simp [go_sem]
    have fa1 : V.cell? ⟨w.heap.size + 2, 1, none⟩ = some (.int .i64 d.first.size) := by rw [hV, ← hsW]; simp [go_sem]
    have fa2 : V.cell? ⟨w.heap.size + 2, 2, none⟩ = some (.int .i64 d.first.root) := by rw [hV, ← hsW]; simp [go_sem]
    have fa3 : V.cell? ⟨w.heap.size + 2, 3, none⟩ = some (.slice ad_3 nd_3 cd_3) := by rw [hV, ← hsW]; simp [go_sem]
    have fa4 : V.cell? ⟨w.heap.size + 2, 4, none⟩ = some (.slice ad_4 nd_4 cd_4) := by rw [hV, ← hsW]; simp [go_sem]
    have fa5 : V.cell? ⟨w.heap.size + 2, 5, none⟩ = some (.slice ad_5 nd_5 cd_5) := by rw [hV, ← hsW]; simp [go_sem]
    have fb0 : V.cell? ⟨w.heap.size + 2 + 1, 0, none⟩ = some (.int .i64 d.second.author) := by rw [hV, ← hsW]; simp [go_sem]
    have fb1 : V.cell? ⟨w.heap.size + 2 + 1, 1, none⟩ = some (.int .i64 d.second.size) := by rw [hV, ← hsW]; simp [go_sem]
    have fb2 : V.cell? ⟨w.heap.size + 2 + 1, 2, none⟩ = some (.int .i64 d.second.root) := by rw [hV, ← hsW]; simp [go_sem]
    have fb3 : V.cell? ⟨w.heap.size + 2 + 1, 3, none⟩ = some (.slice ad_9 nd_9 cd_9) := by rw [hV, ← hsW]; simp [go_sem]
    have fb4 : V.cell? ⟨w.heap.size + 2 + 1, 4, none⟩ = some (.slice ad_10 nd_10 cd_10) := by rw [hV, ← hsW]; simp [go_sem]
    have fb5 : V.cell? ⟨w.heap.size + 2 + 1, 5, none⟩ = some (.slice ad_11 nd_11 cd_11) := by rw [hV, ← hsW]; simp [go_sem]
    have gg0 := box_at p0_0 HWV.out
    have gg1 := box_at p0_1 HWV.out
    have gg2 := box_at p0_2 HWV.out
    have Ha := Lib.hid ((kS rHead).rd_below F_d_first.out HWV.out)
    have Hb := Lib.hid ((kS rHead).rd_below F_d_second.out HWV.out)
    clear hV p0_0 p0_1 p0_2 p1_0 p1_1 p1_2 p1_3 p1_4 p1_5 p1_6 p1_7 p1_8 p1_9 p1_10 p1_11
    have hyV := box_at hyW HWV.out
    have hyV2 := box_at hyW2 HWV.out
    cases q7
    all_goals
      have e1 := bne_of H1.out
      have e2 := bne_of H2.out
      have e3 := beq_of H3.out
      go_wp2_with (first | (go_at_call 61; refine (spec_l1In _ _ _ _).mono ?_; rintro e wz ⟨rfl, rfl⟩; rw [H4.out]) | fail)
      clear e1 e2 e3
      have g0 := fun u => grow_cell gg0 u
      have g1 := fun u => grow_cell gg1 u
      have g2 := fun u => grow_cell gg2 u
      have ga0 := fun u => grow_cell fa0 u
      have ga1 := fun u => grow_cell fa1 u
      have ga2 := fun u => grow_cell fa2 u
      have ga3 := fun u => grow_cell fa3 u
      have ga4 := fun u => grow_cell fa4 u
      have ga5 := fun u => grow_cell fa5 u
      have gb0 := fun u => grow_cell fb0 u
      have gb1 := fun u => grow_cell fb1 u
      have gb2 := fun u => grow_cell fb2 u
      have gb3 := fun u => grow_cell fb3 u
      have gb4 := fun u => grow_cell fb4 u
      have gb5 := fun u => grow_cell fb5 u
      have gk := fun u => grow_cell hyV u
      have gk2 := fun u => grow_cell hyV2 u
      (refine wp_region_grow (by kernel_rfl) (by kernel_rfl) ?_; (repeat (go_big_quiet_step ((first | (go_at_call 74; first | (with_reducible refine calls_grow (spec_oHeadBy gr ky _ d.first _ HG.out HKE.out ((kS rHead).rd_below Ha.out (grow_below _ _))) (fun e w' h => ⟨by rw [h.1, H7.out], h.2⟩)) | (with_reducible refine calls_grow (spec_oHeadBy gr ky _ d.second _ HG.out HKE.out ((kS rHead).rd_below Hb.out (grow_below _ _))) (fun e w' h => ⟨by rw [h.1, H8.out], h.2⟩)) | fail) | fail)))); refine wpQuiet_nil ?_; intro _ hw'; obtain ⟨uq, hw''⟩ := hw'; subst hw''; have hbq := grow_below V uq; generalize grow V uq = wq at hbq ⊢)
      go_wp2_with fail
      go_ret
      exact ⟨rfl, Below.next HWB.out (Below.next HWV.out hbq)⟩
  · obtain ⟨V, hV⟩ : ∃ V, V = ((W.alloc (.cells #[.int .i64 d.second.author, .int .i64 d.second.size, .int .i64 d.second.root, .slice ad_9 nd_9 cd_9, .slice ad_10 nd_10 cd_10, .slice ad_11 nd_11 cd_11] 44)).alloc (.cells #[.int .i64 d.first.author, .int .i64 d.first.size, .int .i64 d.first.root, .slice ad_3 nd_3 cd_3, .slice ad_4 nd_4 cd_4, .slice ad_5 nd_5 cd_5] 44)).drew := ⟨_, rfl⟩
    rw [← hV]
    have HWV : Hid (Below W.heap.size W V) := by unfold Hid; rw [hV]; (repeat (first | exact Below.refl _ _ | assumption | refine Below.drew ?_ | refine Below.alloc ?_ (by first | (simp; done) | (simp; omega)) _ | refine Below.setCell ?_ (by first | (simp; done) | (simp; omega)) _))
    have fa0 : V.cell? ⟨w.heap.size + 2 + 1, 0, none⟩ = some (.int .i64 d.first.author) := by rw [hV, ← hsW]; simp [go_sem]
    have fa1 : V.cell? ⟨w.heap.size + 2 + 1, 1, none⟩ = some (.int .i64 d.first.size) := by rw [hV, ← hsW]; simp [go_sem]
    have fa2 : V.cell? ⟨w.heap.size + 2 + 1, 2, none⟩ = some (.int .i64 d.first.root) := by rw [hV, ← hsW]; simp [go_sem]
    have fa3 : V.cell? ⟨w.heap.size + 2 + 1, 3, none⟩ = some (.slice ad_3 nd_3 cd_3) := by rw [hV, ← hsW]; simp [go_sem]
    have fa4 : V.cell? ⟨w.heap.size + 2 + 1, 4, none⟩ = some (.slice ad_4 nd_4 cd_4) := by rw [hV, ← hsW]; simp [go_sem]
    have fa5 : V.cell? ⟨w.heap.size + 2 + 1, 5, none⟩ = some (.slice ad_5 nd_5 cd_5) := by rw [hV, ← hsW]; simp [go_sem]
    have fb0 : V.cell? ⟨w.heap.size + 2, 0, none⟩ = some (.int .i64 d.second.author) := by rw [hV, ← hsW]; simp [go_sem]
    have fb1 : V.cell? ⟨w.heap.size + 2, 1, none⟩ = some (.int .i64 d.second.size) := by rw [hV, ← hsW]; simp [go_sem]
    have fb2 : V.cell? ⟨w.heap.size + 2, 2, none⟩ = some (.int .i64 d.second.root) := by rw [hV, ← hsW]; simp [go_sem]
    have fb3 : V.cell? ⟨w.heap.size + 2, 3, none⟩ = some (.slice ad_9 nd_9 cd_9) := by rw [hV, ← hsW]; simp [go_sem]
    have fb4 : V.cell? ⟨w.heap.size + 2, 4, none⟩ = some (.slice ad_10 nd_10 cd_10) := by rw [hV, ← hsW]; simp [go_sem]
    have fb5 : V.cell? ⟨w.heap.size + 2, 5, none⟩ = some (.slice ad_11 nd_11 cd_11) := by rw [hV, ← hsW]; simp [go_sem]
    have gg0 := box_at p0_0 HWV.out
    have gg1 := box_at p0_1 HWV.out
    have gg2 := box_at p0_2 HWV.out
    have Ha := Lib.hid ((kS rHead).rd_below F_d_first.out HWV.out)
    have Hb := Lib.hid ((kS rHead).rd_below F_d_second.out HWV.out)
    clear hV p0_0 p0_1 p0_2 p1_0 p1_1 p1_2 p1_3 p1_4 p1_5 p1_6 p1_7 p1_8 p1_9 p1_10 p1_11
    have hyV := box_at hyW HWV.out
    have hyV2 := box_at hyW2 HWV.out
    cases q7
    all_goals
      have e1 := bne_of H1.out
      have e2 := bne_of H2.out
      have e3 := beq_of H3.out
      go_wp2_with (first | (go_at_call 61; refine (spec_l1In _ _ _ _).mono ?_; rintro e wz ⟨rfl, rfl⟩; rw [H4.out]) | fail)
      clear e1 e2 e3
      have g0 := fun u => grow_cell gg0 u
      have g1 := fun u => grow_cell gg1 u
      have g2 := fun u => grow_cell gg2 u
      have ga0 := fun u => grow_cell fa0 u
      have ga1 := fun u => grow_cell fa1 u
      have ga2 := fun u => grow_cell fa2 u
      have ga3 := fun u => grow_cell fa3 u
      have ga4 := fun u => grow_cell fa4 u
      have ga5 := fun u => grow_cell fa5 u
      have gb0 := fun u => grow_cell fb0 u
      have gb1 := fun u => grow_cell fb1 u
      have gb2 := fun u => grow_cell fb2 u
      have gb3 := fun u => grow_cell fb3 u
      have gb4 := fun u => grow_cell fb4 u
      have gb5 := fun u => grow_cell fb5 u
      have gk := fun u => grow_cell hyV u
      have gk2 := fun u => grow_cell hyV2 u
      (refine wp_region_grow (by kernel_rfl) (by kernel_rfl) ?_; (repeat (go_big_quiet_step ((first | (go_at_call 74; first | (with_reducible refine calls_grow (spec_oHeadBy gr ky _ d.first _ HG.out HKE.out ((kS rHead).rd_below Ha.out (grow_below _ _))) (fun e w' h => ⟨by rw [h.1, H7.out], h.2⟩)) | (with_reducible refine calls_grow (spec_oHeadBy gr ky _ d.second _ HG.out HKE.out ((kS rHead).rd_below Hb.out (grow_below _ _))) (fun e w' h => ⟨by rw [h.1, H8.out], h.2⟩)) | fail) | fail)))); refine wpQuiet_nil ?_; intro _ hw'; obtain ⟨uq, hw''⟩ := hw'; subst hw''; have hbq := grow_below V uq; generalize grow V uq = wq at hbq ⊢)
      go_wp2_with fail
      go_ret
      exact ⟨rfl, Below.next HWB.out (Below.next HWV.out hbq)⟩
theorem spec_fEvidence (gr : GroupD) (keys : List Int) (vk ve : Value) (d : ForkEvidenceD) (w : World) (hg : OkG gr) (hkk : keysB gr keys = true) (hk : Ints w vk keys) (h : (kS rForkEvidence).rd w ve d) :
    Calls Tryz.prog 87 #[.agg #[.int .i64 gr.p, .int .i64 gr.q, .int .i64 gr.g], vk, ve] w fun e w' => e = .returned (.bool (forkB gr keys d.first d.second)) ∧ Below w.heap.size w w' := by
  rw [forkB_alt]
  cases hq : ((d.first.author == d.second.author) && ((d.first.size == d.second.size) && ((d.first.root != d.second.root) && decide (0 ≤ d.first.author ∧ d.first.author ≤ (keys.length : Int) - 1)))) with
  | false =>
    have hr : ((d.first.author == d.second.author) && ((d.first.size == d.second.size) && ((d.first.root != d.second.root) && (decide (0 ≤ d.first.author ∧ d.first.author ≤ (keys.length : Int) - 1) && (isHeadB gr (nth keys d.first.author.toNat) d.first && isHeadB gr (nth keys d.first.author.toNat) d.second))))) = false := by
      rw [← Bool.and_assoc, ← Bool.and_assoc, ← Bool.and_assoc]
      rw [← Bool.and_assoc, ← Bool.and_assoc] at hq
      rw [hq]; rfl
    rw [hr]
    exact spec_fEvidence_no gr keys vk ve d w hk h hq
  | true =>
    simp only [Bool.and_eq_true] at hq
    obtain ⟨h1, h2, h3, h4⟩ := hq
    rw [h1, h2, h3, h4]
    exact spec_fEvidence_yes gr keys vk ve d w hg hkk hk h h1 h2 h3 (of_decide_eq_true h4)
/-- the evidence is right -/
noncomputable def feR (gr : GroupD) (keys : List Int) (d : ForkEvidenceD) : Bool := fkB gr keys && forkB gr keys d.first d.second
theorem fkB_ok {gr : GroupD} {keys : List Int} (h : fkB gr keys = true) : OkG gr ∧ keysB gr keys = true := by
  unfold fkB at h
  rw [Bool.and_eq_true] at h
  exact ⟨goodG_ok h.1, h.2⟩
end Go.Proofs.YtodennbdfloccaaGreat

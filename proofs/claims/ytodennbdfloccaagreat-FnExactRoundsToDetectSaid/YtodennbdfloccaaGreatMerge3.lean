/- Walks: equality of proofs and heads. -/
import Derived.Test.YtodennbdfloccaaGreatMerge2
namespace Go.Proofs.YtodennbdfloccaaGreat
open Go.RowKit
set_option linter.unusedSimpArgs false
set_option linter.unusedVariables false

set_option maxHeartbeats 4000000 in
theorem impl_sameProof (va : Value) (a : ProofD) (vb : Value) (b : ProofD) (w : World) (ha : (kS rProof).rd w va a) (hb : (kS rProof).rd w vb b) :
    Calls Tryz.prog 158 #[va, vb] w fun e w' => e = .returned (.bool (decide (a = b))) ∧ Below w.heap.size w w' := by
  obtain ⟨aa_0, na_0, ca_0, aa_1, na_1, ca_1, aa_2, na_2, ca_2, rfl, ka_0, ka_1, ka_2⟩ := rdProof.1 ha
  obtain ⟨ab_0, nb_0, cb_0, ab_1, nb_1, cb_1, ab_2, nb_2, cb_2, rfl, kb_0, kb_1, kb_2⟩ := rdProof.1 hb
  obtain ⟨W, hW⟩ : ∃ W, W = ((w.alloc (.cells #[.slice aa_0 na_0 ca_0, .slice aa_1 na_1 ca_1, .slice aa_2 na_2 ca_2] 42)).alloc (.cells #[.slice ab_0 nb_0 cb_0, .slice ab_1 nb_1 cb_1, .slice ab_2 nb_2 cb_2] 42)) := ⟨_, rfl⟩
  have HWB : Hid (Below w.heap.size w W) := by unfold Hid; rw [hW]; (repeat (first | exact Below.refl _ _ | assumption | refine Below.drew ?_ | refine Below.alloc ?_ (by first | (simp; done) | (simp; omega)) _ | refine Below.setCell ?_ (by first | (simp; done) | (simp; omega)) _))
  have FX : Hid (∀ W', Below W.heap.size W W' → W'.cell? ⟨w.heap.size, 0, none⟩ = some (.slice aa_0 na_0 ca_0) ∧ W'.cell? ⟨w.heap.size, 1, none⟩ = some (.slice aa_1 na_1 ca_1) ∧ W'.cell? ⟨w.heap.size, 2, none⟩ = some (.slice aa_2 na_2 ca_2) ∧ W'.cell? ⟨w.heap.size + 1, 0, none⟩ = some (.slice ab_0 nb_0 cb_0) ∧ W'.cell? ⟨w.heap.size + 1, 1, none⟩ = some (.slice ab_1 nb_1 cb_1) ∧ W'.cell? ⟨w.heap.size + 1, 2, none⟩ = some (.slice ab_2 nb_2 cb_2)) := fun W' hb => by
    exact ⟨box_at (by rw [hW]; simp [go_sem]) hb, box_at (by rw [hW]; simp [go_sem]) hb, box_at (by rw [hW]; simp [go_sem]) hb, box_at (by rw [hW]; simp [go_sem]) hb, box_at (by rw [hW]; simp [go_sem]) hb, box_at (by rw [hW]; simp [go_sem]) hb⟩
  have hsW : W.heap.size = w.heap.size + 2 := by rw [hW]; simp
  have Ha := Lib.hid ((kS rProof).rd_below ha HWB.out); clear ha
  have F_a_c := Lib.hid (sInts.rd_below ka_0 HWB.out)
  have F_a_h := Lib.hid (sInts.rd_below ka_1 HWB.out)
  have F_a_r := Lib.hid (sInts.rd_below ka_2 HWB.out)
  clear ka_0 ka_1 ka_2
  have Hb := Lib.hid ((kS rProof).rd_below hb HWB.out); clear hb
  have F_b_c := Lib.hid (sInts.rd_below kb_0 HWB.out)
  have F_b_h := Lib.hid (sInts.rd_below kb_1 HWB.out)
  have F_b_r := Lib.hid (sInts.rd_below kb_2 HWB.out)
  clear kb_0 kb_1 kb_2
  have HW := Lib.hid hW; clear hW
  obtain ⟨q1, h1⟩ : ∃ q, decide (a.c = b.c) = q := ⟨_, rfl⟩
  obtain ⟨q2, h2⟩ : ∃ q, decide (a.h = b.h) = q := ⟨_, rfl⟩
  obtain ⟨q3, h3⟩ : ∃ q, decide (a.r = b.r) = q := ⟨_, rfl⟩
  have HR : Hid (decide (a = b) = (q1 && (q2 && q3))) := by
    unfold Hid; rw [← h1, ← h2, ← h3, Bool.eq_iff_iff]; simp only [Bool.and_eq_true, decide_eq_true_eq]; exact ProofD.ext_iff'
  have H1 := Lib.hid h1; have H2 := Lib.hid h2; have H3 := Lib.hid h3
  clear h1 h2 h3
  cases q1 <;> cases q2
  all_goals
    go_enter Tryz.func158, Tryz.ntmps158
    go_wp2_with fail
    rw [← HW.out]
    have hcum : Below W.heap.size W W := Below.refl _ _
    obtain ⟨p0_0, p0_1, p0_2, p1_0, p1_1, p1_2⟩ := FX.out _ hcum
    refine (slices_Equal _ _ a.c b.c _ F_a_c.out F_b_c.out).mono ?_
    rintro e w1 ⟨rfl, m1, hm⟩
    have hb1 := Below.drewOf hm
    clear hm
    rw [H1.out]
    (replace hcum := hcum.trans (hb1.mono hcum.size)); clear hb1; clear p0_0 p0_1 p0_2 p1_0 p1_1 p1_2; obtain ⟨p0_0, p0_1, p0_2, p1_0, p1_1, p1_2⟩ := FX.out _ hcum
    go_wp2_with (first
      | (go_at_call_of 181 (Value.slice aa_1 na_1 ca_1); refine (slices_Equal _ _ a.h b.h _ (sInts.rd_below F_a_h.out hcum) (sInts.rd_below F_b_h.out hcum)).mono ?_; rintro e w2 ⟨rfl, m2, hm⟩; rw [H2.out]; have hb1 := Below.drewOf hm; clear hm; (replace hcum := hcum.trans (hb1.mono hcum.size)); clear hb1; clear p0_0 p0_1 p0_2 p1_0 p1_1 p1_2; obtain ⟨p0_0, p0_1, p0_2, p1_0, p1_1, p1_2⟩ := FX.out _ hcum)
      | (go_at_call_of 181 (Value.slice aa_2 na_2 ca_2); refine (slices_Equal _ _ a.r b.r _ (sInts.rd_below F_a_r.out hcum) (sInts.rd_below F_b_r.out hcum)).mono ?_; rintro e w3 ⟨rfl, m3, hm⟩; rw [H3.out]; have hb1 := Below.drewOf hm; clear hm; (replace hcum := hcum.trans (hb1.mono hcum.size)); clear hb1; clear p0_0 p0_1 p0_2 p1_0 p1_1 p1_2; obtain ⟨p0_0, p0_1, p0_2, p1_0, p1_1, p1_2⟩ := FX.out _ hcum)
      | fail)
    go_ret
    exact ⟨ret_bool (by rw [HR.out]; rfl), HWB.out.trans (hcum.mono HWB.out.size)⟩
set_option maxHeartbeats 4000000 in
theorem impl_sameHead (va : Value) (a : HeadD) (vb : Value) (b : HeadD) (w : World) (ha : (kS rHead).rd w va a) (hb : (kS rHead).rd w vb b) :
    Calls Tryz.prog 137 #[va, vb] w fun e w' => e = .returned (.bool (decide (a = b))) ∧ Below w.heap.size w w' := by
  obtain ⟨aa_3, na_3, ca_3, aa_4, na_4, ca_4, aa_5, na_5, ca_5, rfl, ja_0, ja_1, ja_2, ka_3, ka_4, ka_5⟩ := rdHead.1 ha
  obtain ⟨ab_3, nb_3, cb_3, ab_4, nb_4, cb_4, ab_5, nb_5, cb_5, rfl, jb_0, jb_1, jb_2, kb_3, kb_4, kb_5⟩ := rdHead.1 hb
  obtain ⟨W, hW⟩ : ∃ W, W = ((w.alloc (.cells #[.int .i64 a.author, .int .i64 a.size, .int .i64 a.root, .slice aa_3 na_3 ca_3, .slice aa_4 na_4 ca_4, .slice aa_5 na_5 ca_5] 44)).alloc (.cells #[.int .i64 b.author, .int .i64 b.size, .int .i64 b.root, .slice ab_3 nb_3 cb_3, .slice ab_4 nb_4 cb_4, .slice ab_5 nb_5 cb_5] 44)) := ⟨_, rfl⟩
  have HWB : Hid (Below w.heap.size w W) := by unfold Hid; rw [hW]; (repeat (first | exact Below.refl _ _ | assumption | refine Below.drew ?_ | refine Below.alloc ?_ (by first | (simp; done) | (simp; omega)) _ | refine Below.setCell ?_ (by first | (simp; done) | (simp; omega)) _))
  have FX : Hid (∀ W', Below W.heap.size W W' → W'.cell? ⟨w.heap.size, 0, none⟩ = some (.int .i64 a.author) ∧ W'.cell? ⟨w.heap.size, 1, none⟩ = some (.int .i64 a.size) ∧ W'.cell? ⟨w.heap.size, 2, none⟩ = some (.int .i64 a.root) ∧ W'.cell? ⟨w.heap.size, 3, none⟩ = some (.slice aa_3 na_3 ca_3) ∧ W'.cell? ⟨w.heap.size, 4, none⟩ = some (.slice aa_4 na_4 ca_4) ∧ W'.cell? ⟨w.heap.size, 5, none⟩ = some (.slice aa_5 na_5 ca_5) ∧ W'.cell? ⟨w.heap.size + 1, 0, none⟩ = some (.int .i64 b.author) ∧ W'.cell? ⟨w.heap.size + 1, 1, none⟩ = some (.int .i64 b.size) ∧ W'.cell? ⟨w.heap.size + 1, 2, none⟩ = some (.int .i64 b.root) ∧ W'.cell? ⟨w.heap.size + 1, 3, none⟩ = some (.slice ab_3 nb_3 cb_3) ∧ W'.cell? ⟨w.heap.size + 1, 4, none⟩ = some (.slice ab_4 nb_4 cb_4) ∧ W'.cell? ⟨w.heap.size + 1, 5, none⟩ = some (.slice ab_5 nb_5 cb_5)) := fun W' hb => by
    exact ⟨box_at (by rw [hW]; simp [go_sem]) hb, box_at (by rw [hW]; simp [go_sem]) hb, box_at (by rw [hW]; simp [go_sem]) hb, box_at (by rw [hW]; simp [go_sem]) hb, box_at (by rw [hW]; simp [go_sem]) hb, box_at (by rw [hW]; simp [go_sem]) hb, box_at (by rw [hW]; simp [go_sem]) hb, box_at (by rw [hW]; simp [go_sem]) hb, box_at (by rw [hW]; simp [go_sem]) hb, box_at (by rw [hW]; simp [go_sem]) hb, box_at (by rw [hW]; simp [go_sem]) hb, box_at (by rw [hW]; simp [go_sem]) hb⟩
  have hsW : W.heap.size = w.heap.size + 2 := by rw [hW]; simp
  have Ha := Lib.hid ((kS rHead).rd_below ha HWB.out); clear ha
  have Ja_0 := Lib.hid ja_0; clear ja_0
  have Ja_1 := Lib.hid ja_1; clear ja_1
  have Ja_2 := Lib.hid ja_2; clear ja_2
  have F_a_sign := Lib.hid ((kS rProof).rd_below (w := w) (rdProof.2 ⟨_, _, _, _, _, _, _, _, _, rfl, ka_3, ka_4, ka_5⟩ : (kS rProof).rd w (.agg #[.slice aa_3 na_3 ca_3, .slice aa_4 na_4 ca_4, .slice aa_5 na_5 ca_5]) a.sign) HWB.out)
  clear ka_3 ka_4 ka_5
  have Hb := Lib.hid ((kS rHead).rd_below hb HWB.out); clear hb
  have Jb_0 := Lib.hid jb_0; clear jb_0
  have Jb_1 := Lib.hid jb_1; clear jb_1
  have Jb_2 := Lib.hid jb_2; clear jb_2
  have F_b_sign := Lib.hid ((kS rProof).rd_below (w := w) (rdProof.2 ⟨_, _, _, _, _, _, _, _, _, rfl, kb_3, kb_4, kb_5⟩ : (kS rProof).rd w (.agg #[.slice ab_3 nb_3 cb_3, .slice ab_4 nb_4 cb_4, .slice ab_5 nb_5 cb_5]) b.sign) HWB.out)
  clear kb_3 kb_4 kb_5
  have HW := Lib.hid hW; clear hW
  obtain ⟨q1, h1⟩ : ∃ q, (a.author == b.author) = q := ⟨_, rfl⟩
  obtain ⟨q2, h2⟩ : ∃ q, (a.size == b.size) = q := ⟨_, rfl⟩
  obtain ⟨q3, h3⟩ : ∃ q, (a.root == b.root) = q := ⟨_, rfl⟩
  obtain ⟨q4, h4⟩ : ∃ q, decide (a.sign = b.sign) = q := ⟨_, rfl⟩
  have HR : Hid (decide (a = b) = (q1 && (q2 && (q3 && q4)))) := by
    unfold Hid; rw [← h1, ← h2, ← h3, ← h4, Bool.eq_iff_iff]; simp only [Bool.and_eq_true, decide_eq_true_eq, beq_iff_eq]; exact HeadD.ext_iff'
  have H4 := Lib.hid h4
  clear h4
  rcases (by cases q1 <;> cases q2 <;> cases q3 <;> simp : q1 = false ∨ (q1 = true ∧ q2 = false) ∨ (q1 = true ∧ q2 = true ∧ q3 = false) ∨ (q1 = true ∧ q2 = true ∧ q3 = true)) with rfl | ⟨rfl, rfl⟩ | ⟨rfl, rfl, rfl⟩ | ⟨rfl, rfl, rfl⟩
  · go_enter Tryz.func137, Tryz.ntmps137
    go_wp2_with fail
    go_ret
    exact ⟨ret_bool (by rw [HR.out]; rfl), by rw [← HW.out]; exact HWB.out⟩
  · go_enter Tryz.func137, Tryz.ntmps137
    go_wp2_with fail
    go_ret
    exact ⟨ret_bool (by rw [HR.out]; rfl), by rw [← HW.out]; exact HWB.out⟩
  · go_enter Tryz.func137, Tryz.ntmps137
    go_wp2_with fail
    go_ret
    exact ⟨ret_bool (by rw [HR.out]; rfl), by rw [← HW.out]; exact HWB.out⟩
  · skip
    go_enter Tryz.func137, Tryz.ntmps137
    go_wp2_with fail
    rw [← HW.out]
    have hcum : Below W.heap.size W W := Below.refl _ _
    obtain ⟨p0_0, p0_1, p0_2, p0_3, p0_4, p0_5, p1_0, p1_1, p1_2, p1_3, p1_4, p1_5⟩ := FX.out _ hcum
    refine (impl_sameProof _ a.sign _ b.sign _ F_a_sign.out F_b_sign.out).mono ?_
    rintro e w1 ⟨rfl, hb1⟩
    rw [H4.out]
    (replace hcum := hcum.trans (hb1.mono hcum.size)); clear hb1; clear p0_0 p0_1 p0_2 p0_3 p0_4 p0_5 p1_0 p1_1 p1_2 p1_3 p1_4 p1_5; obtain ⟨p0_0, p0_1, p0_2, p0_3, p0_4, p0_5, p1_0, p1_1, p1_2, p1_3, p1_4, p1_5⟩ := FX.out _ hcum
    go_wp2_with fail
    go_ret
    exact ⟨ret_bool (by rw [HR.out]; rfl), HWB.out.trans (hcum.mono HWB.out.size)⟩
set_option maxHeartbeats 4000000 in
theorem spec_oSameProof (va : Value) (a : ProofD) (vb : Value) (b : ProofD) (w : World) (ha : (kS rProof).rd w va a) (hb : (kS rProof).rd w vb b) :
    Calls Tryz.prog 157 #[va, vb] w fun e w' => e = .returned (.bool (decide (a = b))) ∧ Below w.heap.size w w' := by
  obtain ⟨aa_0, na_0, ca_0, aa_1, na_1, ca_1, aa_2, na_2, ca_2, rfl, ka_0, ka_1, ka_2⟩ := rdProof.1 ha
  obtain ⟨ab_0, nb_0, cb_0, ab_1, nb_1, cb_1, ab_2, nb_2, cb_2, rfl, kb_0, kb_1, kb_2⟩ := rdProof.1 hb
  obtain ⟨W, hW⟩ : ∃ W, W = ((w.alloc (.cells #[.slice aa_0 na_0 ca_0, .slice aa_1 na_1 ca_1, .slice aa_2 na_2 ca_2] 42)).alloc (.cells #[.slice ab_0 nb_0 cb_0, .slice ab_1 nb_1 cb_1, .slice ab_2 nb_2 cb_2] 42)) := ⟨_, rfl⟩
  have HWB : Hid (Below w.heap.size w W) := by unfold Hid; rw [hW]; (repeat (first | exact Below.refl _ _ | assumption | refine Below.drew ?_ | refine Below.alloc ?_ (by first | (simp; done) | (simp; omega)) _ | refine Below.setCell ?_ (by first | (simp; done) | (simp; omega)) _))
  have FX : Hid (∀ W', Below W.heap.size W W' → W'.cell? ⟨w.heap.size, 0, none⟩ = some (.slice aa_0 na_0 ca_0) ∧ W'.cell? ⟨w.heap.size, 1, none⟩ = some (.slice aa_1 na_1 ca_1) ∧ W'.cell? ⟨w.heap.size, 2, none⟩ = some (.slice aa_2 na_2 ca_2) ∧ W'.cell? ⟨w.heap.size + 1, 0, none⟩ = some (.slice ab_0 nb_0 cb_0) ∧ W'.cell? ⟨w.heap.size + 1, 1, none⟩ = some (.slice ab_1 nb_1 cb_1) ∧ W'.cell? ⟨w.heap.size + 1, 2, none⟩ = some (.slice ab_2 nb_2 cb_2)) := fun W' hb => by
    exact ⟨box_at (by rw [hW]; simp [go_sem]) hb, box_at (by rw [hW]; simp [go_sem]) hb, box_at (by rw [hW]; simp [go_sem]) hb, box_at (by rw [hW]; simp [go_sem]) hb, box_at (by rw [hW]; simp [go_sem]) hb, box_at (by rw [hW]; simp [go_sem]) hb⟩
  have hsW : W.heap.size = w.heap.size + 2 := by rw [hW]; simp
  have Ha := Lib.hid ((kS rProof).rd_below ha HWB.out); clear ha
  have F_a_c := Lib.hid (sInts.rd_below ka_0 HWB.out)
  have F_a_h := Lib.hid (sInts.rd_below ka_1 HWB.out)
  have F_a_r := Lib.hid (sInts.rd_below ka_2 HWB.out)
  clear ka_0 ka_1 ka_2
  have Hb := Lib.hid ((kS rProof).rd_below hb HWB.out); clear hb
  have F_b_c := Lib.hid (sInts.rd_below kb_0 HWB.out)
  have F_b_h := Lib.hid (sInts.rd_below kb_1 HWB.out)
  have F_b_r := Lib.hid (sInts.rd_below kb_2 HWB.out)
  clear kb_0 kb_1 kb_2
  have HW := Lib.hid hW; clear hW
  obtain ⟨q1, h1⟩ : ∃ q, decide (a.c = b.c) = q := ⟨_, rfl⟩
  obtain ⟨q2, h2⟩ : ∃ q, decide (a.h = b.h) = q := ⟨_, rfl⟩
  obtain ⟨q3, h3⟩ : ∃ q, decide (a.r = b.r) = q := ⟨_, rfl⟩
  have HR : Hid (decide (a = b) = (q1 && (q2 && q3))) := by
    unfold Hid; rw [← h1, ← h2, ← h3, Bool.eq_iff_iff]; simp only [Bool.and_eq_true, decide_eq_true_eq]; exact ProofD.ext_iff'
  have H1 := Lib.hid h1; have H2 := Lib.hid h2; have H3 := Lib.hid h3
  clear h1 h2 h3
  cases q1 <;> cases q2
  all_goals
    go_enter Tryz.func157, Tryz.ntmps157
    go_wp2_with fail
    rw [← HW.out]
    have hcum : Below W.heap.size W W := Below.refl _ _
    obtain ⟨p0_0, p0_1, p0_2, p1_0, p1_1, p1_2⟩ := FX.out _ hcum
    refine (spec_l1Same _ _ a.c b.c _ F_a_c.out F_b_c.out).mono ?_
    rintro e w1 ⟨rfl, m1, hm⟩
    have hb1 := Below.drewOf hm
    clear hm
    rw [H1.out]
    (replace hcum := hcum.trans (hb1.mono hcum.size)); clear hb1; clear p0_0 p0_1 p0_2 p1_0 p1_1 p1_2; obtain ⟨p0_0, p0_1, p0_2, p1_0, p1_1, p1_2⟩ := FX.out _ hcum
    go_wp2_with (first
      | (go_at_call_of 180 (Value.slice aa_1 na_1 ca_1); refine (spec_l1Same _ _ a.h b.h _ (sInts.rd_below F_a_h.out hcum) (sInts.rd_below F_b_h.out hcum)).mono ?_; rintro e w2 ⟨rfl, m2, hm⟩; rw [H2.out]; have hb1 := Below.drewOf hm; clear hm; (replace hcum := hcum.trans (hb1.mono hcum.size)); clear hb1; clear p0_0 p0_1 p0_2 p1_0 p1_1 p1_2; obtain ⟨p0_0, p0_1, p0_2, p1_0, p1_1, p1_2⟩ := FX.out _ hcum)
      | (go_at_call_of 180 (Value.slice aa_2 na_2 ca_2); refine (spec_l1Same _ _ a.r b.r _ (sInts.rd_below F_a_r.out hcum) (sInts.rd_below F_b_r.out hcum)).mono ?_; rintro e w3 ⟨rfl, m3, hm⟩; rw [H3.out]; have hb1 := Below.drewOf hm; clear hm; (replace hcum := hcum.trans (hb1.mono hcum.size)); clear hb1; clear p0_0 p0_1 p0_2 p1_0 p1_1 p1_2; obtain ⟨p0_0, p0_1, p0_2, p1_0, p1_1, p1_2⟩ := FX.out _ hcum)
      | fail)
    go_ret
    exact ⟨ret_bool (by rw [HR.out]; rfl), HWB.out.trans (hcum.mono HWB.out.size)⟩
set_option maxHeartbeats 4000000 in
theorem spec_fSame (va : Value) (a : HeadD) (vb : Value) (b : HeadD) (w : World) (ha : (kS rHead).rd w va a) (hb : (kS rHead).rd w vb b) :
    Calls Tryz.prog 132 #[va, vb] w fun e w' => e = .returned (.bool (decide (a = b))) ∧ Below w.heap.size w w' := by
  obtain ⟨aa_3, na_3, ca_3, aa_4, na_4, ca_4, aa_5, na_5, ca_5, rfl, ja_0, ja_1, ja_2, ka_3, ka_4, ka_5⟩ := rdHead.1 ha
  obtain ⟨ab_3, nb_3, cb_3, ab_4, nb_4, cb_4, ab_5, nb_5, cb_5, rfl, jb_0, jb_1, jb_2, kb_3, kb_4, kb_5⟩ := rdHead.1 hb
  obtain ⟨W, hW⟩ : ∃ W, W = ((w.alloc (.cells #[.int .i64 a.author, .int .i64 a.size, .int .i64 a.root, .slice aa_3 na_3 ca_3, .slice aa_4 na_4 ca_4, .slice aa_5 na_5 ca_5] 44)).alloc (.cells #[.int .i64 b.author, .int .i64 b.size, .int .i64 b.root, .slice ab_3 nb_3 cb_3, .slice ab_4 nb_4 cb_4, .slice ab_5 nb_5 cb_5] 44)) := ⟨_, rfl⟩
  have HWB : Hid (Below w.heap.size w W) := by unfold Hid; rw [hW]; (repeat (first | exact Below.refl _ _ | assumption | refine Below.drew ?_ | refine Below.alloc ?_ (by first | (simp; done) | (simp; omega)) _ | refine Below.setCell ?_ (by first | (simp; done) | (simp; omega)) _))
  have FX : Hid (∀ W', Below W.heap.size W W' → W'.cell? ⟨w.heap.size, 0, none⟩ = some (.int .i64 a.author) ∧ W'.cell? ⟨w.heap.size, 1, none⟩ = some (.int .i64 a.size) ∧ W'.cell? ⟨w.heap.size, 2, none⟩ = some (.int .i64 a.root) ∧ W'.cell? ⟨w.heap.size, 3, none⟩ = some (.slice aa_3 na_3 ca_3) ∧ W'.cell? ⟨w.heap.size, 4, none⟩ = some (.slice aa_4 na_4 ca_4) ∧ W'.cell? ⟨w.heap.size, 5, none⟩ = some (.slice aa_5 na_5 ca_5) ∧ W'.cell? ⟨w.heap.size + 1, 0, none⟩ = some (.int .i64 b.author) ∧ W'.cell? ⟨w.heap.size + 1, 1, none⟩ = some (.int .i64 b.size) ∧ W'.cell? ⟨w.heap.size + 1, 2, none⟩ = some (.int .i64 b.root) ∧ W'.cell? ⟨w.heap.size + 1, 3, none⟩ = some (.slice ab_3 nb_3 cb_3) ∧ W'.cell? ⟨w.heap.size + 1, 4, none⟩ = some (.slice ab_4 nb_4 cb_4) ∧ W'.cell? ⟨w.heap.size + 1, 5, none⟩ = some (.slice ab_5 nb_5 cb_5)) := fun W' hb => by
    exact ⟨box_at (by rw [hW]; simp [go_sem]) hb, box_at (by rw [hW]; simp [go_sem]) hb, box_at (by rw [hW]; simp [go_sem]) hb, box_at (by rw [hW]; simp [go_sem]) hb, box_at (by rw [hW]; simp [go_sem]) hb, box_at (by rw [hW]; simp [go_sem]) hb, box_at (by rw [hW]; simp [go_sem]) hb, box_at (by rw [hW]; simp [go_sem]) hb, box_at (by rw [hW]; simp [go_sem]) hb, box_at (by rw [hW]; simp [go_sem]) hb, box_at (by rw [hW]; simp [go_sem]) hb, box_at (by rw [hW]; simp [go_sem]) hb⟩
  have hsW : W.heap.size = w.heap.size + 2 := by rw [hW]; simp
  have Ha := Lib.hid ((kS rHead).rd_below ha HWB.out); clear ha
  have Ja_0 := Lib.hid ja_0; clear ja_0
  have Ja_1 := Lib.hid ja_1; clear ja_1
  have Ja_2 := Lib.hid ja_2; clear ja_2
  have F_a_sign := Lib.hid ((kS rProof).rd_below (w := w) (rdProof.2 ⟨_, _, _, _, _, _, _, _, _, rfl, ka_3, ka_4, ka_5⟩ : (kS rProof).rd w (.agg #[.slice aa_3 na_3 ca_3, .slice aa_4 na_4 ca_4, .slice aa_5 na_5 ca_5]) a.sign) HWB.out)
  clear ka_3 ka_4 ka_5
  have Hb := Lib.hid ((kS rHead).rd_below hb HWB.out); clear hb
  have Jb_0 := Lib.hid jb_0; clear jb_0
  have Jb_1 := Lib.hid jb_1; clear jb_1
  have Jb_2 := Lib.hid jb_2; clear jb_2
  have F_b_sign := Lib.hid ((kS rProof).rd_below (w := w) (rdProof.2 ⟨_, _, _, _, _, _, _, _, _, rfl, kb_3, kb_4, kb_5⟩ : (kS rProof).rd w (.agg #[.slice ab_3 nb_3 cb_3, .slice ab_4 nb_4 cb_4, .slice ab_5 nb_5 cb_5]) b.sign) HWB.out)
  clear kb_3 kb_4 kb_5
  have HW := Lib.hid hW; clear hW
  obtain ⟨q1, h1⟩ : ∃ q, (a.author == b.author) = q := ⟨_, rfl⟩
  obtain ⟨q2, h2⟩ : ∃ q, (a.size == b.size) = q := ⟨_, rfl⟩
  obtain ⟨q3, h3⟩ : ∃ q, (a.root == b.root) = q := ⟨_, rfl⟩
  obtain ⟨q4, h4⟩ : ∃ q, decide (a.sign = b.sign) = q := ⟨_, rfl⟩
  have HR : Hid (decide (a = b) = (q1 && (q2 && (q3 && q4)))) := by
    unfold Hid; rw [← h1, ← h2, ← h3, ← h4, Bool.eq_iff_iff]; simp only [Bool.and_eq_true, decide_eq_true_eq, beq_iff_eq]; exact HeadD.ext_iff'
  have H4 := Lib.hid h4
  clear h4
  rcases (by cases q1 <;> cases q2 <;> cases q3 <;> simp : q1 = false ∨ (q1 = true ∧ q2 = false) ∨ (q1 = true ∧ q2 = true ∧ q3 = false) ∨ (q1 = true ∧ q2 = true ∧ q3 = true)) with rfl | ⟨rfl, rfl⟩ | ⟨rfl, rfl, rfl⟩ | ⟨rfl, rfl, rfl⟩
  · go_enter Tryz.func132, Tryz.ntmps132
    go_wp2_with fail
    go_ret
    exact ⟨ret_bool (by rw [HR.out]; rfl), by rw [← HW.out]; exact HWB.out⟩
  · go_enter Tryz.func132, Tryz.ntmps132
    go_wp2_with fail
    go_ret
    exact ⟨ret_bool (by rw [HR.out]; rfl), by rw [← HW.out]; exact HWB.out⟩
  · go_enter Tryz.func132, Tryz.ntmps132
    go_wp2_with fail
    go_ret
    exact ⟨ret_bool (by rw [HR.out]; rfl), by rw [← HW.out]; exact HWB.out⟩
  · skip
    go_enter Tryz.func132, Tryz.ntmps132
    go_wp2_with fail
    rw [← HW.out]
    have hcum : Below W.heap.size W W := Below.refl _ _
    obtain ⟨p0_0, p0_1, p0_2, p0_3, p0_4, p0_5, p1_0, p1_1, p1_2, p1_3, p1_4, p1_5⟩ := FX.out _ hcum
    refine (spec_oSameProof _ a.sign _ b.sign _ F_a_sign.out F_b_sign.out).mono ?_
    rintro e w1 ⟨rfl, hb1⟩
    rw [H4.out]
    (replace hcum := hcum.trans (hb1.mono hcum.size)); clear hb1; clear p0_0 p0_1 p0_2 p0_3 p0_4 p0_5 p1_0 p1_1 p1_2 p1_3 p1_4 p1_5; obtain ⟨p0_0, p0_1, p0_2, p0_3, p0_4, p0_5, p1_0, p1_1, p1_2, p1_3, p1_4, p1_5⟩ := FX.out _ hcum
    go_wp2_with fail
    go_ret
    exact ⟨ret_bool (by rw [HR.out]; rfl), HWB.out.trans (hcum.mono HWB.out.size)⟩
end Go.Proofs.YtodennbdfloccaaGreat

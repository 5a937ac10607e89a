/- Walks: VerifyHead. -/
import Derived.Test.YtlapmdcjfopbaaaVHead
namespace Go.Proofs.Ytlapmdcjfopbaaa
open Go.RowKit
set_option linter.unusedSimpArgs false
set_option linter.unusedVariables false

/-- a valid group and a key -/
noncomputable def keyB (gr : GroupD) (key : Int) : Bool := goodG gr && elB gr key
noncomputable def vhR (gr : GroupD) (key : Int) (d : HeadD) : Bool := keyB gr key && isHeadB gr key d
theorem ret_bb' {a a' b b' : Bool} (h : a = a') (h' : b = b') : Ending.returned (.tuple #[.bool a, .bool b]) = .returned (.tuple #[.bool a', .bool b']) := by rw [h, h']
set_option maxHeartbeats 1000000 in
theorem spec_eKey (gr : GroupD) (key : Int) (w : World) (hk : I64 key) :
    Calls Try.prog 177 #[.agg #[.int .i64 gr.p, .int .i64 gr.q, .int .i64 gr.g], .int .i64 key] w fun e w' => e = .returned (.bool (keyB gr key)) ∧ Below w.heap.size w w' := by
  (obtain ⟨q1, h_q⟩ : ∃ b_q, goodG gr = b_q := ⟨_, rfl⟩); have H1 := Lib.hid h_q; clear h_q
  (obtain ⟨q2, h_q⟩ : ∃ b_q, elB gr key = b_q := ⟨_, rfl⟩); have H2 := Lib.hid h_q; clear h_q
  have HL : Hid (([key].all (elB gr)) = q2) := by unfold Hid; rw [← H2.out]; simp
  have HR : Hid (keyB gr key = (q1 && q2)) := by unfold Hid keyB; rw [H1.out, H2.out]
  rw [HR.out]
  obtain ⟨k0, k1⟩ := hk
  obtain ⟨W, hW⟩ : ∃ W, W = (w.alloc (.cells #[.int .i64 gr.p, .int .i64 gr.q, .int .i64 gr.g] 106)) := ⟨_, rfl⟩
  have HWB : Hid (Below w.heap.size w W) := by unfold Hid; rw [hW]; (repeat (first | exact Below.refl _ _ | assumption | refine Below.drew ?_ | refine Below.alloc ?_ (by first | (simp; done) | (simp; omega)) _ | refine Below.setCell ?_ (by first | (simp; done) | (simp; omega)) _))
  have FX : Hid (∀ W', Below W.heap.size W W' → W'.cell? ⟨w.heap.size, 0, none⟩ = some (.int .i64 gr.p) ∧ W'.cell? ⟨w.heap.size, 1, none⟩ = some (.int .i64 gr.q) ∧ W'.cell? ⟨w.heap.size, 2, none⟩ = some (.int .i64 gr.g)) := fun W' hb => by
    exact ⟨box_at (by rw [hW]; simp [go_sem]) hb, box_at (by rw [hW]; simp [go_sem]) hb, box_at (by rw [hW]; simp [go_sem]) hb⟩
  have hsW : W.heap.size = w.heap.size + 1 := by rw [hW]; simp
  have HW := Lib.hid hW; clear hW
  go_enter Try.func177, Try.ntmps177
  go_wp2_with fail
  rw [← HW.out]
  have hcum : Below W.heap.size W W := Below.refl _ _
  obtain ⟨p0_0, p0_1, p0_2⟩ := FX.out _ hcum
  refine (spec_l2Good gr _).mono ?_
  rintro e w1 ⟨rfl, hb1⟩
  rw [H1.out]
  (replace hcum := hcum.trans (hb1.mono hcum.size)); clear hb1; clear p0_0 p0_1 p0_2; obtain ⟨p0_0, p0_1, p0_2⟩ := FX.out _ hcum
  cases q1 with
  | false =>
    go_wp2_with fail
    go_ret
    exact ⟨rfl, Below.next HWB.out hcum⟩
  | true =>
    have HG := Lib.hid (goodG_ok H1.out)
    have HC := Lib.hid hcum
    go_wp2_with fail
    refine (spec_gIs gr _ [key] _ HG.out (Ints.lit1 _ ⟨by omega, by omega⟩)).mono ?_
    rintro e w2 ⟨rfl, hb2⟩
    rw [HL.out]
    have HC2 : Hid (Below W.heap.size W w2) := (HC.out.alloc HC.out.size _).trans (hb2.mono (by have := HC.out.size; simp; omega))
    clear hb2
    go_wp2_with fail
    go_ret
    exact ⟨rfl, Below.next HWB.out HC2.out⟩
set_option maxHeartbeats 1000000 in
theorem spec_VerifyHead (gr : GroupD) (key : Int) (v : Value) (d : HeadD) (w : World) (hk : I64 key) (hz : (szHead d : Int) ≤ 1000000000) (h : (kS rHead).rd w v d) :
    Calls Try.prog 73 #[.agg #[.int .i64 gr.p, .int .i64 gr.q, .int .i64 gr.g], .int .i64 key, v] w fun e w' => e = .returned (.tuple #[.bool (vhR gr key d), .bool (keyB gr key)]) ∧ Below w.heap.size w w' := by
  clear hz
  have HK := Lib.hid hk; clear hk
  (obtain ⟨q1, h_q⟩ : ∃ b_q, keyB gr key = b_q := ⟨_, rfl⟩); have H1 := Lib.hid h_q; clear h_q
  (obtain ⟨q2, h_q⟩ : ∃ b_q, isHeadB gr key d = b_q := ⟨_, rfl⟩); have H2 := Lib.hid h_q; clear h_q
  have HR : Hid (vhR gr key d = (q1 && q2)) := by unfold Hid vhR; rw [H1.out, H2.out]
  rw [HR.out, H1.out]
  obtain ⟨ad_3, nd_3, cd_3, ad_4, nd_4, cd_4, ad_5, nd_5, cd_5, rfl, jd_0, jd_1, jd_2, kd_3, kd_4, kd_5⟩ := rdHead.1 h
  obtain ⟨W, hW⟩ : ∃ W, W = ((w.alloc (.cells #[.int .i64 gr.p, .int .i64 gr.q, .int .i64 gr.g] 106)).alloc (.cells #[.int .i64 d.author, .int .i64 d.size, .int .i64 d.root, .slice ad_3 nd_3 cd_3, .slice ad_4 nd_4 cd_4, .slice ad_5 nd_5 cd_5] 109)) := ⟨_, rfl⟩
  have HWB : Hid (Below w.heap.size w W) := by unfold Hid; rw [hW]; (repeat (first | exact Below.refl _ _ | assumption | refine Below.drew ?_ | refine Below.alloc ?_ (by first | (simp; done) | (simp; omega)) _ | refine Below.setCell ?_ (by first | (simp; done) | (simp; omega)) _))
  have FX : Hid (∀ W', Below W.heap.size W W' → W'.cell? ⟨w.heap.size, 0, none⟩ = some (.int .i64 gr.p) ∧ W'.cell? ⟨w.heap.size, 1, none⟩ = some (.int .i64 gr.q) ∧ W'.cell? ⟨w.heap.size, 2, none⟩ = some (.int .i64 gr.g) ∧ W'.cell? ⟨w.heap.size + 1, 0, none⟩ = some (.int .i64 d.author) ∧ W'.cell? ⟨w.heap.size + 1, 1, none⟩ = some (.int .i64 d.size) ∧ W'.cell? ⟨w.heap.size + 1, 2, none⟩ = some (.int .i64 d.root) ∧ W'.cell? ⟨w.heap.size + 1, 3, none⟩ = some (.slice ad_3 nd_3 cd_3) ∧ W'.cell? ⟨w.heap.size + 1, 4, none⟩ = some (.slice ad_4 nd_4 cd_4) ∧ W'.cell? ⟨w.heap.size + 1, 5, none⟩ = some (.slice ad_5 nd_5 cd_5)) := fun W' hb => by
    exact ⟨box_at (by rw [hW]; simp [go_sem]) hb, box_at (by rw [hW]; simp [go_sem]) hb, box_at (by rw [hW]; simp [go_sem]) hb, box_at (by rw [hW]; simp [go_sem]) hb, box_at (by rw [hW]; simp [go_sem]) hb, box_at (by rw [hW]; simp [go_sem]) hb, box_at (by rw [hW]; simp [go_sem]) hb, box_at (by rw [hW]; simp [go_sem]) hb, box_at (by rw [hW]; simp [go_sem]) hb⟩
  have hsW : W.heap.size = w.heap.size + 2 := by rw [hW]; simp
  have Hd := Lib.hid ((kS rHead).rd_below h HWB.out); clear h
  have Jd_0 := Lib.hid jd_0; clear jd_0
  have Jd_1 := Lib.hid jd_1; clear jd_1
  have Jd_2 := Lib.hid jd_2; clear jd_2
  have F_d_sign := Lib.hid ((kS rProof).rd_below (w := w) (rdProof.2 ⟨_, _, _, _, _, _, _, _, _, rfl, kd_3, kd_4, kd_5⟩ : (kS rProof).rd w (.agg #[.slice ad_3 nd_3 cd_3, .slice ad_4 nd_4 cd_4, .slice ad_5 nd_5 cd_5]) d.sign) HWB.out)
  clear kd_3 kd_4 kd_5
  have HW := Lib.hid hW; clear hW
  go_enter Try.func73, Try.ntmps73
  go_wp2_with fail
  rw [← HW.out]
  have hcum : Below W.heap.size W W := Below.refl _ _
  obtain ⟨p0_0, p0_1, p0_2, p1_0, p1_1, p1_2, p1_3, p1_4, p1_5⟩ := FX.out _ hcum
  refine (spec_eKey gr key _ HK.out).mono ?_
  rintro e w1 ⟨rfl, hb1⟩
  rw [H1.out]
  (replace hcum := hcum.trans (hb1.mono hcum.size)); clear hb1; clear p0_0 p0_1 p0_2 p1_0 p1_1 p1_2 p1_3 p1_4 p1_5; obtain ⟨p0_0, p0_1, p0_2, p1_0, p1_1, p1_2, p1_3, p1_4, p1_5⟩ := FX.out _ hcum
  cases q1 with
  | false =>
    go_wp2_with fail
    go_ret2
    exact ⟨rfl, Below.next HWB.out hcum⟩
  | true =>
    have h11 := H1.out
    unfold keyB at h11
    rw [Bool.and_eq_true] at h11
    have HG := Lib.hid (goodG_ok h11.1); have HEL := Lib.hid h11.2
    clear h11
    go_wp2_with fail
    refine (spec_oHeadBy gr key _ d _ HG.out HEL.out ((kS rHead).rd_below Hd.out hcum)).mono ?_
    rintro e w2 ⟨rfl, hb2⟩
    rw [H2.out]
    (replace hcum := hcum.trans (hb2.mono hcum.size)); clear hb2; clear p0_0 p0_1 p0_2 p1_0 p1_1 p1_2 p1_3 p1_4 p1_5; obtain ⟨p0_0, p0_1, p0_2, p1_0, p1_1, p1_2, p1_3, p1_4, p1_5⟩ := FX.out _ hcum
    go_wp2_with fail
    go_ret2
    exact ⟨rfl, Below.next HWB.out hcum⟩
set_option maxHeartbeats 1000000 in
theorem impl_VerifyHead (gr : GroupD) (key : Int) (v : Value) (d : HeadD) (w : World) (hk : I64 key) (hz : (szHead d : Int) ≤ 1000000000) (h : (kS rHead).rd w v d) :
    Calls Try.prog 76 #[.agg #[.int .i64 gr.p, .int .i64 gr.q, .int .i64 gr.g], .int .i64 key, v] w fun e w' => e = .returned (.tuple #[.bool (vhR gr key d), .bool (keyB gr key)]) ∧ Below w.heap.size w w' := by
  clear hz hk
  (obtain ⟨q1, h_q⟩ : ∃ b_q, goodG gr = b_q := ⟨_, rfl⟩); have H1 := Lib.hid h_q; clear h_q
  (obtain ⟨q3, h_q⟩ : ∃ b_q, elB gr key = b_q := ⟨_, rfl⟩); have H3 := Lib.hid h_q; clear h_q
  (obtain ⟨q2, h_q⟩ : ∃ b_q, isHeadB gr key d = b_q := ⟨_, rfl⟩); have H2 := Lib.hid h_q; clear h_q
  have HK : Hid (keyB gr key = (q1 && q3)) := by unfold Hid keyB; rw [H1.out, H3.out]
  have HR : Hid (vhR gr key d = (q1 && q3 && q2)) := by unfold Hid vhR; rw [HK.out, H2.out]
  rw [HR.out, HK.out]
  obtain ⟨ad_3, nd_3, cd_3, ad_4, nd_4, cd_4, ad_5, nd_5, cd_5, rfl, jd_0, jd_1, jd_2, kd_3, kd_4, kd_5⟩ := rdHead.1 h
  obtain ⟨W, hW⟩ : ∃ W, W = ((w.alloc (.cells #[.int .i64 gr.p, .int .i64 gr.q, .int .i64 gr.g] 106)).alloc (.cells #[.int .i64 d.author, .int .i64 d.size, .int .i64 d.root, .slice ad_3 nd_3 cd_3, .slice ad_4 nd_4 cd_4, .slice ad_5 nd_5 cd_5] 109)) := ⟨_, rfl⟩
  have HWB : Hid (Below w.heap.size w W) := by unfold Hid; rw [hW]; (repeat (first | exact Below.refl _ _ | assumption | refine Below.drew ?_ | refine Below.alloc ?_ (by first | (simp; done) | (simp; omega)) _ | refine Below.setCell ?_ (by first | (simp; done) | (simp; omega)) _))
  have FX : Hid (∀ W', Below W.heap.size W W' → W'.cell? ⟨w.heap.size, 0, none⟩ = some (.int .i64 gr.p) ∧ W'.cell? ⟨w.heap.size, 1, none⟩ = some (.int .i64 gr.q) ∧ W'.cell? ⟨w.heap.size, 2, none⟩ = some (.int .i64 gr.g) ∧ W'.cell? ⟨w.heap.size + 1, 0, none⟩ = some (.int .i64 d.author) ∧ W'.cell? ⟨w.heap.size + 1, 1, none⟩ = some (.int .i64 d.size) ∧ W'.cell? ⟨w.heap.size + 1, 2, none⟩ = some (.int .i64 d.root) ∧ W'.cell? ⟨w.heap.size + 1, 3, none⟩ = some (.slice ad_3 nd_3 cd_3) ∧ W'.cell? ⟨w.heap.size + 1, 4, none⟩ = some (.slice ad_4 nd_4 cd_4) ∧ W'.cell? ⟨w.heap.size + 1, 5, none⟩ = some (.slice ad_5 nd_5 cd_5)) := fun W' hb => by
    exact ⟨box_at (by rw [hW]; simp [go_sem]) hb, box_at (by rw [hW]; simp [go_sem]) hb, box_at (by rw [hW]; simp [go_sem]) hb, box_at (by rw [hW]; simp [go_sem]) hb, box_at (by rw [hW]; simp [go_sem]) hb, box_at (by rw [hW]; simp [go_sem]) hb, box_at (by rw [hW]; simp [go_sem]) hb, box_at (by rw [hW]; simp [go_sem]) hb, box_at (by rw [hW]; simp [go_sem]) hb⟩
  have hsW : W.heap.size = w.heap.size + 2 := by rw [hW]; simp
  have Hd := Lib.hid ((kS rHead).rd_below h HWB.out); clear h
  have Jd_0 := Lib.hid jd_0; clear jd_0
  have Jd_1 := Lib.hid jd_1; clear jd_1
  have Jd_2 := Lib.hid jd_2; clear jd_2
  have F_d_sign := Lib.hid ((kS rProof).rd_below (w := w) (rdProof.2 ⟨_, _, _, _, _, _, _, _, _, rfl, kd_3, kd_4, kd_5⟩ : (kS rProof).rd w (.agg #[.slice ad_3 nd_3 cd_3, .slice ad_4 nd_4 cd_4, .slice ad_5 nd_5 cd_5]) d.sign) HWB.out)
  clear kd_3 kd_4 kd_5
  have HW := Lib.hid hW; clear hW
  go_enter Try.func76, Try.ntmps76
  go_wp2_with fail
  rw [← HW.out]
  have hcum : Below W.heap.size W W := Below.refl _ _
  obtain ⟨p0_0, p0_1, p0_2, p1_0, p1_1, p1_2, p1_3, p1_4, p1_5⟩ := FX.out _ hcum
  refine (impl_IsValidGroup gr _).mono ?_
  rintro e w1 ⟨rfl, hb1⟩
  rw [H1.out]
  (replace hcum := hcum.trans (hb1.mono hcum.size)); clear hb1; clear p0_0 p0_1 p0_2 p1_0 p1_1 p1_2 p1_3 p1_4 p1_5; obtain ⟨p0_0, p0_1, p0_2, p1_0, p1_1, p1_2, p1_3, p1_4, p1_5⟩ := FX.out _ hcum
  cases q1 with
  | false =>
    go_wp2_with fail
    go_ret2
    exact ⟨rfl, Below.next HWB.out hcum⟩
  | true =>
    have HG := Lib.hid (goodG_ok H1.out)
    go_wp2_with fail
    refine (impl_has gr key _ HG.out).mono ?_
    rintro e w2 ⟨rfl, hb2⟩
    rw [H3.out]
    (replace hcum := hcum.trans (hb2.mono hcum.size)); clear hb2; clear p0_0 p0_1 p0_2 p1_0 p1_1 p1_2 p1_3 p1_4 p1_5; obtain ⟨p0_0, p0_1, p0_2, p1_0, p1_1, p1_2, p1_3, p1_4, p1_5⟩ := FX.out _ hcum
    cases q3 with
    | false =>
      go_wp2_with fail
      go_ret2
      exact ⟨rfl, Below.next HWB.out hcum⟩
    | true =>
      go_wp2_with fail
      refine (impl_isHead gr key _ d _ HG.out H3.out ((kS rHead).rd_below Hd.out hcum)).mono ?_
      rintro e w3 ⟨rfl, hb3⟩
      rw [H2.out]
      (replace hcum := hcum.trans (hb3.mono hcum.size)); clear hb3; clear p0_0 p0_1 p0_2 p1_0 p1_1 p1_2 p1_3 p1_4 p1_5; obtain ⟨p0_0, p0_1, p0_2, p1_0, p1_1, p1_2, p1_3, p1_4, p1_5⟩ := FX.out _ hcum
      go_wp2_with fail
      go_ret2
      exact ⟨rfl, Below.next HWB.out hcum⟩
end Go.Proofs.Ytlapmdcjfopbaaa

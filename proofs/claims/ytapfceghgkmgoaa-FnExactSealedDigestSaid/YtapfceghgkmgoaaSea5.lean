/- Walks: SealedDigest. -/
import Derived.Test.YtapfceghgkmgoaaSea4
import Derived.Test.YtapfceghgkmgoaaHashS
namespace Go.Proofs.Ytapfceghgkmgoaa
open Go.RowKit
set_option linter.unusedSimpArgs false
set_option linter.unusedVariables false

theorem seaR_length (d : SealedD) : (seaR d).length ≤ 400 := by
  unfold seaR; split
  · rename_i h
    unfold seaB at h
    rw [Bool.and_eq_true] at h
    exact recB_len h.2
  · simp
def sSealed : ByteArray := ⟨#[115, 101, 97, 108, 101, 100]⟩
def sdB (d : SealedD) : Bool := seaB d && labelledB sSealed (seaR d)
def sdI (d : SealedD) : Int := if seaB d = true then labelledI sSealed (seaR d) else 0
set_option maxRecDepth 100000 in
set_option maxHeartbeats 4000000 in
theorem spec_SealedDigest (v : Value) (d : SealedD) (w : World) (hz : (szSealed d : Int) ≤ 1048576) (h : (kS rSealed).rd w v d) :
    Calls Try.prog 27 #[v] w fun e w' => e = .returned (.tuple #[.int .i64 (sdI d), .bool (sdB d)]) ∧ Below w.heap.size w w' := by
  have HZ := Lib.hid hz; clear hz
  (obtain ⟨q1, h_q⟩ : ∃ b_q, seaB d = b_q := ⟨_, rfl⟩); have H1 := Lib.hid h_q; clear h_q
  (obtain ⟨q2, h_q⟩ : ∃ b_q, labelledB sSealed (seaR d) = b_q := ⟨_, rfl⟩); have H2 := Lib.hid h_q; clear h_q
  obtain ⟨x2, hx2⟩ : ∃ x, labelledI sSealed (seaR d) = x := ⟨_, rfl⟩
  have HX2 := Lib.hid hx2; clear hx2
  have HL := Lib.hid (seaR_length d)
  have HB : Hid (sdB d = (q1 && q2)) := by unfold Hid sdB; rw [H1.out, H2.out]
  have HI : Hid (sdI d = if q1 = true then x2 else 0) := by unfold Hid sdI; rw [H1.out, HX2.out]
  rw [HB.out, HI.out]
  obtain ⟨ad_1, nd_1, cd_1, ad_2, nd_2, cd_2, ad_3, nd_3, cd_3, ad_4, nd_4, cd_4, ad_5, nd_5, cd_5, rfl, jd_0, kd_1, kd_2, kd_3, kd_4, kd_5⟩ := rdSealed.1 h
  obtain ⟨W, hW⟩ : ∃ W, W = (w.alloc (.cells #[.int .i64 d.voter, .slice ad_1 nd_1 cd_1, .slice ad_2 nd_2 cd_2, .slice ad_3 nd_3 cd_3, .slice ad_4 nd_4 cd_4, .slice ad_5 nd_5 cd_5] 49)) := ⟨_, rfl⟩
  have HWB : Hid (Below w.heap.size w W) := by unfold Hid; rw [hW]; (repeat (first | exact Below.refl _ _ | assumption | refine Below.drew ?_ | refine Below.alloc ?_ (by first | (simp; done) | (simp; omega)) _ | refine Below.setCell ?_ (by first | (simp; done) | (simp; omega)) _))
  have FX : Hid (∀ W', Below W.heap.size W W' → W'.cell? ⟨w.heap.size, 0, none⟩ = some (.int .i64 d.voter) ∧ W'.cell? ⟨w.heap.size, 1, none⟩ = some (.slice ad_1 nd_1 cd_1) ∧ W'.cell? ⟨w.heap.size, 2, none⟩ = some (.slice ad_2 nd_2 cd_2) ∧ W'.cell? ⟨w.heap.size, 3, none⟩ = some (.slice ad_3 nd_3 cd_3) ∧ W'.cell? ⟨w.heap.size, 4, none⟩ = some (.slice ad_4 nd_4 cd_4) ∧ W'.cell? ⟨w.heap.size, 5, none⟩ = some (.slice ad_5 nd_5 cd_5)) := fun W' hb => by
    exact ⟨box_at (by rw [hW]; simp [go_sem]) hb, box_at (by rw [hW]; simp [go_sem]) hb, box_at (by rw [hW]; simp [go_sem]) hb, box_at (by rw [hW]; simp [go_sem]) hb, box_at (by rw [hW]; simp [go_sem]) hb, box_at (by rw [hW]; simp [go_sem]) hb⟩
  have hsW : W.heap.size = w.heap.size + 1 := by rw [hW]; simp
  have Hd := Lib.hid ((kS rSealed).rd_below h HWB.out); clear h
  have Jd_0 := Lib.hid jd_0; clear jd_0
  have F_d_ciphers := Lib.hid ((kR 225 rCipher).rd_below kd_1 HWB.out)
  have F_d_proofs := Lib.hid ((kR 47 rProof).rd_below kd_2 HWB.out)
  have F_d_sum := Lib.hid ((kS rProof).rd_below (w := w) (rdProof.2 ⟨_, _, _, _, _, _, _, _, _, rfl, kd_3, kd_4, kd_5⟩ : (kS rProof).rd w (.agg #[.slice ad_3 nd_3 cd_3, .slice ad_4 nd_4 cd_4, .slice ad_5 nd_5 cd_5]) d.sum) HWB.out)
  clear kd_1 kd_2 kd_3 kd_4 kd_5
  have HW := Lib.hid hW; clear hW
  clear hsW
  go_enter Try.func27, Try.ntmps27
  go_wp2_with fail
  rw [← HW.out]
  refine (spec_SealedRecord _ d _ HZ.out Hd.out).mono ?_
  rintro e w1 ⟨v1, rfl, ho1, hb1⟩
  rw [H1.out]
  have HO1 := Lib.hid ho1.reads
  have HB1 := Lib.hid (Below.next HWB.out hb1)
  clear ho1 hb1
  cases q1 with
  | false =>
    go_wp2_with fail
    go_ret2
    exact ⟨ret_int_bool (by simp) rfl, HB1.out⟩
  | true =>
    go_wp2_with fail
    refine (spec_HashLabelled sSealed _ (seaR d) _ HO1.out (by decide) (by have := HL.out; omega)).mono ?_
    rintro e w2 ⟨rfl, hb2⟩
    rw [H2.out, HX2.out]
    have HB2 := Lib.hid (Below.next HB1.out hb2)
    clear hb2
    go_wp2_with fail
    go_ret2
    exact ⟨ret_int_bool (by simp) rfl, HB2.out⟩
set_option maxRecDepth 100000 in
set_option maxHeartbeats 4000000 in
theorem impl_SealedDigest (v : Value) (d : SealedD) (w : World) (hz : (szSealed d : Int) ≤ 1048576) (h : (kS rSealed).rd w v d) :
    Calls Try.prog 29 #[v] w fun e w' => e = .returned (.tuple #[.int .i64 (sdI d), .bool (sdB d)]) ∧ Below w.heap.size w w' := by
  have HZ := Lib.hid hz; clear hz
  (obtain ⟨q1, h_q⟩ : ∃ b_q, seaB d = b_q := ⟨_, rfl⟩); have H1 := Lib.hid h_q; clear h_q
  (obtain ⟨q2, h_q⟩ : ∃ b_q, labelledB sSealed (seaR d) = b_q := ⟨_, rfl⟩); have H2 := Lib.hid h_q; clear h_q
  obtain ⟨x2, hx2⟩ : ∃ x, labelledI sSealed (seaR d) = x := ⟨_, rfl⟩
  have HX2 := Lib.hid hx2; clear hx2
  have HL := Lib.hid (seaR_length d)
  have HB : Hid (sdB d = (q1 && q2)) := by unfold Hid sdB; rw [H1.out, H2.out]
  have HI : Hid (sdI d = if q1 = true then x2 else 0) := by unfold Hid sdI; rw [H1.out, HX2.out]
  rw [HB.out, HI.out]
  obtain ⟨ad_1, nd_1, cd_1, ad_2, nd_2, cd_2, ad_3, nd_3, cd_3, ad_4, nd_4, cd_4, ad_5, nd_5, cd_5, rfl, jd_0, kd_1, kd_2, kd_3, kd_4, kd_5⟩ := rdSealed.1 h
  obtain ⟨W, hW⟩ : ∃ W, W = (w.alloc (.cells #[.int .i64 d.voter, .slice ad_1 nd_1 cd_1, .slice ad_2 nd_2 cd_2, .slice ad_3 nd_3 cd_3, .slice ad_4 nd_4 cd_4, .slice ad_5 nd_5 cd_5] 49)) := ⟨_, rfl⟩
  have HWB : Hid (Below w.heap.size w W) := by unfold Hid; rw [hW]; (repeat (first | exact Below.refl _ _ | assumption | refine Below.drew ?_ | refine Below.alloc ?_ (by first | (simp; done) | (simp; omega)) _ | refine Below.setCell ?_ (by first | (simp; done) | (simp; omega)) _))
  have FX : Hid (∀ W', Below W.heap.size W W' → W'.cell? ⟨w.heap.size, 0, none⟩ = some (.int .i64 d.voter) ∧ W'.cell? ⟨w.heap.size, 1, none⟩ = some (.slice ad_1 nd_1 cd_1) ∧ W'.cell? ⟨w.heap.size, 2, none⟩ = some (.slice ad_2 nd_2 cd_2) ∧ W'.cell? ⟨w.heap.size, 3, none⟩ = some (.slice ad_3 nd_3 cd_3) ∧ W'.cell? ⟨w.heap.size, 4, none⟩ = some (.slice ad_4 nd_4 cd_4) ∧ W'.cell? ⟨w.heap.size, 5, none⟩ = some (.slice ad_5 nd_5 cd_5)) := fun W' hb => by
    exact ⟨box_at (by rw [hW]; simp [go_sem]) hb, box_at (by rw [hW]; simp [go_sem]) hb, box_at (by rw [hW]; simp [go_sem]) hb, box_at (by rw [hW]; simp [go_sem]) hb, box_at (by rw [hW]; simp [go_sem]) hb, box_at (by rw [hW]; simp [go_sem]) hb⟩
  have hsW : W.heap.size = w.heap.size + 1 := by rw [hW]; simp
  have Hd := Lib.hid ((kS rSealed).rd_below h HWB.out); clear h
  have Jd_0 := Lib.hid jd_0; clear jd_0
  have F_d_ciphers := Lib.hid ((kR 225 rCipher).rd_below kd_1 HWB.out)
  have F_d_proofs := Lib.hid ((kR 47 rProof).rd_below kd_2 HWB.out)
  have F_d_sum := Lib.hid ((kS rProof).rd_below (w := w) (rdProof.2 ⟨_, _, _, _, _, _, _, _, _, rfl, kd_3, kd_4, kd_5⟩ : (kS rProof).rd w (.agg #[.slice ad_3 nd_3 cd_3, .slice ad_4 nd_4 cd_4, .slice ad_5 nd_5 cd_5]) d.sum) HWB.out)
  clear kd_1 kd_2 kd_3 kd_4 kd_5
  have HW := Lib.hid hW; clear hW
  clear hsW
  go_enter Try.func29, Try.ntmps29
  go_wp2_with fail
  rw [← HW.out]
  refine (impl_SealedRecord _ d _ HZ.out Hd.out).mono ?_
  rintro e w1 ⟨v1, rfl, ho1, hb1⟩
  rw [H1.out]
  have HO1 := Lib.hid ho1.reads
  have HB1 := Lib.hid (Below.next HWB.out hb1)
  clear ho1 hb1
  cases q1 with
  | false =>
    go_wp2_with fail
    go_ret2
    exact ⟨ret_int_bool (by simp) rfl, HB1.out⟩
  | true =>
    go_wp2_with fail
    refine (impl_HashLabelled sSealed _ (seaR d) _ HO1.out (by decide) (by have := HL.out; omega)).mono ?_
    rintro e w2 ⟨rfl, hb2⟩
    rw [H2.out, HX2.out]
    have HB2 := Lib.hid (Below.next HB1.out hb2)
    clear hb2
    go_wp2_with fail
    go_ret2
    exact ⟨ret_int_bool (by simp) rfl, HB2.out⟩
end Go.Proofs.Ytapfceghgkmgoaa

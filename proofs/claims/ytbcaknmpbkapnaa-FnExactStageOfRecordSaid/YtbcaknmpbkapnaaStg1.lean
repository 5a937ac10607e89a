/- Walks: empty proofs. -/
import Derived.Test.YtbcaknmpbkapnaaKStage
import Derived.Test.YtbcaknmpbkapnaaEncP
namespace Go.Proofs.Ytbcaknmpbkapnaa
open Go.RowKit
set_option linter.unusedSimpArgs false
set_option linter.unusedVariables false

def nz (l : List Int) : Bool := (l.length : Int) == 0
def noPr (d : ProofD) : Bool := nz d.c && (nz d.h && nz d.r)
def noMat (d : MatrixProofD) : Bool := nz d.columns && (nz d.chain && noPr d.pi)
def noPoly (d : PolyProofD) : Bool := nz d.places && (nz d.powers && (nz d.chain && noPr d.pi))
theorem nz_two (a b : Int) (ha : 0 ≤ a) (hb : 0 ≤ b) : (a + b == 0) = ((a == 0) && (b == 0)) := by
  rw [Bool.eq_iff_iff]; simp; omega
theorem nz_three (a b c : Int) (ha : 0 ≤ a) (hb : 0 ≤ b) (hc : 0 ≤ c) : (a + b + c == 0) = ((a == 0) && ((b == 0) && (c == 0))) := by
  rw [Bool.eq_iff_iff]; simp; omega
theorem cx3 (a b c : Bool) : a = false ∨ (a = true ∧ b = false) ∨ (a = true ∧ b = true ∧ c = false) ∨ (a = true ∧ b = true ∧ c = true) := by cases a <;> cases b <;> cases c <;> simp
theorem cx4 (a b c d : Bool) : a = false ∨ (a = true ∧ b = false) ∨ (a = true ∧ b = true ∧ c = false) ∨ (a = true ∧ b = true ∧ c = true ∧ d = false) ∨ (a = true ∧ b = true ∧ c = true ∧ d = true) := by
  cases a <;> cases b <;> cases c <;> cases d <;> simp
set_option maxRecDepth 100000 in
set_option maxHeartbeats 2000000 in
theorem impl_isEmptyP (v : Value) (d : ProofD) (w : World) (h : (kS rProof).rd w v d) :
    Calls Try.prog 68 #[v] w fun e w' => e = .returned (.bool (noPr d)) ∧ Below w.heap.size w w' := by
  obtain ⟨ad_0, nd_0, cd_0, ad_1, nd_1, cd_1, ad_2, nd_2, cd_2, rfl, kd_0, kd_1, kd_2⟩ := rdProof.1 h
  obtain ⟨W, hW⟩ : ∃ W, W = (w.alloc (.cells #[.slice ad_0 nd_0 cd_0, .slice ad_1 nd_1 cd_1, .slice ad_2 nd_2 cd_2] 26)) := ⟨_, rfl⟩
  have HWB : Hid (Below w.heap.size w W) := by unfold Hid; rw [hW]; (repeat (first | exact Below.refl _ _ | assumption | refine Below.drew ?_ | refine Below.alloc ?_ (by first | (simp; done) | (simp; omega)) _ | refine Below.setCell ?_ (by first | (simp; done) | (simp; omega)) _))
  have FX : Hid (∀ W', Below W.heap.size W W' → W'.cell? ⟨w.heap.size, 0, none⟩ = some (.slice ad_0 nd_0 cd_0) ∧ W'.cell? ⟨w.heap.size, 1, none⟩ = some (.slice ad_1 nd_1 cd_1) ∧ W'.cell? ⟨w.heap.size, 2, none⟩ = some (.slice ad_2 nd_2 cd_2)) := fun W' hb => by
    exact ⟨box_at (by rw [hW]; simp [go_sem]) hb, box_at (by rw [hW]; simp [go_sem]) hb, box_at (by rw [hW]; simp [go_sem]) hb⟩
  have hsW : W.heap.size = w.heap.size + 1 := by rw [hW]; simp
  have Hd := Lib.hid ((kS rProof).rd_below h HWB.out); clear h
  have F_d_c := Lib.hid (sInts.rd_below kd_0 HWB.out)
  have F_d_h := Lib.hid (sInts.rd_below kd_1 HWB.out)
  have F_d_r := Lib.hid (sInts.rd_below kd_2 HWB.out)
  clear kd_0 kd_1 kd_2
  have HW := Lib.hid hW; clear hW
  have e0 := (F_d_c.out : Ints _ _ _).len
  have e1 := (F_d_h.out : Ints _ _ _).len
  have e2 := (F_d_r.out : Ints _ _ _).len
  (obtain ⟨q0, h_q⟩ : ∃ b_q, ((nd_0 : Int) == 0) = b_q := ⟨_, rfl⟩); have H0 := Lib.hid h_q; clear h_q
  (obtain ⟨q1, h_q⟩ : ∃ b_q, ((nd_1 : Int) == 0) = b_q := ⟨_, rfl⟩); have H1 := Lib.hid h_q; clear h_q
  (obtain ⟨q2, h_q⟩ : ∃ b_q, ((nd_2 : Int) == 0) = b_q := ⟨_, rfl⟩); have H2 := Lib.hid h_q; clear h_q
  have HR : Hid (noPr d = (q0 && (q1 && q2))) := by unfold Hid noPr nz; rw [e0, e1, e2, H0.out, H1.out, H2.out]
  rw [HR.out]
  clear e0 e1 e2 hsW
  have g0 := H0.out; have g1 := H1.out; have g2 := H2.out
  rcases cx3 q0 q1 q2 with rfl | ⟨rfl, rfl⟩ | ⟨rfl, rfl, rfl⟩ | ⟨rfl, rfl, rfl⟩
  all_goals
    go_enter Try.func68, Try.ntmps68
    go_wp2_with fail
    rw [← HW.out]
    have hcum : Below W.heap.size W W := Below.refl _ _
    obtain ⟨p0_0, p0_1, p0_2⟩ := FX.out _ hcum
    go_ret
    exact ⟨rfl, HWB.out⟩
set_option maxRecDepth 100000 in
set_option maxHeartbeats 2000000 in
theorem impl_isEmptyM (v : Value) (d : MatrixProofD) (w : World) (h : (kS rMatrixProof).rd w v d) :
    Calls Try.prog 56 #[v] w fun e w' => e = .returned (.bool (noMat d)) ∧ Below w.heap.size w w' := by
  obtain ⟨ad_0, nd_0, cd_0, ad_1, nd_1, cd_1, ad_2, nd_2, cd_2, ad_3, nd_3, cd_3, ad_4, nd_4, cd_4, rfl, kd_0, kd_1, kd_2, kd_3, kd_4⟩ := rdMatrixProof.1 h
  obtain ⟨W, hW⟩ : ∃ W, W = (w.alloc (.cells #[.slice ad_0 nd_0 cd_0, .slice ad_1 nd_1 cd_1, .slice ad_2 nd_2 cd_2, .slice ad_3 nd_3 cd_3, .slice ad_4 nd_4 cd_4] 38)) := ⟨_, rfl⟩
  have HWB : Hid (Below w.heap.size w W) := by unfold Hid; rw [hW]; (repeat (first | exact Below.refl _ _ | assumption | refine Below.drew ?_ | refine Below.alloc ?_ (by first | (simp; done) | (simp; omega)) _ | refine Below.setCell ?_ (by first | (simp; done) | (simp; omega)) _))
  have FX : Hid (∀ W', Below W.heap.size W W' → W'.cell? ⟨w.heap.size, 0, none⟩ = some (.slice ad_0 nd_0 cd_0) ∧ W'.cell? ⟨w.heap.size, 1, none⟩ = some (.slice ad_1 nd_1 cd_1) ∧ W'.cell? ⟨w.heap.size, 2, none⟩ = some (.slice ad_2 nd_2 cd_2) ∧ W'.cell? ⟨w.heap.size, 3, none⟩ = some (.slice ad_3 nd_3 cd_3) ∧ W'.cell? ⟨w.heap.size, 4, none⟩ = some (.slice ad_4 nd_4 cd_4)) := fun W' hb => by
    exact ⟨box_at (by rw [hW]; simp [go_sem]) hb, box_at (by rw [hW]; simp [go_sem]) hb, box_at (by rw [hW]; simp [go_sem]) hb, box_at (by rw [hW]; simp [go_sem]) hb, box_at (by rw [hW]; simp [go_sem]) hb⟩
  have hsW : W.heap.size = w.heap.size + 1 := by rw [hW]; simp
  have Hd := Lib.hid ((kS rMatrixProof).rd_below h HWB.out); clear h
  have F_d_columns := Lib.hid (sInts.rd_below kd_0 HWB.out)
  have F_d_chain := Lib.hid (sInts.rd_below kd_1 HWB.out)
  have F_d_pi := Lib.hid ((kS rProof).rd_below (w := w) (rdProof.2 ⟨_, _, _, _, _, _, _, _, _, rfl, kd_2, kd_3, kd_4⟩ : (kS rProof).rd w (.agg #[.slice ad_2 nd_2 cd_2, .slice ad_3 nd_3 cd_3, .slice ad_4 nd_4 cd_4]) d.pi) HWB.out)
  clear kd_0 kd_1 kd_2 kd_3 kd_4
  have HW := Lib.hid hW; clear hW
  have e0 := (F_d_columns.out : Ints _ _ _).len
  have e1 := (F_d_chain.out : Ints _ _ _).len
  (obtain ⟨q0, h_q⟩ : ∃ b_q, ((nd_0 : Int) == 0) = b_q := ⟨_, rfl⟩); have H0 := Lib.hid h_q; clear h_q
  (obtain ⟨q1, h_q⟩ : ∃ b_q, ((nd_1 : Int) == 0) = b_q := ⟨_, rfl⟩); have H1 := Lib.hid h_q; clear h_q
  (obtain ⟨q2, h_q⟩ : ∃ b_q, noPr d.pi = b_q := ⟨_, rfl⟩); have H2 := Lib.hid h_q; clear h_q
  have HR : Hid (noMat d = (q0 && (q1 && q2))) := by unfold Hid noMat nz; rw [e0, e1, H0.out, H1.out, H2.out]
  rw [HR.out]
  clear e0 e1 hsW
  have g0 := H0.out; have g1 := H1.out
  cases q0 with
  | false =>
    go_enter Try.func56, Try.ntmps56
    go_wp2_with fail
    rw [← HW.out]
    have hcum : Below W.heap.size W W := Below.refl _ _
    obtain ⟨p0_0, p0_1, p0_2, p0_3, p0_4⟩ := FX.out _ hcum
    go_ret
    exact ⟨rfl, HWB.out⟩
  | true =>
    cases q1 with
    | false =>
      go_enter Try.func56, Try.ntmps56
      go_wp2_with fail
      rw [← HW.out]
      have hcum : Below W.heap.size W W := Below.refl _ _
      obtain ⟨p0_0, p0_1, p0_2, p0_3, p0_4⟩ := FX.out _ hcum
      go_ret
      exact ⟨rfl, HWB.out⟩
    | true =>
      go_enter Try.func56, Try.ntmps56
      go_wp2_with fail
      rw [← HW.out]
      have hcum : Below W.heap.size W W := Below.refl _ _
      obtain ⟨p0_0, p0_1, p0_2, p0_3, p0_4⟩ := FX.out _ hcum
      refine (impl_isEmptyP _ d.pi _ F_d_pi.out).mono ?_
      rintro e w1 ⟨rfl, hb1⟩
      rw [H2.out]
      (replace hcum := hcum.trans (hb1.mono hcum.size)); clear hb1; clear p0_0 p0_1 p0_2 p0_3 p0_4; obtain ⟨p0_0, p0_1, p0_2, p0_3, p0_4⟩ := FX.out _ hcum
      go_wp2_with fail
      go_ret
      exact ⟨rfl, Below.next HWB.out hcum⟩
set_option maxRecDepth 100000 in
set_option maxHeartbeats 2000000 in
theorem impl_isEmptyO (v : Value) (d : PolyProofD) (w : World) (h : (kS rPolyProof).rd w v d) :
    Calls Try.prog 55 #[v] w fun e w' => e = .returned (.bool (noPoly d)) ∧ Below w.heap.size w w' := by
  obtain ⟨ad_0, nd_0, cd_0, ad_1, nd_1, cd_1, ad_2, nd_2, cd_2, ad_3, nd_3, cd_3, ad_4, nd_4, cd_4, ad_5, nd_5, cd_5, rfl, kd_0, kd_1, kd_2, kd_3, kd_4, kd_5⟩ := rdPolyProof.1 h
  obtain ⟨W, hW⟩ : ∃ W, W = (w.alloc (.cells #[.slice ad_0 nd_0 cd_0, .slice ad_1 nd_1 cd_1, .slice ad_2 nd_2 cd_2, .slice ad_3 nd_3 cd_3, .slice ad_4 nd_4 cd_4, .slice ad_5 nd_5 cd_5] 40)) := ⟨_, rfl⟩
  have HWB : Hid (Below w.heap.size w W) := by unfold Hid; rw [hW]; (repeat (first | exact Below.refl _ _ | assumption | refine Below.drew ?_ | refine Below.alloc ?_ (by first | (simp; done) | (simp; omega)) _ | refine Below.setCell ?_ (by first | (simp; done) | (simp; omega)) _))
  have FX : Hid (∀ W', Below W.heap.size W W' → W'.cell? ⟨w.heap.size, 0, none⟩ = some (.slice ad_0 nd_0 cd_0) ∧ W'.cell? ⟨w.heap.size, 1, none⟩ = some (.slice ad_1 nd_1 cd_1) ∧ W'.cell? ⟨w.heap.size, 2, none⟩ = some (.slice ad_2 nd_2 cd_2) ∧ W'.cell? ⟨w.heap.size, 3, none⟩ = some (.slice ad_3 nd_3 cd_3) ∧ W'.cell? ⟨w.heap.size, 4, none⟩ = some (.slice ad_4 nd_4 cd_4) ∧ W'.cell? ⟨w.heap.size, 5, none⟩ = some (.slice ad_5 nd_5 cd_5)) := fun W' hb => by
    exact ⟨box_at (by rw [hW]; simp [go_sem]) hb, box_at (by rw [hW]; simp [go_sem]) hb, box_at (by rw [hW]; simp [go_sem]) hb, box_at (by rw [hW]; simp [go_sem]) hb, box_at (by rw [hW]; simp [go_sem]) hb, box_at (by rw [hW]; simp [go_sem]) hb⟩
  have hsW : W.heap.size = w.heap.size + 1 := by rw [hW]; simp
  have Hd := Lib.hid ((kS rPolyProof).rd_below h HWB.out); clear h
  have F_d_places := Lib.hid (sInts.rd_below kd_0 HWB.out)
  have F_d_powers := Lib.hid (sInts.rd_below kd_1 HWB.out)
  have F_d_chain := Lib.hid (sInts.rd_below kd_2 HWB.out)
  have F_d_pi := Lib.hid ((kS rProof).rd_below (w := w) (rdProof.2 ⟨_, _, _, _, _, _, _, _, _, rfl, kd_3, kd_4, kd_5⟩ : (kS rProof).rd w (.agg #[.slice ad_3 nd_3 cd_3, .slice ad_4 nd_4 cd_4, .slice ad_5 nd_5 cd_5]) d.pi) HWB.out)
  clear kd_0 kd_1 kd_2 kd_3 kd_4 kd_5
  have HW := Lib.hid hW; clear hW
  have e0 := (F_d_places.out : Ints _ _ _).len
  have e1 := (F_d_powers.out : Ints _ _ _).len
  have e2 := (F_d_chain.out : Ints _ _ _).len
  (obtain ⟨q0, h_q⟩ : ∃ b_q, ((nd_0 : Int) == 0) = b_q := ⟨_, rfl⟩); have H0 := Lib.hid h_q; clear h_q
  (obtain ⟨q1, h_q⟩ : ∃ b_q, ((nd_1 : Int) == 0) = b_q := ⟨_, rfl⟩); have H1 := Lib.hid h_q; clear h_q
  (obtain ⟨q2, h_q⟩ : ∃ b_q, ((nd_2 : Int) == 0) = b_q := ⟨_, rfl⟩); have H2 := Lib.hid h_q; clear h_q
  (obtain ⟨q3, h_q⟩ : ∃ b_q, noPr d.pi = b_q := ⟨_, rfl⟩); have H3 := Lib.hid h_q; clear h_q
  have HR : Hid (noPoly d = (q0 && (q1 && (q2 && q3)))) := by unfold Hid noPoly nz; rw [e0, e1, e2, H0.out, H1.out, H2.out, H3.out]
  rw [HR.out]
  clear e0 e1 e2 hsW
  have g0 := H0.out; have g1 := H1.out; have g2 := H2.out
  rcases cx3 q0 q1 q2 with rfl | ⟨rfl, rfl⟩ | ⟨rfl, rfl, rfl⟩ | ⟨rfl, rfl, rfl⟩
  rotate_right
  · skip
    go_enter Try.func55, Try.ntmps55
    go_wp2_with fail
    rw [← HW.out]
    have hcum : Below W.heap.size W W := Below.refl _ _
    obtain ⟨p0_0, p0_1, p0_2, p0_3, p0_4, p0_5⟩ := FX.out _ hcum
    refine (impl_isEmptyP _ d.pi _ F_d_pi.out).mono ?_
    rintro e w1 ⟨rfl, hb1⟩
    rw [H3.out]
    (replace hcum := hcum.trans (hb1.mono hcum.size)); clear hb1; clear p0_0 p0_1 p0_2 p0_3 p0_4 p0_5; obtain ⟨p0_0, p0_1, p0_2, p0_3, p0_4, p0_5⟩ := FX.out _ hcum
    go_wp2_with fail
    go_ret
    exact ⟨rfl, Below.next HWB.out hcum⟩
  all_goals
    go_enter Try.func55, Try.ntmps55
    go_wp2_with fail
    rw [← HW.out]
    have hcum : Below W.heap.size W W := Below.refl _ _
    obtain ⟨p0_0, p0_1, p0_2, p0_3, p0_4, p0_5⟩ := FX.out _ hcum
    go_ret
    exact ⟨rfl, HWB.out⟩
def argB (n : Int) : Bool := (n == 1) || (n == 2)
theorem impl_isArgument (n : Int) (w : World) : Calls Try.prog 57 #[.int .i64 n] w fun e w' => e = .returned (.bool (argB n)) ∧ w = w' := by
  (obtain ⟨q1, h_q⟩ : ∃ b_q, (n == 1) = b_q := ⟨_, rfl⟩); have H1 := Lib.hid h_q; clear h_q
  (obtain ⟨q2, h_q⟩ : ∃ b_q, (n == 2) = b_q := ⟨_, rfl⟩); have H2 := Lib.hid h_q; clear h_q
  have HR : Hid (argB n = (q1 || q2)) := by unfold Hid argB; rw [H1.out, H2.out]
  rw [HR.out]
  have g1 := H1.out; have g2 := H2.out
  cases q1
  all_goals
    go_enter Try.func57, Try.ntmps57
    go_wp2
    go_ret
    exact ⟨rfl, rfl⟩
end Go.Proofs.Ytbcaknmpbkapnaa

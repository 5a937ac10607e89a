/- Walks: keys of authors. -/
import Derived.Test.YtodennbdfloccaaGreatVHead2
namespace Go.Proofs.YtodennbdfloccaaGreat
open Go.RowKit
set_option linter.unusedSimpArgs false
set_option linter.unusedVariables false

def keysB (gr : GroupD) (l : List Int) : Bool := decide (l.length ≤ 40) && l.all (elB gr)
noncomputable def fkB (gr : GroupD) (l : List Int) : Bool := goodG gr && keysB gr l
theorem keysB_at {gr : GroupD} {l : List Int} (h : keysB gr l = true) {k : Nat} (hk : k < l.length) : elB gr (nth l k) = true := by
  unfold keysB at h
  rw [Bool.and_eq_true] at h
  rw [nth_eq hk]
  exact List.all_eq_true.1 h.2 _ (List.getElem_mem _)
theorem keysB_len {gr : GroupD} {l : List Int} (h : keysB gr l = true) : l.length ≤ 40 := by
  unfold keysB at h
  rw [Bool.and_eq_true] at h
  exact of_decide_eq_true h.1
set_option maxHeartbeats 1000000 in
theorem impl_areKeys (gr : GroupD) (v : Value) (l : List Int) (w : World) (hg : OkG gr) (h : Ints w v l) :
    Calls Tryz.prog 55 #[.agg #[.int .i64 gr.p, .int .i64 gr.q, .int .i64 gr.g], v] w fun e w' => e = .returned (.bool (keysB gr l)) ∧ Below w.heap.size w w' := by
  have HG := Lib.hid hg; clear hg
  obtain ⟨a, n, c, rfl⟩ := h.shape
  have e := h.len
  obtain ⟨k1, k2⟩ := h.capMax
  unfold maxLen at k2
  have H := Lib.hid h; clear h
  (obtain ⟨q2, h_q⟩ : ∃ b_q, l.all (elB gr) = b_q := ⟨_, rfl⟩); have H2 := Lib.hid h_q; clear h_q
  by_cases hn : n ≤ 40
  · have HR : Hid (keysB gr l = q2) := by unfold Hid keysB; rw [H2.out, e]; simp [hn]
    clear e
    have hn' : decide ((n : Int) ≤ 40) = true := by simp; omega
    obtain ⟨W, hW⟩ : ∃ W, W = (w.alloc (.cells #[.int .i64 gr.p, .int .i64 gr.q, .int .i64 gr.g] 36)) := ⟨_, rfl⟩
    have HWB : Hid (Below w.heap.size w W) := by unfold Hid; rw [hW]; (repeat (first | exact Below.refl _ _ | assumption | refine Below.drew ?_ | refine Below.alloc ?_ (by first | (simp; done) | (simp; omega)) _ | refine Below.setCell ?_ (by first | (simp; done) | (simp; omega)) _))
    have FX : Hid (∀ W', Below W.heap.size W W' → W'.cell? ⟨w.heap.size, 0, none⟩ = some (.int .i64 gr.p) ∧ W'.cell? ⟨w.heap.size, 1, none⟩ = some (.int .i64 gr.q) ∧ W'.cell? ⟨w.heap.size, 2, none⟩ = some (.int .i64 gr.g)) := fun W' hb => by
      exact ⟨box_at (by rw [hW]; simp [go_sem]) hb, box_at (by rw [hW]; simp [go_sem]) hb, box_at (by rw [hW]; simp [go_sem]) hb⟩
    have hsW : W.heap.size = w.heap.size + 1 := by rw [hW]; simp
    have HW := Lib.hid hW; clear hW
    go_enter Tryz.func55, Tryz.ntmps55
    go_wp2_with fail
    rw [← HW.out]
    have hcum : Below W.heap.size W W := Below.refl _ _
    obtain ⟨p0_0, p0_1, p0_2⟩ := FX.out _ hcum
    refine (impl_hasAll gr _ l _ HG.out (H.out.below HWB.out)).mono ?_
    rintro e w1 ⟨rfl, hb1⟩
    rw [H2.out]
    (replace hcum := hcum.trans (hb1.mono hcum.size)); clear hb1; clear p0_0 p0_1 p0_2; obtain ⟨p0_0, p0_1, p0_2⟩ := FX.out _ hcum
    go_wp2_with fail
    go_ret
    exact ⟨ret_bool (by first | (rw [HR.out]; done) | (rw [HR.out]; rfl) | exact HR.out.symm), Below.next HWB.out hcum⟩
  · have HR : Hid (keysB gr l = false) := by unfold Hid keysB; rw [e]; simp [hn]
    clear e
    have hn' : decide ((n : Int) ≤ 40) = false := by simp; omega
    obtain ⟨W, hW⟩ : ∃ W, W = (w.alloc (.cells #[.int .i64 gr.p, .int .i64 gr.q, .int .i64 gr.g] 36)) := ⟨_, rfl⟩
    have HWB : Hid (Below w.heap.size w W) := by unfold Hid; rw [hW]; (repeat (first | exact Below.refl _ _ | assumption | refine Below.drew ?_ | refine Below.alloc ?_ (by first | (simp; done) | (simp; omega)) _ | refine Below.setCell ?_ (by first | (simp; done) | (simp; omega)) _))
    have FX : Hid (∀ W', Below W.heap.size W W' → W'.cell? ⟨w.heap.size, 0, none⟩ = some (.int .i64 gr.p) ∧ W'.cell? ⟨w.heap.size, 1, none⟩ = some (.int .i64 gr.q) ∧ W'.cell? ⟨w.heap.size, 2, none⟩ = some (.int .i64 gr.g)) := fun W' hb => by
      exact ⟨box_at (by rw [hW]; simp [go_sem]) hb, box_at (by rw [hW]; simp [go_sem]) hb, box_at (by rw [hW]; simp [go_sem]) hb⟩
    have hsW : W.heap.size = w.heap.size + 1 := by rw [hW]; simp
    have HW := Lib.hid hW; clear hW
    go_enter Tryz.func55, Tryz.ntmps55
    go_wp2_with fail
    rw [← HW.out]
    have hcum : Below W.heap.size W W := Below.refl _ _
    obtain ⟨p0_0, p0_1, p0_2⟩ := FX.out _ hcum
    go_ret
    exact ⟨ret_bool (by first | (rw [HR.out]; done) | (rw [HR.out]; rfl) | exact HR.out.symm), HWB.out⟩
set_option maxHeartbeats 1000000 in
theorem spec_fKeys (gr : GroupD) (v : Value) (l : List Int) (w : World) (h : Ints w v l) :
    Calls Tryz.prog 52 #[.agg #[.int .i64 gr.p, .int .i64 gr.q, .int .i64 gr.g], v] w fun e w' => e = .returned (.bool (fkB gr l)) ∧ Below w.heap.size w w' := by
  obtain ⟨a, n, c, rfl⟩ := h.shape
  have e := h.len
  obtain ⟨k1, k2⟩ := h.capMax
  unfold maxLen at k2
  have H := Lib.hid h; clear h
  (obtain ⟨q1, h_q⟩ : ∃ b_q, goodG gr = b_q := ⟨_, rfl⟩); have H1 := Lib.hid h_q; clear h_q
  (obtain ⟨q2, h_q⟩ : ∃ b_q, l.all (elB gr) = b_q := ⟨_, rfl⟩); have H2 := Lib.hid h_q; clear h_q
  (obtain ⟨q3, h_q⟩ : ∃ b_q, decide ((n : Int) ≤ 40) = b_q := ⟨_, rfl⟩); have H3 := Lib.hid h_q; clear h_q
  have HR : Hid (fkB gr l = (q1 && (q3 && q2))) := by unfold Hid fkB keysB; rw [H1.out, H2.out, e, ← H3.out]; congr 3; simp; omega
  rw [HR.out]
  clear e
  obtain ⟨W, hW⟩ : ∃ W, W = (w.alloc (.cells #[.int .i64 gr.p, .int .i64 gr.q, .int .i64 gr.g] 36)) := ⟨_, rfl⟩
  have HWB : Hid (Below w.heap.size w W) := by unfold Hid; rw [hW]; (repeat (first | exact Below.refl _ _ | assumption | refine Below.drew ?_ | refine Below.alloc ?_ (by first | (simp; done) | (simp; omega)) _ | refine Below.setCell ?_ (by first | (simp; done) | (simp; omega)) _))
  have FX : Hid (∀ W', Below W.heap.size W W' → W'.cell? ⟨w.heap.size, 0, none⟩ = some (.int .i64 gr.p) ∧ W'.cell? ⟨w.heap.size, 1, none⟩ = some (.int .i64 gr.q) ∧ W'.cell? ⟨w.heap.size, 2, none⟩ = some (.int .i64 gr.g)) := fun W' hb => by
    exact ⟨box_at (by rw [hW]; simp [go_sem]) hb, box_at (by rw [hW]; simp [go_sem]) hb, box_at (by rw [hW]; simp [go_sem]) hb⟩
  have hsW : W.heap.size = w.heap.size + 1 := by rw [hW]; simp
  have HW := Lib.hid hW; clear hW
  go_enter Tryz.func52, Tryz.ntmps52
  go_wp2_with fail
  rw [← HW.out]
  have hcum : Below W.heap.size W W := Below.refl _ _
  obtain ⟨p0_0, p0_1, p0_2⟩ := FX.out _ hcum
  refine (spec_l2Good gr _).mono ?_
  rintro e w1 ⟨rfl, hb1⟩
  rw [H1.out]
  (replace hcum := hcum.trans (hb1.mono hcum.size)); clear hb1; clear p0_0 p0_1 p0_2; obtain ⟨p0_0, p0_1, p0_2⟩ := FX.out _ hcum
  cases q1 with
  | false =>
    go_wp2_with fail
    go_ret
    exact ⟨rfl, Below.next HWB.out hcum⟩
  | true =>
    have HG := Lib.hid (goodG_ok H1.out)
    have h3 := H3.out
    cases q3 with
    | false =>
      go_wp2_with fail
      go_ret
      exact ⟨rfl, Below.next HWB.out hcum⟩
    | true =>
      go_wp2_with fail
      refine (spec_gIs gr _ l _ HG.out ((H.out.below HWB.out).below hcum)).mono ?_
      rintro e w2 ⟨rfl, hb2⟩
      rw [H2.out]
      (replace hcum := hcum.trans (hb2.mono hcum.size)); clear hb2; clear p0_0 p0_1 p0_2; obtain ⟨p0_0, p0_1, p0_2⟩ := FX.out _ hcum
      go_wp2_with fail
      go_ret
      exact ⟨rfl, Below.next HWB.out hcum⟩
end Go.Proofs.YtodennbdfloccaaGreat

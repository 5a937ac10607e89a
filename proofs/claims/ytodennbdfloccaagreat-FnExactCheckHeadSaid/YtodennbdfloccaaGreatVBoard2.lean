/- Walks: valid boards; IsValidBoard. -/
import Derived.Test.YtodennbdfloccaaGreatVBoard
namespace Go.Proofs.YtodennbdfloccaaGreat
open Go.RowKit
set_option linter.unusedSimpArgs false
set_option linter.unusedVariables false

/-- a valid group and a valid board of it -/
noncomputable def vbR (gr : GroupD) (d : BoardD) : Bool := goodG gr && boardB gr d
theorem vbR_ok {gr : GroupD} {d : BoardD} (h : vbR gr d = true) : OkG gr ∧ boardB gr d = true := by
  unfold vbR at h; rw [Bool.and_eq_true] at h; exact ⟨goodG_ok h.1, h.2⟩
theorem boardB_parts {gr : GroupD} {d : BoardD} (h : boardB gr d = true) : keysB gr d.keys = true ∧ d.entries.length ≤ 64 ∧ entsB gr d.keys d.entries = true := by
  unfold boardB at h
  rw [Bool.and_eq_true, Bool.and_eq_true] at h
  exact ⟨h.1, of_decide_eq_true h.2.1, h.2.2⟩
theorem boardB_loop {gr : GroupD} {d : BoardD} (h : keysB gr d.keys = true) (h64 : d.entries.length ≤ 64) : boardB gr d = entsB gr d.keys d.entries := by
  unfold boardB; rw [h, decide_eq_true h64]; rfl
theorem boardB_k {gr : GroupD} {d : BoardD} (h : keysB gr d.keys = false) : boardB gr d = false := by unfold boardB; rw [h]; rfl
theorem boardB_n {gr : GroupD} {d : BoardD} (h : ¬ d.entries.length ≤ 64) : boardB gr d = false := by unfold boardB; rw [decide_eq_false h, Bool.false_and, Bool.and_false]
set_option maxRecDepth 100000 in
set_option maxHeartbeats 2000000 in
theorem impl_isBoard (gr : GroupD) (d : BoardD) (v : Value) (w : World) (hg : OkG gr) (h : (kS rBoard).rd w v d) :
    Calls Tryz.prog 78 #[.agg #[.int .i64 gr.p, .int .i64 gr.q, .int .i64 gr.g], v] w fun e w' => e = .returned (.bool (boardB gr d)) ∧ Below w.heap.size w w' := by
  cases hk : keysB gr d.keys with
  | false =>
    rw [boardB_k hk]
    have HG := Lib.hid hg; clear hg
    have HK := Lib.hid hk; clear hk
    obtain ⟨ad_0, nd_0, cd_0, ad_1, nd_1, cd_1, rfl, kd_0, kd_1⟩ := rdBoard.1 h
    obtain ⟨W, hW⟩ : ∃ W, W = ((w.alloc (.cells #[.int .i64 gr.p, .int .i64 gr.q, .int .i64 gr.g] 36)).alloc (.cells #[.slice ad_0 nd_0 cd_0, .slice ad_1 nd_1 cd_1] 40)) := ⟨_, rfl⟩
    have HWB : Hid (Below w.heap.size w W) := by unfold Hid; rw [hW]; (repeat (first | exact Below.refl _ _ | assumption | refine Below.drew ?_ | refine Below.alloc ?_ (by first | (simp; done) | (simp; omega)) _ | refine Below.setCell ?_ (by first | (simp; done) | (simp; omega)) _))
    have FX : Hid (∀ W', Below W.heap.size W W' → W'.cell? ⟨w.heap.size, 0, none⟩ = some (.int .i64 gr.p) ∧ W'.cell? ⟨w.heap.size, 1, none⟩ = some (.int .i64 gr.q) ∧ W'.cell? ⟨w.heap.size, 2, none⟩ = some (.int .i64 gr.g) ∧ W'.cell? ⟨w.heap.size + 1, 0, none⟩ = some (.slice ad_0 nd_0 cd_0) ∧ W'.cell? ⟨w.heap.size + 1, 1, none⟩ = some (.slice ad_1 nd_1 cd_1)) := fun W' hb => by
      exact ⟨box_at (by rw [hW]; simp [go_sem]) hb, box_at (by rw [hW]; simp [go_sem]) hb, box_at (by rw [hW]; simp [go_sem]) hb, box_at (by rw [hW]; simp [go_sem]) hb, box_at (by rw [hW]; simp [go_sem]) hb⟩
    have hsW : W.heap.size = w.heap.size + 2 := by rw [hW]; simp
    have Hd := Lib.hid ((kS rBoard).rd_below h HWB.out); clear h
    have F_d_keys := Lib.hid (sInts.rd_below kd_0 HWB.out)
    have F_d_entries := Lib.hid ((kR 115 rEntry).rd_below kd_1 HWB.out)
    clear kd_0 kd_1
    have HW := Lib.hid hW; clear hW
    go_enter Tryz.func78, Tryz.ntmps78
    go_wp2_with fail
    rw [← HW.out]
    have hcum : Below W.heap.size W W := Below.refl _ _
    obtain ⟨p0_0, p0_1, p0_2, p1_0, p1_1⟩ := FX.out _ hcum
    refine (impl_areKeys gr _ d.keys _ HG.out F_d_keys.out).mono ?_
    rintro e w1 ⟨rfl, hb1⟩
    rw [HK.out]
    (replace hcum := hcum.trans (hb1.mono hcum.size)); clear hb1; clear p0_0 p0_1 p0_2 p1_0 p1_1; obtain ⟨p0_0, p0_1, p0_2, p1_0, p1_1⟩ := FX.out _ hcum
    go_wp2_with fail
    go_ret
    exact ⟨rfl, Below.next HWB.out hcum⟩
  | true =>
    by_cases h64 : d.entries.length ≤ 64
    · rw [boardB_loop hk h64]
      exact impl_isBoard_loop gr d v w hg h hk h64
    · rw [boardB_n h64]
      have HG := Lib.hid hg; clear hg
      have HK := Lib.hid hk; clear hk
      obtain ⟨ad_0, nd_0, cd_0, ad_1, nd_1, cd_1, rfl, kd_0, kd_1⟩ := rdBoard.1 h
      obtain ⟨W, hW⟩ : ∃ W, W = ((w.alloc (.cells #[.int .i64 gr.p, .int .i64 gr.q, .int .i64 gr.g] 36)).alloc (.cells #[.slice ad_0 nd_0 cd_0, .slice ad_1 nd_1 cd_1] 40)) := ⟨_, rfl⟩
      have HWB : Hid (Below w.heap.size w W) := by unfold Hid; rw [hW]; (repeat (first | exact Below.refl _ _ | assumption | refine Below.drew ?_ | refine Below.alloc ?_ (by first | (simp; done) | (simp; omega)) _ | refine Below.setCell ?_ (by first | (simp; done) | (simp; omega)) _))
      have FX : Hid (∀ W', Below W.heap.size W W' → W'.cell? ⟨w.heap.size, 0, none⟩ = some (.int .i64 gr.p) ∧ W'.cell? ⟨w.heap.size, 1, none⟩ = some (.int .i64 gr.q) ∧ W'.cell? ⟨w.heap.size, 2, none⟩ = some (.int .i64 gr.g) ∧ W'.cell? ⟨w.heap.size + 1, 0, none⟩ = some (.slice ad_0 nd_0 cd_0) ∧ W'.cell? ⟨w.heap.size + 1, 1, none⟩ = some (.slice ad_1 nd_1 cd_1)) := fun W' hb => by
        exact ⟨box_at (by rw [hW]; simp [go_sem]) hb, box_at (by rw [hW]; simp [go_sem]) hb, box_at (by rw [hW]; simp [go_sem]) hb, box_at (by rw [hW]; simp [go_sem]) hb, box_at (by rw [hW]; simp [go_sem]) hb⟩
      have hsW : W.heap.size = w.heap.size + 2 := by rw [hW]; simp
      have Hd := Lib.hid ((kS rBoard).rd_below h HWB.out); clear h
      have F_d_keys := Lib.hid (sInts.rd_below kd_0 HWB.out)
      have F_d_entries := Lib.hid ((kR 115 rEntry).rd_below kd_1 HWB.out)
      clear kd_0 kd_1
      have HW := Lib.hid hW; clear hW
      have hel := (F_d_entries.out : RdR _ _ _ _).len
      have hn : ¬ nd_1 ≤ 64 := by omega
      have hg1 : decide ((64 : Int) < (nd_1 : Int)) = true := decide_eq_true (by omega)
      clear hel h64
      go_enter Tryz.func78, Tryz.ntmps78
      go_wp2_with fail
      rw [← HW.out]
      have hcum : Below W.heap.size W W := Below.refl _ _
      obtain ⟨p0_0, p0_1, p0_2, p1_0, p1_1⟩ := FX.out _ hcum
      refine (impl_areKeys gr _ d.keys _ HG.out F_d_keys.out).mono ?_
      rintro e w1 ⟨rfl, hb1⟩
      rw [HK.out]
      (replace hcum := hcum.trans (hb1.mono hcum.size)); clear hb1; clear p0_0 p0_1 p0_2 p1_0 p1_1; obtain ⟨p0_0, p0_1, p0_2, p1_0, p1_1⟩ := FX.out _ hcum
      go_wp2_with fail
      go_ret
      exact ⟨rfl, Below.next HWB.out hcum⟩
set_option maxRecDepth 100000 in
set_option maxHeartbeats 2000000 in
theorem impl_areBoard (gr : GroupD) (d : BoardD) (v : Value) (w : World) (h : (kS rBoard).rd w v d) :
    Calls Tryz.prog 46 #[.agg #[.int .i64 gr.p, .int .i64 gr.q, .int .i64 gr.g], v] w fun e w' => e = .returned (.bool (vbR gr d)) ∧ Below w.heap.size w w' := by
  (obtain ⟨q1, h_q⟩ : ∃ b_q, goodG gr = b_q := ⟨_, rfl⟩); have H1 := Lib.hid h_q; clear h_q
  (obtain ⟨q2, h_q⟩ : ∃ b_q, boardB gr d = b_q := ⟨_, rfl⟩); have H2 := Lib.hid h_q; clear h_q
  have HR : Hid (vbR gr d = (q1 && q2)) := by unfold Hid vbR; rw [H1.out, H2.out]
  rw [HR.out]
  obtain ⟨ad_0, nd_0, cd_0, ad_1, nd_1, cd_1, rfl, kd_0, kd_1⟩ := rdBoard.1 h
  obtain ⟨W, hW⟩ : ∃ W, W = ((w.alloc (.cells #[.int .i64 gr.p, .int .i64 gr.q, .int .i64 gr.g] 36)).alloc (.cells #[.slice ad_0 nd_0 cd_0, .slice ad_1 nd_1 cd_1] 40)) := ⟨_, rfl⟩
  have HWB : Hid (Below w.heap.size w W) := by unfold Hid; rw [hW]; (repeat (first | exact Below.refl _ _ | assumption | refine Below.drew ?_ | refine Below.alloc ?_ (by first | (simp; done) | (simp; omega)) _ | refine Below.setCell ?_ (by first | (simp; done) | (simp; omega)) _))
  have FX : Hid (∀ W', Below W.heap.size W W' → W'.cell? ⟨w.heap.size, 0, none⟩ = some (.int .i64 gr.p) ∧ W'.cell? ⟨w.heap.size, 1, none⟩ = some (.int .i64 gr.q) ∧ W'.cell? ⟨w.heap.size, 2, none⟩ = some (.int .i64 gr.g) ∧ W'.cell? ⟨w.heap.size + 1, 0, none⟩ = some (.slice ad_0 nd_0 cd_0) ∧ W'.cell? ⟨w.heap.size + 1, 1, none⟩ = some (.slice ad_1 nd_1 cd_1)) := fun W' hb => by
    exact ⟨box_at (by rw [hW]; simp [go_sem]) hb, box_at (by rw [hW]; simp [go_sem]) hb, box_at (by rw [hW]; simp [go_sem]) hb, box_at (by rw [hW]; simp [go_sem]) hb, box_at (by rw [hW]; simp [go_sem]) hb⟩
  have hsW : W.heap.size = w.heap.size + 2 := by rw [hW]; simp
  have Hd := Lib.hid ((kS rBoard).rd_below h HWB.out); clear h
  have F_d_keys := Lib.hid (sInts.rd_below kd_0 HWB.out)
  have F_d_entries := Lib.hid ((kR 115 rEntry).rd_below kd_1 HWB.out)
  clear kd_0 kd_1
  have HW := Lib.hid hW; clear hW
  go_enter Tryz.func46, Tryz.ntmps46
  go_wp2_with fail
  rw [← HW.out]
  have hcum : Below W.heap.size W W := Below.refl _ _
  obtain ⟨p0_0, p0_1, p0_2, p1_0, p1_1⟩ := FX.out _ hcum
  refine (impl_IsValidGroup gr _).mono ?_
  rintro e w1 ⟨rfl, hb1⟩
  rw [H1.out]
  (replace hcum := hcum.trans (hb1.mono hcum.size)); clear hb1; clear p0_0 p0_1 p0_2 p1_0 p1_1; obtain ⟨p0_0, p0_1, p0_2, p1_0, p1_1⟩ := FX.out _ hcum
  cases q1 with
  | false =>
    go_wp2_with fail
    go_ret
    exact ⟨rfl, Below.next HWB.out hcum⟩
  | true =>
    have HG := Lib.hid (goodG_ok H1.out)
    have HC := Lib.hid hcum
    go_wp2_with fail
    refine (impl_isBoard gr d _ _ HG.out ((kS rBoard).rd_below Hd.out HC.out)).mono ?_
    rintro e w2 ⟨rfl, hb2⟩
    rw [H2.out]
    (replace hcum := hcum.trans (hb2.mono hcum.size)); clear hb2; clear p0_0 p0_1 p0_2 p1_0 p1_1; obtain ⟨p0_0, p0_1, p0_2, p1_0, p1_1⟩ := FX.out _ hcum
    go_wp2_with fail
    go_ret
    exact ⟨rfl, Below.next HWB.out hcum⟩
set_option maxRecDepth 100000 in
set_option maxHeartbeats 2000000 in
theorem spec_oBoard (gr : GroupD) (d : BoardD) (v : Value) (w : World) (hg : OkG gr) (h : (kS rBoard).rd w v d) :
    Calls Tryz.prog 42 #[.agg #[.int .i64 gr.p, .int .i64 gr.q, .int .i64 gr.g], v] w fun e w' => e = .returned (.bool (boardB gr d)) ∧ Below w.heap.size w w' := by
  by_cases h40 : d.keys.length ≤ 40
  rotate_left
  · have hk : keysB gr d.keys = false := by unfold keysB; rw [decide_eq_false h40]; rfl
    rw [boardB_k hk]
    clear hk hg
    obtain ⟨ad_0, nd_0, cd_0, ad_1, nd_1, cd_1, rfl, kd_0, kd_1⟩ := rdBoard.1 h
    obtain ⟨W, hW⟩ : ∃ W, W = ((w.alloc (.cells #[.int .i64 gr.p, .int .i64 gr.q, .int .i64 gr.g] 36)).alloc (.cells #[.slice ad_0 nd_0 cd_0, .slice ad_1 nd_1 cd_1] 40)) := ⟨_, rfl⟩
    have HWB : Hid (Below w.heap.size w W) := by unfold Hid; rw [hW]; (repeat (first | exact Below.refl _ _ | assumption | refine Below.drew ?_ | refine Below.alloc ?_ (by first | (simp; done) | (simp; omega)) _ | refine Below.setCell ?_ (by first | (simp; done) | (simp; omega)) _))
    have FX : Hid (∀ W', Below W.heap.size W W' → W'.cell? ⟨w.heap.size, 0, none⟩ = some (.int .i64 gr.p) ∧ W'.cell? ⟨w.heap.size, 1, none⟩ = some (.int .i64 gr.q) ∧ W'.cell? ⟨w.heap.size, 2, none⟩ = some (.int .i64 gr.g) ∧ W'.cell? ⟨w.heap.size + 1, 0, none⟩ = some (.slice ad_0 nd_0 cd_0) ∧ W'.cell? ⟨w.heap.size + 1, 1, none⟩ = some (.slice ad_1 nd_1 cd_1)) := fun W' hb => by
      exact ⟨box_at (by rw [hW]; simp [go_sem]) hb, box_at (by rw [hW]; simp [go_sem]) hb, box_at (by rw [hW]; simp [go_sem]) hb, box_at (by rw [hW]; simp [go_sem]) hb, box_at (by rw [hW]; simp [go_sem]) hb⟩
    have hsW : W.heap.size = w.heap.size + 2 := by rw [hW]; simp
    have Hd := Lib.hid ((kS rBoard).rd_below h HWB.out); clear h
    have F_d_keys := Lib.hid (sInts.rd_below kd_0 HWB.out)
    have F_d_entries := Lib.hid ((kR 115 rEntry).rd_below kd_1 HWB.out)
    clear kd_0 kd_1
    have HW := Lib.hid hW; clear hW
    have hkl := (F_d_keys.out : Ints _ _ _).len
    have hg1 : decide ((40 : Int) < (nd_0 : Int)) = true := decide_eq_true (by omega)
    have hn : ¬ nd_0 ≤ 40 := by omega
    clear hkl h40
    go_enter Tryz.func42, Tryz.ntmps42
    go_wp2_with fail
    rw [← HW.out]
    have hcum : Below W.heap.size W W := Below.refl _ _
    obtain ⟨p0_0, p0_1, p0_2, p1_0, p1_1⟩ := FX.out _ hcum
    go_ret
    exact ⟨rfl, HWB.out⟩
  · cases hk : keysB gr d.keys with
    | false =>
      rw [boardB_k hk]
      have HG := Lib.hid hg; clear hg
      have HK : Hid (d.keys.all (elB gr) = false) := by
        unfold keysB at hk
        rw [decide_eq_true h40, Bool.true_and] at hk; exact hk
      clear hk
      obtain ⟨ad_0, nd_0, cd_0, ad_1, nd_1, cd_1, rfl, kd_0, kd_1⟩ := rdBoard.1 h
      obtain ⟨W, hW⟩ : ∃ W, W = ((w.alloc (.cells #[.int .i64 gr.p, .int .i64 gr.q, .int .i64 gr.g] 36)).alloc (.cells #[.slice ad_0 nd_0 cd_0, .slice ad_1 nd_1 cd_1] 40)) := ⟨_, rfl⟩
      have HWB : Hid (Below w.heap.size w W) := by unfold Hid; rw [hW]; (repeat (first | exact Below.refl _ _ | assumption | refine Below.drew ?_ | refine Below.alloc ?_ (by first | (simp; done) | (simp; omega)) _ | refine Below.setCell ?_ (by first | (simp; done) | (simp; omega)) _))
      have FX : Hid (∀ W', Below W.heap.size W W' → W'.cell? ⟨w.heap.size, 0, none⟩ = some (.int .i64 gr.p) ∧ W'.cell? ⟨w.heap.size, 1, none⟩ = some (.int .i64 gr.q) ∧ W'.cell? ⟨w.heap.size, 2, none⟩ = some (.int .i64 gr.g) ∧ W'.cell? ⟨w.heap.size + 1, 0, none⟩ = some (.slice ad_0 nd_0 cd_0) ∧ W'.cell? ⟨w.heap.size + 1, 1, none⟩ = some (.slice ad_1 nd_1 cd_1)) := fun W' hb => by
        exact ⟨box_at (by rw [hW]; simp [go_sem]) hb, box_at (by rw [hW]; simp [go_sem]) hb, box_at (by rw [hW]; simp [go_sem]) hb, box_at (by rw [hW]; simp [go_sem]) hb, box_at (by rw [hW]; simp [go_sem]) hb⟩
      have hsW : W.heap.size = w.heap.size + 2 := by rw [hW]; simp
      have Hd := Lib.hid ((kS rBoard).rd_below h HWB.out); clear h
      have F_d_keys := Lib.hid (sInts.rd_below kd_0 HWB.out)
      have F_d_entries := Lib.hid ((kR 115 rEntry).rd_below kd_1 HWB.out)
      clear kd_0 kd_1
      have HW := Lib.hid hW; clear hW
      have hkl := (F_d_keys.out : Ints _ _ _).len
      have hn : nd_0 ≤ 40 := by omega
      clear hkl h40
      go_enter Tryz.func42, Tryz.ntmps42
      go_wp2_with fail
      rw [← HW.out]
      have hcum : Below W.heap.size W W := Below.refl _ _
      obtain ⟨p0_0, p0_1, p0_2, p1_0, p1_1⟩ := FX.out _ hcum
      refine (spec_gIs gr _ d.keys _ HG.out F_d_keys.out).mono ?_
      rintro e w1 ⟨rfl, hb1⟩
      rw [HK.out]
      (replace hcum := hcum.trans (hb1.mono hcum.size)); clear hb1; clear p0_0 p0_1 p0_2 p1_0 p1_1; obtain ⟨p0_0, p0_1, p0_2, p1_0, p1_1⟩ := FX.out _ hcum
      go_wp2_with fail
      go_ret
      exact ⟨rfl, Below.next HWB.out hcum⟩
    | true =>
      by_cases h64 : d.entries.length ≤ 64
      · rw [boardB_loop hk h64]
        exact spec_oBoard_loop gr d v w hg h hk h64
      · rw [boardB_n h64]
        have HG := Lib.hid hg; clear hg
        have HK : Hid (d.keys.all (elB gr) = true) := by
          unfold keysB at hk
          rw [decide_eq_true h40, Bool.true_and] at hk; exact hk
        clear hk
        obtain ⟨ad_0, nd_0, cd_0, ad_1, nd_1, cd_1, rfl, kd_0, kd_1⟩ := rdBoard.1 h
        obtain ⟨W, hW⟩ : ∃ W, W = ((w.alloc (.cells #[.int .i64 gr.p, .int .i64 gr.q, .int .i64 gr.g] 36)).alloc (.cells #[.slice ad_0 nd_0 cd_0, .slice ad_1 nd_1 cd_1] 40)) := ⟨_, rfl⟩
        have HWB : Hid (Below w.heap.size w W) := by unfold Hid; rw [hW]; (repeat (first | exact Below.refl _ _ | assumption | refine Below.drew ?_ | refine Below.alloc ?_ (by first | (simp; done) | (simp; omega)) _ | refine Below.setCell ?_ (by first | (simp; done) | (simp; omega)) _))
        have FX : Hid (∀ W', Below W.heap.size W W' → W'.cell? ⟨w.heap.size, 0, none⟩ = some (.int .i64 gr.p) ∧ W'.cell? ⟨w.heap.size, 1, none⟩ = some (.int .i64 gr.q) ∧ W'.cell? ⟨w.heap.size, 2, none⟩ = some (.int .i64 gr.g) ∧ W'.cell? ⟨w.heap.size + 1, 0, none⟩ = some (.slice ad_0 nd_0 cd_0) ∧ W'.cell? ⟨w.heap.size + 1, 1, none⟩ = some (.slice ad_1 nd_1 cd_1)) := fun W' hb => by
          exact ⟨box_at (by rw [hW]; simp [go_sem]) hb, box_at (by rw [hW]; simp [go_sem]) hb, box_at (by rw [hW]; simp [go_sem]) hb, box_at (by rw [hW]; simp [go_sem]) hb, box_at (by rw [hW]; simp [go_sem]) hb⟩
        have hsW : W.heap.size = w.heap.size + 2 := by rw [hW]; simp
        have Hd := Lib.hid ((kS rBoard).rd_below h HWB.out); clear h
        have F_d_keys := Lib.hid (sInts.rd_below kd_0 HWB.out)
        have F_d_entries := Lib.hid ((kR 115 rEntry).rd_below kd_1 HWB.out)
        clear kd_0 kd_1
        have HW := Lib.hid hW; clear hW
        have hkl := (F_d_keys.out : Ints _ _ _).len
        have hn0 : nd_0 ≤ 40 := by omega
        have hel := (F_d_entries.out : RdR _ _ _ _).len
        have hn : ¬ nd_1 ≤ 64 := by omega
        have hg1 : decide ((64 : Int) < (nd_1 : Int)) = true := decide_eq_true (by omega)
        clear hel h64 hkl h40
        go_enter Tryz.func42, Tryz.ntmps42
        go_wp2_with fail
        rw [← HW.out]
        have hcum : Below W.heap.size W W := Below.refl _ _
        obtain ⟨p0_0, p0_1, p0_2, p1_0, p1_1⟩ := FX.out _ hcum
        refine (spec_gIs gr _ d.keys _ HG.out F_d_keys.out).mono ?_
        rintro e w1 ⟨rfl, hb1⟩
        rw [HK.out]
        (replace hcum := hcum.trans (hb1.mono hcum.size)); clear hb1; clear p0_0 p0_1 p0_2 p1_0 p1_1; obtain ⟨p0_0, p0_1, p0_2, p1_0, p1_1⟩ := FX.out _ hcum
        go_wp2_with fail
        go_ret
        exact ⟨rfl, Below.next HWB.out hcum⟩
end Go.Proofs.YtodennbdfloccaaGreat

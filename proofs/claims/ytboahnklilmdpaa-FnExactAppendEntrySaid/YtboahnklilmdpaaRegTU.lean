/- Walks: valid boards; IsValidBoard. -/
import Derived.Test.YtboahnklilmdpaaVBoardU
import Derived.Test.YtboahnklilmdpaaRows
import Derived.OrdersHeld
import Derived.Deep.RegionHeld
import Derived.Still
import Derived.WalkKit
namespace Go.Proofs.Ytboahnklilmdpaa
open Go.RowKit
set_option linter.unusedSimpArgs false
set_option linter.unusedVariables false

/-- a valid group and a valid board of it -/
noncomputable def vbR (gr : GroupD) (d : BoardD) : Bool := goodG gr && boardB gr d
theorem boardB_loop {gr : GroupD} {d : BoardD} (h : keysB gr d.keys = true) (h64 : d.entries.length ≤ 64) : boardB gr d = entsB gr d.keys d.entries := by
  unfold boardB; rw [h, decide_eq_true h64]; rfl
theorem boardB_k {gr : GroupD} {d : BoardD} (h : keysB gr d.keys = false) : boardB gr d = false := by unfold boardB; rw [h]; rfl
theorem boardB_n {gr : GroupD} {d : BoardD} (h : ¬ d.entries.length ≤ 64) : boardB gr d = false := by unfold boardB; rw [decide_eq_false h, Bool.false_and, Bool.and_false]
set_option maxRecDepth 100000 in
set_option maxHeartbeats 2000000 in
theorem impl_isBoard (gr : GroupD) (d : BoardD) (v : Value) (w : World) (hg : OkG gr) (h : (kS rBoard).rd w v d) :
    Calls Try.prog 254 #[.agg #[.int .i64 gr.p, .int .i64 gr.q, .int .i64 gr.g], v] w fun e w' => e = .returned (.bool (boardB gr d)) ∧ Below w.heap.size w w' := by
  cases hk : keysB gr d.keys with
  | false =>
    rw [boardB_k hk]
    have HG := Lib.hid hg; clear hg
    have HK := Lib.hid hk; clear hk
    obtain ⟨ad_0, nd_0, cd_0, ad_1, nd_1, cd_1, rfl, kd_0, kd_1⟩ := rdBoard.1 h
    obtain ⟨W, hW⟩ : ∃ W, W = ((w.alloc (.cells #[.int .i64 gr.p, .int .i64 gr.q, .int .i64 gr.g] 39)).alloc (.cells #[.slice ad_0 nd_0 cd_0, .slice ad_1 nd_1 cd_1] 36)) := ⟨_, rfl⟩
    have HWB : Hid (Below w.heap.size w W) := by unfold Hid; rw [hW]; (repeat (first | exact Below.refl _ _ | assumption | refine Below.drew ?_ | refine Below.alloc ?_ (by first | (simp; done) | (simp; omega)) _ | refine Below.setCell ?_ (by first | (simp; done) | (simp; omega)) _))
    have FX : Hid (∀ W', Below W.heap.size W W' → W'.cell? ⟨w.heap.size, 0, none⟩ = some (.int .i64 gr.p) ∧ W'.cell? ⟨w.heap.size, 1, none⟩ = some (.int .i64 gr.q) ∧ W'.cell? ⟨w.heap.size, 2, none⟩ = some (.int .i64 gr.g) ∧ W'.cell? ⟨w.heap.size + 1, 0, none⟩ = some (.slice ad_0 nd_0 cd_0) ∧ W'.cell? ⟨w.heap.size + 1, 1, none⟩ = some (.slice ad_1 nd_1 cd_1)) := fun W' hb => by
      exact ⟨box_at (by rw [hW]; simp [go_sem]) hb, box_at (by rw [hW]; simp [go_sem]) hb, box_at (by rw [hW]; simp [go_sem]) hb, box_at (by rw [hW]; simp [go_sem]) hb, box_at (by rw [hW]; simp [go_sem]) hb⟩
    have hsW : W.heap.size = w.heap.size + 2 := by rw [hW]; simp
    have Hd := Lib.hid ((kS rBoard).rd_below h HWB.out); clear h
    have F_d_keys := Lib.hid (sInts.rd_below kd_0 HWB.out)
    have F_d_entries := Lib.hid ((kR 44 rEntry).rd_below kd_1 HWB.out)
    clear kd_0 kd_1
    have HW := Lib.hid hW; clear hW
    go_enter Try.func254, Try.ntmps254
    go_wp2_with fail
    rw [← HW.out]
    have hcum : Below W.heap.size W W := Below.refl _ _
    obtain ⟨p0_0, p0_1, p0_2, p1_0, p1_1⟩ := FX.out _ hcum
    refine (impl_areKeys gr _ d.keys _ HG.out F_d_keys.out).mono ?_
    rintro e w1 ⟨rfl, hb1⟩
    rw [HK.out]
    (replace hcum := hcum.trans (hb1.mono hcum.size)); clear hb1; clear p0_0 p0_1 p0_2 p1_0 p1_1; obtain ⟨p0_0, p0_1, p0_2, p1_0, p1_1⟩ := FX.out _ hcum
    go_wp2_with fail
    go_ret
    exact ⟨rfl, Below.next HWB.out hcum⟩
  | true =>
    by_cases h64 : d.entries.length ≤ 64
    · rw [boardB_loop hk h64]
      exact impl_isBoard_loop gr d v w hg h hk h64
    · rw [boardB_n h64]
      have HG := Lib.hid hg; clear hg
      have HK := Lib.hid hk; clear hk
      obtain ⟨ad_0, nd_0, cd_0, ad_1, nd_1, cd_1, rfl, kd_0, kd_1⟩ := rdBoard.1 h
      obtain ⟨W, hW⟩ : ∃ W, W = ((w.alloc (.cells #[.int .i64 gr.p, .int .i64 gr.q, .int .i64 gr.g] 39)).alloc (.cells #[.slice ad_0 nd_0 cd_0, .slice ad_1 nd_1 cd_1] 36)) := ⟨_, rfl⟩
      have HWB : Hid (Below w.heap.size w W) := by unfold Hid; rw [hW]; (repeat (first | exact Below.refl _ _ | assumption | refine Below.drew ?_ | refine Below.alloc ?_ (by first | (simp; done) | (simp; omega)) _ | refine Below.setCell ?_ (by first | (simp; done) | (simp; omega)) _))
      have FX : Hid (∀ W', Below W.heap.size W W' → W'.cell? ⟨w.heap.size, 0, none⟩ = some (.int .i64 gr.p) ∧ W'.cell? ⟨w.heap.size, 1, none⟩ = some (.int .i64 gr.q) ∧ W'.cell? ⟨w.heap.size, 2, none⟩ = some (.int .i64 gr.g) ∧ W'.cell? ⟨w.heap.size + 1, 0, none⟩ = some (.slice ad_0 nd_0 cd_0) ∧ W'.cell? ⟨w.heap.size + 1, 1, none⟩ = some (.slice ad_1 nd_1 cd_1)) := fun W' hb => by
        exact ⟨box_at (by rw [hW]; simp [go_sem]) hb, box_at (by rw [hW]; simp [go_sem]) hb, box_at (by rw [hW]; simp [go_sem]) hb, box_at (by rw [hW]; simp [go_sem]) hb, box_at (by rw [hW]; simp [go_sem]) hb⟩
      have hsW : W.heap.size = w.heap.size + 2 := by rw [hW]; simp
      have Hd := Lib.hid ((kS rBoard).rd_below h HWB.out); clear h
      have F_d_keys := Lib.hid (sInts.rd_below kd_0 HWB.out)
      have F_d_entries := Lib.hid ((kR 44 rEntry).rd_below kd_1 HWB.out)
      clear kd_0 kd_1
      have HW := Lib.hid hW; clear hW
      have hel := (F_d_entries.out : RdR _ _ _ _).len
      have hn : ¬ nd_1 ≤ 64 := by omega
      have hg1 : decide ((64 : Int) < (nd_1 : Int)) = true := decide_eq_true (by omega)
      clear hel h64
      go_enter Try.func254, Try.ntmps254
      go_wp2_with fail
      rw [← HW.out]
      have hcum : Below W.heap.size W W := Below.refl _ _
      obtain ⟨p0_0, p0_1, p0_2, p1_0, p1_1⟩ := FX.out _ hcum
      refine (impl_areKeys gr _ d.keys _ HG.out F_d_keys.out).mono ?_
      rintro e w1 ⟨rfl, hb1⟩
      rw [HK.out]
      (replace hcum := hcum.trans (hb1.mono hcum.size)); clear hb1; clear p0_0 p0_1 p0_2 p1_0 p1_1; obtain ⟨p0_0, p0_1, p0_2, p1_0, p1_1⟩ := FX.out _ hcum
      go_wp2_with fail
      go_ret
      exact ⟨rfl, Below.next HWB.out hcum⟩
set_option maxRecDepth 100000 in
set_option maxHeartbeats 2000000 in
theorem impl_areBoard (gr : GroupD) (d : BoardD) (v : Value) (w : World) (h : (kS rBoard).rd w v d) :
    Calls Try.prog 126 #[.agg #[.int .i64 gr.p, .int .i64 gr.q, .int .i64 gr.g], v] w fun e w' => e = .returned (.bool (vbR gr d)) ∧ Below w.heap.size w w' := by
  (obtain ⟨q1, h_q⟩ : ∃ b_q, goodG gr = b_q := ⟨_, rfl⟩); have H1 := Lib.hid h_q; clear h_q
  (obtain ⟨q2, h_q⟩ : ∃ b_q, boardB gr d = b_q := ⟨_, rfl⟩); have H2 := Lib.hid h_q; clear h_q
  have HR : Hid (vbR gr d = (q1 && q2)) := by unfold Hid vbR; rw [H1.out, H2.out]
  rw [HR.out]
  obtain ⟨ad_0, nd_0, cd_0, ad_1, nd_1, cd_1, rfl, kd_0, kd_1⟩ := rdBoard.1 h
  obtain ⟨W, hW⟩ : ∃ W, W = ((w.alloc (.cells #[.int .i64 gr.p, .int .i64 gr.q, .int .i64 gr.g] 39)).alloc (.cells #[.slice ad_0 nd_0 cd_0, .slice ad_1 nd_1 cd_1] 36)) := ⟨_, rfl⟩
  have HWB : Hid (Below w.heap.size w W) := by unfold Hid; rw [hW]; (repeat (first | exact Below.refl _ _ | assumption | refine Below.drew ?_ | refine Below.alloc ?_ (by first | (simp; done) | (simp; omega)) _ | refine Below.setCell ?_ (by first | (simp; done) | (simp; omega)) _))
  have FX : Hid (∀ W', Below W.heap.size W W' → W'.cell? ⟨w.heap.size, 0, none⟩ = some (.int .i64 gr.p) ∧ W'.cell? ⟨w.heap.size, 1, none⟩ = some (.int .i64 gr.q) ∧ W'.cell? ⟨w.heap.size, 2, none⟩ = some (.int .i64 gr.g) ∧ W'.cell? ⟨w.heap.size + 1, 0, none⟩ = some (.slice ad_0 nd_0 cd_0) ∧ W'.cell? ⟨w.heap.size + 1, 1, none⟩ = some (.slice ad_1 nd_1 cd_1)) := fun W' hb => by
    exact ⟨box_at (by rw [hW]; simp [go_sem]) hb, box_at (by rw [hW]; simp [go_sem]) hb, box_at (by rw [hW]; simp [go_sem]) hb, box_at (by rw [hW]; simp [go_sem]) hb, box_at (by rw [hW]; simp [go_sem]) hb⟩
  have hsW : W.heap.size = w.heap.size + 2 := by rw [hW]; simp
  have Hd := Lib.hid ((kS rBoard).rd_below h HWB.out); clear h
  have F_d_keys := Lib.hid (sInts.rd_below kd_0 HWB.out)
  have F_d_entries := Lib.hid ((kR 44 rEntry).rd_below kd_1 HWB.out)
  clear kd_0 kd_1
  have HW := Lib.hid hW; clear hW
  go_enter Try.func126, Try.ntmps126
  go_wp2_with fail
  rw [← HW.out]
  have hcum : Below W.heap.size W W := Below.refl _ _
  obtain ⟨p0_0, p0_1, p0_2, p1_0, p1_1⟩ := FX.out _ hcum
  refine (impl_IsValidGroup gr _).mono ?_
  rintro e w1 ⟨rfl, hb1⟩
  rw [H1.out]
  (replace hcum := hcum.trans (hb1.mono hcum.size)); clear hb1; clear p0_0 p0_1 p0_2 p1_0 p1_1; obtain ⟨p0_0, p0_1, p0_2, p1_0, p1_1⟩ := FX.out _ hcum
  cases q1 with
  | false =>
    go_wp2_with fail
    go_ret
    exact ⟨rfl, Below.next HWB.out hcum⟩
  | true =>
    have HG := Lib.hid (goodG_ok H1.out)
    have HC := Lib.hid hcum
    go_wp2_with fail
    refine (impl_isBoard gr d _ _ HG.out ((kS rBoard).rd_below Hd.out HC.out)).mono ?_
    rintro e w2 ⟨rfl, hb2⟩
    rw [H2.out]
    (replace hcum := hcum.trans (hb2.mono hcum.size)); clear hb2; clear p0_0 p0_1 p0_2 p1_0 p1_1; obtain ⟨p0_0, p0_1, p0_2, p1_0, p1_1⟩ := FX.out _ hcum
    go_wp2_with fail
    go_ret
    exact ⟨rfl, Below.next HWB.out hcum⟩
set_option maxRecDepth 100000 in
set_option maxHeartbeats 2000000 in
theorem spec_oBoard (gr : GroupD) (d : BoardD) (v : Value) (w : World) (hg : OkG gr) (h : (kS rBoard).rd w v d) :
    Calls Try.prog 122 #[.agg #[.int .i64 gr.p, .int .i64 gr.q, .int .i64 gr.g], v] w fun e w' => e = .returned (.bool (boardB gr d)) ∧ Below w.heap.size w w' := by
  by_cases h40 : d.keys.length ≤ 40
  rotate_left
  · have hk : keysB gr d.keys = false := by unfold keysB; rw [decide_eq_false h40]; rfl
    rw [boardB_k hk]
    clear hk hg
    obtain ⟨ad_0, nd_0, cd_0, ad_1, nd_1, cd_1, rfl, kd_0, kd_1⟩ := rdBoard.1 h
    obtain ⟨W, hW⟩ : ∃ W, W = ((w.alloc (.cells #[.int .i64 gr.p, .int .i64 gr.q, .int .i64 gr.g] 39)).alloc (.cells #[.slice ad_0 nd_0 cd_0, .slice ad_1 nd_1 cd_1] 36)) := ⟨_, rfl⟩
    have HWB : Hid (Below w.heap.size w W) := by unfold Hid; rw [hW]; (repeat (first | exact Below.refl _ _ | assumption | refine Below.drew ?_ | refine Below.alloc ?_ (by first | (simp; done) | (simp; omega)) _ | refine Below.setCell ?_ (by first | (simp; done) | (simp; omega)) _))
    have FX : Hid (∀ W', Below W.heap.size W W' → W'.cell? ⟨w.heap.size, 0, none⟩ = some (.int .i64 gr.p) ∧ W'.cell? ⟨w.heap.size, 1, none⟩ = some (.int .i64 gr.q) ∧ W'.cell? ⟨w.heap.size, 2, none⟩ = some (.int .i64 gr.g) ∧ W'.cell? ⟨w.heap.size + 1, 0, none⟩ = some (.slice ad_0 nd_0 cd_0) ∧ W'.cell? ⟨w.heap.size + 1, 1, none⟩ = some (.slice ad_1 nd_1 cd_1)) := fun W' hb => by
      exact ⟨box_at (by rw [hW]; simp [go_sem]) hb, box_at (by rw [hW]; simp [go_sem]) hb, box_at (by rw [hW]; simp [go_sem]) hb, box_at (by rw [hW]; simp [go_sem]) hb, box_at (by rw [hW]; simp [go_sem]) hb⟩
    have hsW : W.heap.size = w.heap.size + 2 := by rw [hW]; simp
    have Hd := Lib.hid ((kS rBoard).rd_below h HWB.out); clear h
    have F_d_keys := Lib.hid (sInts.rd_below kd_0 HWB.out)
    have F_d_entries := Lib.hid ((kR 44 rEntry).rd_below kd_1 HWB.out)
    clear kd_0 kd_1
    have HW := Lib.hid hW; clear hW
    have hkl := (F_d_keys.out : Ints _ _ _).len
    have hg1 : decide ((40 : Int) < (nd_0 : Int)) = true := decide_eq_true (by omega)
    have hn : ¬ nd_0 ≤ 40 := by omega
    clear hkl h40
    go_enter Try.func122, Try.ntmps122
    go_wp2_with fail
    rw [← HW.out]
    have hcum : Below W.heap.size W W := Below.refl _ _
    obtain ⟨p0_0, p0_1, p0_2, p1_0, p1_1⟩ := FX.out _ hcum
    go_ret
    exact ⟨rfl, HWB.out⟩
  · cases hk : keysB gr d.keys with
    | false =>
      rw [boardB_k hk]
      have HG := Lib.hid hg; clear hg
      have HK : Hid (d.keys.all (elB gr) = false) := by
        unfold keysB at hk
        rw [decide_eq_true h40, Bool.true_and] at hk; exact hk
      clear hk
      obtain ⟨ad_0, nd_0, cd_0, ad_1, nd_1, cd_1, rfl, kd_0, kd_1⟩ := rdBoard.1 h
      obtain ⟨W, hW⟩ : ∃ W, W = ((w.alloc (.cells #[.int .i64 gr.p, .int .i64 gr.q, .int .i64 gr.g] 39)).alloc (.cells #[.slice ad_0 nd_0 cd_0, .slice ad_1 nd_1 cd_1] 36)) := ⟨_, rfl⟩
      have HWB : Hid (Below w.heap.size w W) := by unfold Hid; rw [hW]; (repeat (first | exact Below.refl _ _ | assumption | refine Below.drew ?_ | refine Below.alloc ?_ (by first | (simp; done) | (simp; omega)) _ | refine Below.setCell ?_ (by first | (simp; done) | (simp; omega)) _))
      have FX : Hid (∀ W', Below W.heap.size W W' → W'.cell? ⟨w.heap.size, 0, none⟩ = some (.int .i64 gr.p) ∧ W'.cell? ⟨w.heap.size, 1, none⟩ = some (.int .i64 gr.q) ∧ W'.cell? ⟨w.heap.size, 2, none⟩ = some (.int .i64 gr.g) ∧ W'.cell? ⟨w.heap.size + 1, 0, none⟩ = some (.slice ad_0 nd_0 cd_0) ∧ W'.cell? ⟨w.heap.size + 1, 1, none⟩ = some (.slice ad_1 nd_1 cd_1)) := fun W' hb => by
        exact ⟨box_at (by rw [hW]; simp [go_sem]) hb, box_at (by rw [hW]; simp [go_sem]) hb, box_at (by rw [hW]; simp [go_sem]) hb, box_at (by rw [hW]; simp [go_sem]) hb, box_at (by rw [hW]; simp [go_sem]) hb⟩
      have hsW : W.heap.size = w.heap.size + 2 := by rw [hW]; simp
      have Hd := Lib.hid ((kS rBoard).rd_below h HWB.out); clear h
      have F_d_keys := Lib.hid (sInts.rd_below kd_0 HWB.out)
      have F_d_entries := Lib.hid ((kR 44 rEntry).rd_below kd_1 HWB.out)
      clear kd_0 kd_1
      have HW := Lib.hid hW; clear hW
      have hkl := (F_d_keys.out : Ints _ _ _).len
      have hn : nd_0 ≤ 40 := by omega
      clear hkl h40
      go_enter Try.func122, Try.ntmps122
      go_wp2_with fail
      rw [← HW.out]
      have hcum : Below W.heap.size W W := Below.refl _ _
      obtain ⟨p0_0, p0_1, p0_2, p1_0, p1_1⟩ := FX.out _ hcum
      refine (spec_gIs gr _ d.keys _ HG.out F_d_keys.out).mono ?_
      rintro e w1 ⟨rfl, hb1⟩
      rw [HK.out]
      (replace hcum := hcum.trans (hb1.mono hcum.size)); clear hb1; clear p0_0 p0_1 p0_2 p1_0 p1_1; obtain ⟨p0_0, p0_1, p0_2, p1_0, p1_1⟩ := FX.out _ hcum
      go_wp2_with fail
      go_ret
      exact ⟨rfl, Below.next HWB.out hcum⟩
    | true =>
      by_cases h64 : d.entries.length ≤ 64
      · rw [boardB_loop hk h64]
        exact spec_oBoard_loop gr d v w hg h hk h64
      · rw [boardB_n h64]
        have HG := Lib.hid hg; clear hg
        have HK : Hid (d.keys.all (elB gr) = true) := by
          unfold keysB at hk
          rw [decide_eq_true h40, Bool.true_and] at hk; exact hk
        clear hk
        obtain ⟨ad_0, nd_0, cd_0, ad_1, nd_1, cd_1, rfl, kd_0, kd_1⟩ := rdBoard.1 h
        obtain ⟨W, hW⟩ : ∃ W, W = ((w.alloc (.cells #[.int .i64 gr.p, .int .i64 gr.q, .int .i64 gr.g] 39)).alloc (.cells #[.slice ad_0 nd_0 cd_0, .slice ad_1 nd_1 cd_1] 36)) := ⟨_, rfl⟩
        have HWB : Hid (Below w.heap.size w W) := by unfold Hid; rw [hW]; (repeat (first | exact Below.refl _ _ | assumption | refine Below.drew ?_ | refine Below.alloc ?_ (by first | (simp; done) | (simp; omega)) _ | refine Below.setCell ?_ (by first | (simp; done) | (simp; omega)) _))
        have FX : Hid (∀ W', Below W.heap.size W W' → W'.cell? ⟨w.heap.size, 0, none⟩ = some (.int .i64 gr.p) ∧ W'.cell? ⟨w.heap.size, 1, none⟩ = some (.int .i64 gr.q) ∧ W'.cell? ⟨w.heap.size, 2, none⟩ = some (.int .i64 gr.g) ∧ W'.cell? ⟨w.heap.size + 1, 0, none⟩ = some (.slice ad_0 nd_0 cd_0) ∧ W'.cell? ⟨w.heap.size + 1, 1, none⟩ = some (.slice ad_1 nd_1 cd_1)) := fun W' hb => by
          exact ⟨box_at (by rw [hW]; simp [go_sem]) hb, box_at (by rw [hW]; simp [go_sem]) hb, box_at (by rw [hW]; simp [go_sem]) hb, box_at (by rw [hW]; simp [go_sem]) hb, box_at (by rw [hW]; simp [go_sem]) hb⟩
        have hsW : W.heap.size = w.heap.size + 2 := by rw [hW]; simp
        have Hd := Lib.hid ((kS rBoard).rd_below h HWB.out); clear h
        have F_d_keys := Lib.hid (sInts.rd_below kd_0 HWB.out)
        have F_d_entries := Lib.hid ((kR 44 rEntry).rd_below kd_1 HWB.out)
        clear kd_0 kd_1
        have HW := Lib.hid hW; clear hW
        have hkl := (F_d_keys.out : Ints _ _ _).len
        have hn0 : nd_0 ≤ 40 := by omega
        have hel := (F_d_entries.out : RdR _ _ _ _).len
        have hn : ¬ nd_1 ≤ 64 := by omega
        have hg1 : decide ((64 : Int) < (nd_1 : Int)) = true := decide_eq_true (by omega)
        clear hel h64 hkl h40
        go_enter Try.func122, Try.ntmps122
        go_wp2_with fail
        rw [← HW.out]
        have hcum : Below W.heap.size W W := Below.refl _ _
        obtain ⟨p0_0, p0_1, p0_2, p1_0, p1_1⟩ := FX.out _ hcum
        refine (spec_gIs gr _ d.keys _ HG.out F_d_keys.out).mono ?_
        rintro e w1 ⟨rfl, hb1⟩
        rw [HK.out]
        (replace hcum := hcum.trans (hb1.mono hcum.size)); clear hb1; clear p0_0 p0_1 p0_2 p1_0 p1_1; obtain ⟨p0_0, p0_1, p0_2, p1_0, p1_1⟩ := FX.out _ hcum
        go_wp2_with fail
        go_ret
        exact ⟨rfl, Below.next HWB.out hcum⟩
end Go.Proofs.Ytboahnklilmdpaa
namespace Go.Proofs.Ytboahnklilmdpaa
open Go.RowKit
set_option linter.unusedSimpArgs false
set_option linter.unusedVariables false

def afters (ops : Array Oper) (t : Nat) : List Nat := match ops[t]? with
  | some o => (o.after.toList.filter (Region.binds .any)).map (·.on)
  | none => []
/-- what stands ahead of some operations -/
def closeW (ops : Array Oper) : Nat → List Nat → List Nat → List Nat
  | 0, seen, _ => seen
  | _ + 1, seen, [] => seen
  | f + 1, seen, x :: r => if seen.contains x then closeW ops f seen r else closeW ops f (x :: seen) (afters ops x ++ r)
def regNeeds (ops : Array Oper) (F t i : Nat) : Bool := (closeW ops (F * 40) [] (afters ops t)).contains i
def seqI (ops : Array Oper) : List Nat → Array Bool → Bool
  | [], listed => (Region.ready .any ops listed).isEmpty
  | k :: r, listed => decide (Region.ready .any ops listed = [k]) && seqI ops r (listed.setIfInBounds k true)
def pickN (l : List Oper) : List Nat → List Oper
  | [] => []
  | i :: r => match l[i]? with
    | some o => o :: pickN l r
    | none => pickN l r
section
variable {P : Program} {ops : Array Oper} {Q : Exit → Act → World → Prop} {S : World → Prop}
/-- the operations of the head, in whatever order -/
def wpAnyT (P : Program) (ops : Array Oper) (Q : Exit → Act → World → Prop) (S : World → Prop) (Hd : Nat → Bool) (L : Array Bool → Act → World → Prop) : Nat → Array Bool → Act → World → Prop
  | 0, listed, a, w => L listed a w
  | f + 1, listed, a, w => Region.ready .any ops listed ≠ [] ∧ ∀ i ∈ Region.ready .any ops listed, Hd i = true ∧ wpOp P ops Q i (fun a' w' => S w' ∧ wpAnyT P ops Q S Hd L f (listed.setIfInBounds i true) a' w') a w
theorem wpAny_of_T {Hd : Nat → Bool} {g : Nat} {L : Array Bool → Act → World → Prop} (hL : ∀ listed a w, L listed a w → wpAny P .any ops Q g listed a w) :
    ∀ (f : Nat) (listed : Array Bool) (a : Act) (w : World), wpAnyT P ops Q S Hd L f listed a w → wpAny P .any ops Q (f + g) listed a w
  | 0, _, _, _, h => by rw [Nat.zero_add]; exact hL _ _ _ h
  | f + 1, listed, a, w, h => by
    rw [show f + 1 + g = (f + g) + 1 by omega]
    exact ⟨fun h0 => absurd h0 h.1, fun i hi => wpOp_mono (fun a' w' h' => wpAny_of_T hL f _ a' w' h'.2) (h.2 i hi).2⟩
structure InvT (ops : Array Oper) (Hd : Nat → Bool) (listed : Array Bool) : Prop where
  size : listed.size = ops.size
  closed : ∀ j oj, ops[j]? = some oj → listed.getD j false = true → ∀ e ∈ oj.after, Region.binds .any e = true → listed.getD e.on false = true
theorem getD_bothT {listed : Array Bool} {i : Nat} (h : listed.getD i true = false) : listed.getD i false = false := by
  rcases Nat.lt_or_ge i listed.size with h' | h'
  · simp [h'] at h ⊢; exact h
  · simp [Array.getElem?_eq_none h'] at h
theorem InvT.set {Hd : Nat → Bool} {listed : Array Bool} {i : Nat} (inv : InvT ops Hd listed) (hi : i ∈ Region.ready .any ops listed) : InvT ops Hd (listed.setIfInBounds i true) := by
  obtain ⟨_, oi, hoi, hall⟩ := mem_ready.1 hi
  refine ⟨by simp [inv.size], fun j oj hj hl e he hb => ?_⟩
  by_cases hij : i = j
  · subst hij
    have : oj = oi := Option.some.inj (hj.symm.trans hoi)
    subst this
    exact getD_set_true (hall e he hb)
  · rw [getD_set_ne false hij] at hl
    exact getD_set_true (inv.closed j oj hj hl e he hb)
theorem afters_listed {Hd : Nat → Bool} {listed : Array Bool} (inv : InvT ops Hd listed) {x : Nat} (h : listed.getD x false = true) : ∀ y ∈ afters ops x, listed.getD y false = true := by
  intro y hy
  unfold afters at hy
  cases ho : ops[x]? with
  | none => rw [ho] at hy; simp at hy
  | some o =>
    rw [ho] at hy
    obtain ⟨e, he, rfl⟩ := List.mem_map.1 hy
    obtain ⟨he1, he2⟩ := List.mem_filter.1 he
    exact inv.closed x o ho h e (by simpa using he1) he2
theorem closeW_listed {Hd : Nat → Bool} {listed : Array Bool} (inv : InvT ops Hd listed) : ∀ (f : Nat) (seen work : List Nat), (∀ y ∈ seen, listed.getD y false = true) → (∀ y ∈ work, listed.getD y false = true) → ∀ y ∈ closeW ops f seen work, listed.getD y false = true := by
  intro f
  induction f with
  | zero => intro seen work h1 _ y hy; exact h1 y hy
  | succ f ih =>
    intro seen work h1 h2 y hy
    cases work with
    | nil => exact h1 y hy
    | cons x r =>
      unfold closeW at hy
      split at hy
      · exact ih seen r h1 (fun z hz => h2 z (List.mem_cons_of_mem _ hz)) y hy
      · refine ih (x :: seen) (afters ops x ++ r) (fun z hz => ?_) (fun z hz => ?_) y hy
        · rcases List.mem_cons.1 hz with rfl | hz
          · exact h2 z (by simp)
          · exact h1 z hz
        · rcases List.mem_append.1 hz with hz | hz
          · exact afters_listed inv (h2 x (by simp)) z hz
          · exact h2 z (List.mem_cons_of_mem _ hz)
theorem needs_listed {Hd : Nat → Bool} {listed : Array Bool} (inv : InvT ops Hd listed) : ∀ (F t i : Nat), regNeeds ops F t i = true → (∀ o, ops[t]? = some o → ∀ e ∈ o.after, Region.binds .any e = true → listed.getD e.on false = true) → listed.getD i false = true := by
  intro F t i h hd
  unfold regNeeds at h
  refine closeW_listed inv _ [] _ (fun y hy => by simp at hy) (fun y hy => ?_) i (by simpa using h)
  unfold afters at hy
  cases ho : ops[t]? with
  | none => rw [ho] at hy; simp at hy
  | some o =>
    rw [ho] at hy
    obtain ⟨e, he, rfl⟩ := List.mem_map.1 hy
    obtain ⟨he1, he2⟩ := List.mem_filter.1 he
    exact hd o ho e (by simpa using he1) he2
theorem blockedT {Hd : Nat → Bool} {listed : Array Bool} {i F : Nat} (inv : InvT ops Hd listed) (hn : ∀ t, t < ops.size → Hd t = false → regNeeds ops F t i = true) (hun : listed.getD i true = false) :
    ∀ j ∈ Region.ready .any ops listed, Hd j = true := by
  intro j hj
  cases hh : Hd j with
  | true => rfl
  | false =>
    obtain ⟨_, oj, hoj, hall⟩ := mem_ready.1 hj
    have h1 := needs_listed inv F j i (hn j (Array.getElem?_eq_some_iff.1 hoj).1 hh) (fun o ho e he hb => by
      have : o = oj := Option.some.inj (ho.symm.trans hoj)
      subst this; exact hall e he hb)
    rw [getD_bothT hun] at h1; cases h1
theorem wpAnyT_first {Hd : Nat → Bool} {i F : Nat} {oi : Oper} {v : Value} {L : Array Bool → Act → World → Prop} (hi : ops[i]? = some oi) (hsel : ∀ (j : Nat) (o : Oper) cs b, ops[j]? = some o → o.op ≠ .select cs b)
    (hQ : ∀ c a w, Q (.panic c) (a.put oi.dst v) w → Q (.panic c) a w) (hn : ∀ t, t < ops.size → Hd t = false → regNeeds ops F t i = true) (hHd : Hd i = true)
    (hdone : ∀ listed a w, L listed a w → ∀ j ∈ Region.ready .any ops listed, Hd j = false) :
    ∀ (f : Nat) (listed : Array Bool) (a : Act) (w : World), InvT ops Hd listed →
      (∀ j oj, ops[j]? = some oj → j ≠ i → listed.getD j true = false → (∀ e ∈ oj.after, Region.binds .any e = true → e.on ≠ i) → oi.apart ops oj = true) →
      i ∈ Region.ready .any ops listed → YieldsIf P ops S oi v a → S w →
      wpAnyT P ops Q S Hd L f (listed.setIfInBounds i true) (a.put oi.dst v) w → wpAnyT P ops Q S Hd L (f + 1) listed a w := by
  intro f
  induction f with
  | zero =>
    intro listed a w inv _ hr hy hS H
    have hun := (mem_ready.1 hr).1
    refine ⟨fun h => (by rw [h] at hr; cases hr), fun j hj => ?_⟩
    have hjH := blockedT inv hn hun j hj
    refine ⟨hjH, ?_⟩
    by_cases hji : j = i
    · subst hji; exact hy.wpOp hi hS ⟨hS, H⟩
    · have := hdone _ _ _ H j (ready_mono hj hji)
      rw [hjH] at this; cases this
  | succ f ih =>
    intro listed a w inv hfree hr hy hS H
    have hun := (mem_ready.1 hr).1
    refine ⟨fun h => (by rw [h] at hr; cases hr), fun j hj => ?_⟩
    refine ⟨blockedT inv hn hun j hj, ?_⟩
    by_cases hji : j = i
    · subst hji; exact hy.wpOp hi hS ⟨hS, H⟩
    · have h1 := (H.2 j (ready_mono hj hji)).2
      obtain ⟨hjun, oj, hoj, hall⟩ := mem_ready.1 hj
      have hnot : ∀ e ∈ oj.after, Region.binds .any e = true → e.on ≠ i := fun e he hb heq => by
        have h1 := hall e he hb
        rw [heq, getD_bothT hun] at h1
        cases h1
      have h2 := wpOp_putIf hoj (hfree j oj hoj hji hjun hnot) (fun cs b => hsel i oi cs b hi) (fun cs b => hsel j oj cs b hoj) hQ hy h1
      have hfree' : ∀ k ok, ops[k]? = some ok → k ≠ i → (listed.setIfInBounds j true).getD k true = false →
          (∀ e ∈ ok.after, Region.binds .any e = true → e.on ≠ i) → oi.apart ops ok = true := fun k ok hk hki hun hno => by
        refine hfree k ok hk hki ?_ hno
        by_cases hjk : j = k
        · subst hjk; exact hjun
        · rw [getD_set_ne true hjk] at hun; exact hun
      refine wpOp_mono (fun a' w' h3 => ⟨h3.2.1, ih (listed.setIfInBounds j true) a' w' (inv.set hj) hfree' (ready_mono hr (Ne.symm hji)) h3.1 h3.2.1 ?_⟩) h2
      rw [Array.setIfInBounds_comm _ _ hji]
      exact h3.2.2
theorem seqI_ready {tl : List Nat} {Hd : Nat → Bool} (hT : ∀ t ∈ tl, Hd t = false) {listed : Array Bool} (h : seqI ops tl listed = true) : ∀ j ∈ Region.ready .any ops listed, Hd j = false := by
  cases tl with
  | nil => intro j hj; simp only [seqI, List.isEmpty_iff] at h; rw [h] at hj; cases hj
  | cons k r =>
    intro j hj
    simp only [seqI, Bool.and_eq_true, decide_eq_true_eq] at h
    rw [h.1] at hj
    have : j = k := by simpa using hj
    subst this
    exact hT j (by simp)
theorem wpAny_of_seqI {l : List Oper} (hl : ops = l.toArray) : ∀ (tl : List Nat) (listed : Array Bool) (a : Act) (w : World),
    seqI ops tl listed = true → wpList P ops Q (pickN l tl) a w → wpAny P .any ops Q tl.length listed a w
  | [], _, _, _, hB, h => ⟨by simpa [seqI] using hB, h⟩
  | k :: r, listed, a, w, hB, h => by
    simp only [seqI, Bool.and_eq_true, decide_eq_true_eq] at hB
    refine ⟨fun h1 => (by rw [hB.1] at h1; cases h1), fun i hi => ?_⟩
    have hi' := hi
    rw [hB.1] at hi
    have hik : i = k := by simpa using hi
    subst hik
    obtain ⟨_, oi, hoi, _⟩ := mem_ready.1 hi'
    have hli : l[i]? = some oi := by rw [hl] at hoi; simpa using hoi
    unfold pickN at h
    rw [hli] at h
    have hw : wpOp P ops Q i (wpList P ops Q (pickN l r)) a w := by unfold wpOp; simp only [hoi]; exact h
    exact wpOp_mono (fun a' w' h' => wpAny_of_seqI hl r _ a' w' hB.2 h') hw
end
end Go.Proofs.Ytboahnklilmdpaa

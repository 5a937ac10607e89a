/- Walks: sealed ballots out of records, the reference's (printed by gen_dec5.py). -/
import Derived.Test.YtbcaknmpbkapnaaDec3
import Derived.Test.YtbcaknmpbkapnaaDec4
namespace Go.Proofs.Ytbcaknmpbkapnaa
open Go.RowKit
set_option linter.unusedSimpArgs false
set_option linter.unusedVariables false

set_option maxRecDepth 100000 in
set_option maxHeartbeats 8000000 in
theorem spec_bOfRecord (v : Value) (l : List Int) (w : World) (hl : l.length ≤ 1048576) (h : Ints w v l) :
    Calls Try.prog 18 #[v] w fun e w' => ∃ v', e = .returned (.tuple #[v', .bool (soB l)]) ∧ kSealedG.own w' w.heap.size w'.heap.size v' (soD l) ∧ Below w.heap.size w w' := by
  obtain ⟨a, n, c, rfl⟩ := h.shape
  have H := Lib.hid h; clear h
  obtain ⟨W, hW⟩ : ∃ W, W = w.alloc (.cells #[.int .i64 0, .slice none 0 0, .slice none 0 0, .slice none 0 0, .slice none 0 0, .slice none 0 0] 28) := ⟨_, rfl⟩
  have HB : Hid (Below w.heap.size w W) := by unfold Hid; rw [hW]; (repeat (first | exact Below.refl _ _ | assumption | refine Below.drew ?_ | refine Below.alloc ?_ (by first | (simp; done) | (simp; omega)) _ | refine Below.setCell ?_ (by first | (simp; done) | (simp; omega)) _))
  have HR : Hid (BoxN W w.heap.size 28 [.int .i64 0, .slice none 0 0, .slice none 0 0, .slice none 0 0, .slice none 0 0, .slice none 0 0]) := by unfold Hid; rw [hW]; exact BoxN.new w [.int .i64 0, .slice none 0 0, .slice none 0 0, .slice none 0 0, .slice none 0 0, .slice none 0 0] _
  have hsW : w.heap.size < W.heap.size := by rw [hW]; simp
  go_enter Try.func18, Try.ntmps18
  go_wp2_with fail
  rw [← hW]
  clear hW
  refine (spec_cSplit _ l _ (by omega) (H.out.below HB.out)).mono ?_
  rintro e w1 ⟨v1, rfl, hP, hb1⟩
  have hs1 := hb1.size
  have HBX := Lib.hid (HB.out.trans (hb1.mono HB.out.size))
  have HRX := Lib.hid (HR.out.below hb1)
  have HSL := Lib.hid (splitL_len l)
  clear hb1 HR
  obtain ⟨q, hq⟩ : ∃ q, splitB l = q := ⟨_, rfl⟩
  rw [hq]
  rw [hq] at hP
  have HQ := Lib.hid hq; clear hq
  cases q with
  | false =>
    clear hP
    have HBQ : Hid (soB l = false) := soB_c (by unfold soC; rw [HQ.out]; rfl)
    have HV := Lib.hid (soD_no HBQ.out)
    have r0 := HRX.out.cell (i := 0) rfl
    have r1 := HRX.out.cell (i := 1) rfl
    have r2 := HRX.out.cell (i := 2) rfl
    have r3 := HRX.out.cell (i := 3) rfl
    have r4 := HRX.out.cell (i := 4) rfl
    have r5 := HRX.out.cell (i := 5) rfl
    have fr := fun j => HRX.out.frozen j
    go_wp2_with fail
    have HRF := Lib.hid ((((((HRX.out.set 0 (.int .i64 0)).set 1 (.slice none 0 0)).set 2 (.slice none 0 0)).set 3 (.slice none 0 0)).set 4 (.slice none 0 0)).set 5 (.slice none 0 0))
    have HBF := Lib.hid ((((((HBX.out.setCell (p := ⟨w.heap.size, 0, none⟩) (Nat.le_refl _) (.int .i64 0)).setCell (p := ⟨w.heap.size, 1, none⟩) (Nat.le_refl _) (.slice none 0 0)).setCell (p := ⟨w.heap.size, 2, none⟩) (Nat.le_refl _) (.slice none 0 0)).setCell (p := ⟨w.heap.size, 3, none⟩) (Nat.le_refl _) (.slice none 0 0)).setCell (p := ⟨w.heap.size, 4, none⟩) (Nat.le_refl _) (.slice none 0 0)).setCell (p := ⟨w.heap.size, 5, none⟩) (Nat.le_refl _) (.slice none 0 0))
    clear r0 r1 r2 r3 r4 r5 fr
    have t0 := HRF.out.cell (i := 0) rfl
    have t1 := HRF.out.cell (i := 1) rfl
    have t2 := HRF.out.cell (i := 2) rfl
    have t3 := HRF.out.cell (i := 3) rfl
    have t4 := HRF.out.cell (i := 4) rfl
    have t5 := HRF.out.cell (i := 5) rfl
    try (go_wp2_with fail)
    refine bodyPost_ret (v := .tuple #[.agg #[.int .i64 0, .slice none 0 0, .slice none 0 0, .slice none 0 0, .slice none 0 0, .slice none 0 0], .bool false]) (by simp [results, Try.results18, go_sem, t0, t1, t2, t3, t4, t5]) rfl ⟨_, by rw [HBQ.out], ?_, HBF.out⟩
    rw [HV.out]
    exact OwnSG.zero _ HBF.out.size

  | true =>
  replace hP := hP rfl
  obtain ⟨a1, n1, c1, rfl⟩ := hP.rd.shape
  have HPR := Lib.hid hP.rd
  have HN1 := Lib.hid hP.rd.len
  have HC1 := Lib.hid hP.rd.capMax
  clear hP
  by_cases hn3 : n1 < 3
  · have t1 : (n1 : Int) < 3 := by omega
    have HBQ : Hid (soB l = false) := soB_c (by unfold soC; rw [decide_eq_false (by have := HN1.out; omega)]; simp)
    have HV := Lib.hid (soD_no HBQ.out)
    have r0 := HRX.out.cell (i := 0) rfl
    have r1 := HRX.out.cell (i := 1) rfl
    have r2 := HRX.out.cell (i := 2) rfl
    have r3 := HRX.out.cell (i := 3) rfl
    have r4 := HRX.out.cell (i := 4) rfl
    have r5 := HRX.out.cell (i := 5) rfl
    have fr := fun j => HRX.out.frozen j
    go_wp2_with fail
    have HRF := Lib.hid ((((((HRX.out.set 0 (.int .i64 0)).set 1 (.slice none 0 0)).set 2 (.slice none 0 0)).set 3 (.slice none 0 0)).set 4 (.slice none 0 0)).set 5 (.slice none 0 0))
    have HBF := Lib.hid ((((((HBX.out.setCell (p := ⟨w.heap.size, 0, none⟩) (Nat.le_refl _) (.int .i64 0)).setCell (p := ⟨w.heap.size, 1, none⟩) (Nat.le_refl _) (.slice none 0 0)).setCell (p := ⟨w.heap.size, 2, none⟩) (Nat.le_refl _) (.slice none 0 0)).setCell (p := ⟨w.heap.size, 3, none⟩) (Nat.le_refl _) (.slice none 0 0)).setCell (p := ⟨w.heap.size, 4, none⟩) (Nat.le_refl _) (.slice none 0 0)).setCell (p := ⟨w.heap.size, 5, none⟩) (Nat.le_refl _) (.slice none 0 0))
    clear r0 r1 r2 r3 r4 r5 fr
    have t0 := HRF.out.cell (i := 0) rfl
    have t1 := HRF.out.cell (i := 1) rfl
    have t2 := HRF.out.cell (i := 2) rfl
    have t3 := HRF.out.cell (i := 3) rfl
    have t4 := HRF.out.cell (i := 4) rfl
    have t5 := HRF.out.cell (i := 5) rfl
    try (go_wp2_with fail)
    refine bodyPost_ret (v := .tuple #[.agg #[.int .i64 0, .slice none 0 0, .slice none 0 0, .slice none 0 0, .slice none 0 0, .slice none 0 0], .bool false]) (by simp [results, Try.results18, go_sem, t0, t1, t2, t3, t4, t5]) rfl ⟨_, by rw [HBQ.out], ?_, HBF.out⟩
    rw [HV.out]
    exact OwnSG.zero _ HBF.out.size

  have t1 : ¬ (n1 : Int) < 3 := by omega
  have t1b : decide ((n1 : Int) < 3) = false := decide_eq_false t1
  obtain ⟨bp, op, hba, vs, hrv⟩ := HPR.out.at_ (by omega)
  subst hba
  have HK : ∀ k, k < n1 → ∃ x m y, vs k = .slice x m y ∧ w1.cell? ⟨bp, op + k, none⟩ = some (.slice x m y) ∧ Ints w1 (.slice x m y) (rwA (splitL l) k) ∧ (rwA (splitL l) k).length = m := by
    intro k hk
    have hk2 : k < (splitL l).length := by rw [HN1.out]; exact hk
    obtain ⟨h1, h2⟩ := hrv k hk2
    have h3 : Ints w1 (vs k) (rwA (splitL l) k) := by rw [rwA_eq hk2]; exact h2
    obtain ⟨x, m, y, e⟩ := h3.shape
    rw [e] at h1 h3
    exact ⟨x, m, y, e, h1, h3, h3.len⟩
  clear hrv
  have HKK := Lib.hid HK; clear HK
  obtain ⟨x0, m0, y0, _, kc0, ki0, kl0⟩ := HKK.out 0 (by omega)
  obtain ⟨x1, m1, y1, _, kc1, ki1, kl1⟩ := HKK.out 1 (by omega)
  rw [Nat.add_zero] at kc0
  have KC0 := Lib.hid kc0
  have KC1 := Lib.hid kc1
  have KI0 := Lib.hid ki0
  have KI1 := Lib.hid ki1
  have KL0 := Lib.hid kl0
  have KL1 := Lib.hid kl1
  clear kc1 ki0 ki1 kl0 kl1
  have u0 : (0 : Int) < (n1 : Int) := by omega
  have u1 : (1 : Int) < (n1 : Int) := by omega
  by_cases hm0 : m0 = 1
  rotate_left
  · have t2 : ¬ (m0 : Int) = 1 := by omega
    have HBQ : Hid (soB l = false) := soB_c (by unfold soC; rw [decide_eq_false (p := (rwA (splitL l) 0).length = 1) (by have := KL0.out; omega)]; simp)
    have HV := Lib.hid (soD_no HBQ.out)
    have r0 := HRX.out.cell (i := 0) rfl
    have r1 := HRX.out.cell (i := 1) rfl
    have r2 := HRX.out.cell (i := 2) rfl
    have r3 := HRX.out.cell (i := 3) rfl
    have r4 := HRX.out.cell (i := 4) rfl
    have r5 := HRX.out.cell (i := 5) rfl
    have fr := fun j => HRX.out.frozen j
    go_wp2_with fail
    have HRF := Lib.hid ((((((HRX.out.set 0 (.int .i64 0)).set 1 (.slice none 0 0)).set 2 (.slice none 0 0)).set 3 (.slice none 0 0)).set 4 (.slice none 0 0)).set 5 (.slice none 0 0))
    have HBF := Lib.hid ((((((HBX.out.setCell (p := ⟨w.heap.size, 0, none⟩) (Nat.le_refl _) (.int .i64 0)).setCell (p := ⟨w.heap.size, 1, none⟩) (Nat.le_refl _) (.slice none 0 0)).setCell (p := ⟨w.heap.size, 2, none⟩) (Nat.le_refl _) (.slice none 0 0)).setCell (p := ⟨w.heap.size, 3, none⟩) (Nat.le_refl _) (.slice none 0 0)).setCell (p := ⟨w.heap.size, 4, none⟩) (Nat.le_refl _) (.slice none 0 0)).setCell (p := ⟨w.heap.size, 5, none⟩) (Nat.le_refl _) (.slice none 0 0))
    clear r0 r1 r2 r3 r4 r5 fr
    have t0 := HRF.out.cell (i := 0) rfl
    have t1 := HRF.out.cell (i := 1) rfl
    have t2 := HRF.out.cell (i := 2) rfl
    have t3 := HRF.out.cell (i := 3) rfl
    have t4 := HRF.out.cell (i := 4) rfl
    have t5 := HRF.out.cell (i := 5) rfl
    try (go_wp2_with fail)
    refine bodyPost_ret (v := .tuple #[.agg #[.int .i64 0, .slice none 0 0, .slice none 0 0, .slice none 0 0, .slice none 0 0, .slice none 0 0], .bool false]) (by simp [results, Try.results18, go_sem, t0, t1, t2, t3, t4, t5]) rfl ⟨_, by rw [HBQ.out], ?_, HBF.out⟩
    rw [HV.out]
    exact OwnSG.zero _ HBF.out.size

  subst hm0
  obtain ⟨bv, ov, hx0, hcv⟩ := KI0.out.at_ (by omega)
  subst hx0
  have kv := hcv 0 (by omega)
  rw [Nat.add_zero] at kv
  obtain ⟨vo, hvo⟩ : ∃ vo, nth (rwA (splitL l) 0) 0 = vo := ⟨_, rfl⟩
  rw [hvo] at kv
  have HVO := Lib.hid hvo
  have KV := Lib.hid kv
  have HVI : Hid (I64 vo) := by unfold Hid; rw [← hvo]; exact nth_64q KI0.out.all 0
  clear hvo hcv
  have HSC : Hid (soC l = true) := by
    unfold Hid soC; rw [HQ.out, decide_eq_true (by have := HN1.out; omega), decide_eq_true KL0.out]; rfl
  by_cases hv9 : 999999 < vo
  · have hv9b : decide (999999 < vo) = true := decide_eq_true hv9
    have HBQ : Hid (soB l = false) := by unfold Hid soB; rw [HVO.out, decide_eq_false (p := vo ≤ 999999) (by omega)]; simp
    have HV := Lib.hid (soD_no HBQ.out)
    have r0 := HRX.out.cell (i := 0) rfl
    have r1 := HRX.out.cell (i := 1) rfl
    have r2 := HRX.out.cell (i := 2) rfl
    have r3 := HRX.out.cell (i := 3) rfl
    have r4 := HRX.out.cell (i := 4) rfl
    have r5 := HRX.out.cell (i := 5) rfl
    have fr := fun j => HRX.out.frozen j
    go_wp2_with fail
    have HRF := Lib.hid ((((((HRX.out.set 0 (.int .i64 0)).set 1 (.slice none 0 0)).set 2 (.slice none 0 0)).set 3 (.slice none 0 0)).set 4 (.slice none 0 0)).set 5 (.slice none 0 0))
    have HBF := Lib.hid ((((((HBX.out.setCell (p := ⟨w.heap.size, 0, none⟩) (Nat.le_refl _) (.int .i64 0)).setCell (p := ⟨w.heap.size, 1, none⟩) (Nat.le_refl _) (.slice none 0 0)).setCell (p := ⟨w.heap.size, 2, none⟩) (Nat.le_refl _) (.slice none 0 0)).setCell (p := ⟨w.heap.size, 3, none⟩) (Nat.le_refl _) (.slice none 0 0)).setCell (p := ⟨w.heap.size, 4, none⟩) (Nat.le_refl _) (.slice none 0 0)).setCell (p := ⟨w.heap.size, 5, none⟩) (Nat.le_refl _) (.slice none 0 0))
    clear r0 r1 r2 r3 r4 r5 fr
    have t0 := HRF.out.cell (i := 0) rfl
    have t1 := HRF.out.cell (i := 1) rfl
    have t2 := HRF.out.cell (i := 2) rfl
    have t3 := HRF.out.cell (i := 3) rfl
    have t4 := HRF.out.cell (i := 4) rfl
    have t5 := HRF.out.cell (i := 5) rfl
    try (go_wp2_with fail)
    refine bodyPost_ret (v := .tuple #[.agg #[.int .i64 0, .slice none 0 0, .slice none 0 0, .slice none 0 0, .slice none 0 0, .slice none 0 0], .bool false]) (by simp [results, Try.results18, go_sem, t0, t1, t2, t3, t4, t5]) rfl ⟨_, by rw [HBQ.out], ?_, HBF.out⟩
    rw [HV.out]
    exact OwnSG.zero _ HBF.out.size

  have hv9b : decide (999999 < vo) = false := decide_eq_false hv9
  have HV9 : Hid (decide (nth (rwA (splitL l) 0) 0 ≤ 999999) = true) := by unfold Hid; rw [HVO.out]; exact decide_eq_true (by omega)
  have kc1 := KC1.out
  have hbp : bp < w1.heap.size := World.block_lt_of_cell? _ _ KC1.out
  go_wp2_with fail
  clear kc0 kc1 kv
  obtain ⟨X0, hX0⟩ : ∃ g, g = w1.heap.size := ⟨_, rfl⟩
  obtain ⟨V, hV⟩ : ∃ V, V = w1.alloc (.cells #[.int .i64 vo, .slice none 0 0, .slice none 0 0, .slice none 0 0, .slice none 0 0, .slice none 0 0] 28) := ⟨_, rfl⟩
  have hbV : Below w1.heap.size w1 V := by rw [hV]; exact (Below.refl _ _).alloc (Nat.le_refl _) _
  have hsV : V.heap.size = X0 + 1 := by rw [hV, hX0]; simp
  have HXV : Hid (BoxN V X0 28 [.int .i64 vo, .slice none 0 0, .slice none 0 0, .slice none 0 0, .slice none 0 0, .slice none 0 0]) := by unfold Hid; rw [hV, hX0]; exact BoxN.new w1 [.int .i64 vo, .slice none 0 0, .slice none 0 0, .slice none 0 0, .slice none 0 0, .slice none 0 0] _
  have HFV : Hid (Below w1.heap.size w1 V) := hbV
  have HX0 := Lib.hid hX0
  rw [← hX0]
  rw [← hV]
  clear hV hbV hX0
  have hx1 : X0 ≤ w1.heap.size := Nat.le_of_eq HX0.out
  have hx1' : w1.heap.size ≤ X0 := Nat.le_of_eq HX0.out.symm
  refine (spec_cReadCiphers _ (rwA (splitL l) 1) V (by have := row_len l 1; omega) (KI1.out.below HFV.out)).mono ?_
  rintro e w2 ⟨vc, rfl, hO, hb2⟩
  obtain ⟨ca, cn, cc, rfl⟩ := (kR 75 rCipher).sl ((kR 75 rCipher).own_rd hO)
  have HOC := Lib.hid hO
  have HB2 := Lib.hid hb2
  have HRY := Lib.hid ((HRX.out.below HFV.out).below hb2)
  have HBY := Lib.hid ((HBX.out.trans (HFV.out.mono HBX.out.size)).trans (hb2.mono (by have := HFV.out.size; have := HBX.out.size; omega)))
  have HX2 := Lib.hid (HXV.out.below hb2)
  have HF2 : Hid (Below w1.heap.size w1 w2) := HFV.out.trans (hb2.mono (by omega))
  have hs2 := hb2.size
  have hxw2 : X0 + 1 ≤ w2.heap.size := by omega
  clear hO hb2 HXV HFV
  obtain ⟨q0, hq0⟩ : ∃ q, dcB (rwA (splitL l) 1) = q := ⟨_, rfl⟩
  rw [hq0]
  have HQ0 := Lib.hid hq0; clear hq0
  cases q0 with
  | false =>
    clear HRX HBX
    have HRX := HRY
    have HBX := HBY
    have HBQ : Hid (soB l = false) := by unfold Hid soB soOk; rw [HQ0.out]; simp
    have HV := Lib.hid (soD_no HBQ.out)
    have r0 := HRX.out.cell (i := 0) rfl
    have r1 := HRX.out.cell (i := 1) rfl
    have r2 := HRX.out.cell (i := 2) rfl
    have r3 := HRX.out.cell (i := 3) rfl
    have r4 := HRX.out.cell (i := 4) rfl
    have r5 := HRX.out.cell (i := 5) rfl
    have fr := fun j => HRX.out.frozen j
    go_wp2_with fail
    have HRF := Lib.hid ((((((HRX.out.set 0 (.int .i64 0)).set 1 (.slice none 0 0)).set 2 (.slice none 0 0)).set 3 (.slice none 0 0)).set 4 (.slice none 0 0)).set 5 (.slice none 0 0))
    have HBF := Lib.hid ((((((HBX.out.setCell (p := ⟨w.heap.size, 0, none⟩) (Nat.le_refl _) (.int .i64 0)).setCell (p := ⟨w.heap.size, 1, none⟩) (Nat.le_refl _) (.slice none 0 0)).setCell (p := ⟨w.heap.size, 2, none⟩) (Nat.le_refl _) (.slice none 0 0)).setCell (p := ⟨w.heap.size, 3, none⟩) (Nat.le_refl _) (.slice none 0 0)).setCell (p := ⟨w.heap.size, 4, none⟩) (Nat.le_refl _) (.slice none 0 0)).setCell (p := ⟨w.heap.size, 5, none⟩) (Nat.le_refl _) (.slice none 0 0))
    clear r0 r1 r2 r3 r4 r5 fr
    have t0 := HRF.out.cell (i := 0) rfl
    have t1 := HRF.out.cell (i := 1) rfl
    have t2 := HRF.out.cell (i := 2) rfl
    have t3 := HRF.out.cell (i := 3) rfl
    have t4 := HRF.out.cell (i := 4) rfl
    have t5 := HRF.out.cell (i := 5) rfl
    try (go_wp2_with fail)
    refine bodyPost_ret (v := .tuple #[.agg #[.int .i64 0, .slice none 0 0, .slice none 0 0, .slice none 0 0, .slice none 0 0, .slice none 0 0], .bool false]) (by simp [results, Try.results18, go_sem, t0, t1, t2, t3, t4, t5]) rfl ⟨_, by rw [HBQ.out], ?_, HBF.out⟩
    rw [HV.out]
    exact OwnSG.zero _ HBF.out.size

  | true =>
  have hcap : ¬ c1 = 2 := by have := HC1.out; omega
  obtain ⟨N, hN⟩ : ∃ N, n1 = N + 2 := ⟨n1 - 2, by omega⟩
  subst hN
  have xx1 := HX2.out.cell (i := 1) rfl
  have xfr := HX2.out.frozen 1
  go_wp2_with fail
  clear xx1 xfr
  obtain ⟨V2, hV2⟩ : ∃ V2, V2 = w2.setCell ⟨X0, 1, none⟩ (.slice ca cn cc) := ⟨_, rfl⟩
  rw [← hV2]
  have HW2 : Hid (Within X0 (X0 + 1) w2 V2) := by unfold Hid; rw [hV2]; exact (Within.refl X0 (X0 + 1) w2).setCell (Nat.le_refl _) (by omega) 1 (.slice ca cn cc)
  have HXV : Hid (BoxN V2 X0 28 [.int .i64 vo, .slice ca cn cc, .slice none 0 0, .slice none 0 0, .slice none 0 0, .slice none 0 0]) := by unfold Hid; rw [hV2]; exact HX2.out.set 1 _
  have hsV2 : V2.heap.size = w2.heap.size := by rw [hV2, size_setC]
  have HFV : Hid (Below w1.heap.size w1 V2) := by unfold Hid; rw [hV2]; exact HF2.out.setCell (by omega) _
  have HRV := Lib.hid (HRY.out.kept HW2.out (.inl (by omega)))
  have HBV : Hid (Below w.heap.size w V2) := HBY.out.trans (HW2.out.below (by have := HBY.out.size; omega) (by omega))
  have HOV : Hid ((kR 75 rCipher).own V2 (X0 + 1) V2.heap.size (.slice ca cn cc) (dcD (rwA (splitL l) 1))) := by
    have h9 := Kind.kept (K := (kR 75 rCipher).toKind) HOC.out HW2.out (.inr (by omega))
    exact (kR 75 rCipher).own_mono h9 (by omega) (by omega)
  clear hV2 HX2 HF2 HRY HBY HOC HB2 HRX HBX hs2
  obtain ⟨P0, hP0⟩ : ∃ p, p = V2.heap.size := ⟨_, rfl⟩
  have HP0 := Lib.hid hP0
  have hp1 : P0 ≤ V2.heap.size := Nat.le_of_eq hP0
  have hp2 : V2.heap.size ≤ P0 := Nat.le_of_eq hP0.symm
  rw [← hP0] at HOV
  have hpx : X0 + 1 ≤ P0 := by omega
  clear hP0 hsV2
  obtain ⟨ds, hds⟩ : ∃ z, (splitL l).drop 2 = z := ⟨_, rfl⟩
  have HDS := Lib.hid hds
  have HDL : Hid (ds.length = N) := by unfold Hid; rw [← hds, List.length_drop, HN1.out]; omega
  have HRW : Hid (∀ k, rwA (splitL l) (k + 2) = rwA ds k) := fun k => by rw [← hds]; exact rw_drop
  clear hds
  have hNm : N ≤ 398 := by have := HN1.out; have := HSL.out; omega
  obtain ⟨M, hM⟩ : ∃ M, N = M + 1 := ⟨N - 1, by omega⟩
  subst hM
  have HSX : Hid (soX l = ⟨vo, dcD (rwA (splitL l) 1), (ds.take M).map dpD, dpD (rwA ds M)⟩) := by
    have e : soP l = ds.map dpD := by unfold soP; rw [HDS.out]
    have hm : M < (ds.map dpD).length := by rw [List.length_map, HDL.out]; omega
    unfold Hid soX
    rw [e, List.length_map, HDL.out, Nat.add_sub_cancel, HVO.out, List.map_take]
    congr 1
    simp only [nthP, List.getD, List.getElem?_eq_getElem hm, Option.getD_some]
    rw [List.getElem_map, rwA_eq (by rw [HDL.out]; omega)]
  have HA0 : Hid (0 ≤ M → ∃ (pa : Option Addr) (pc : Nat), BoxN V2 X0 28 [.int .i64 vo, .slice ca cn cc, .slice pa 0 pc, .slice none 0 0, .slice none 0 0, .slice none 0 0] ∧ OwnR 26 rProof V2 P0 V2.heap.size (.slice pa 0 pc) ((ds.take 0).map dpD)) := fun _ => ⟨none, 0, HXV.out, OwnR.nil _ _ _ _ _⟩
  have HFF : Hid (Below P0 V2 V2 ∨ True) := .inr trivial
  go_loopg [62] (M + 1) (fun gk iv wr => ∃ k : Nat, k + gk = M + 1 ∧ iv = .int .i64 (k : Int) ∧ Hid ((ds.take k).all dpB = true) ∧ Hid (k ≤ M → ∃ (pa : Option Addr) (pc : Nat), BoxN wr X0 28 [.int .i64 vo, .slice ca cn cc, .slice pa k pc, .slice none 0 0, .slice none 0 0, .slice none 0 0] ∧ OwnR 26 rProof wr P0 wr.heap.size (.slice pa k pc) ((ds.take k).map dpD)) ∧
    Hid (k = M + 1 → ∃ (pa : Option Addr) (pc : Nat) (s1 s2 s3 : Option Addr) (e1 f1 e2 f2 e3 f3 : Nat), BoxN wr X0 28 [.int .i64 vo, .slice ca cn cc, .slice pa M pc, .slice s1 e1 f1, .slice s2 e2 f2, .slice s3 e3 f3] ∧ kSealedG.own wr (X0 + 1) wr.heap.size (.agg #[.int .i64 vo, .slice ca cn cc, .slice pa M pc, .slice s1 e1 f1, .slice s2 e2 f2, .slice s3 e3 f3]) (soX l)) ∧ Hid (Below w1.heap.size w1 wr) ∧ Hid ((kR 75 rCipher).own wr (X0 + 1) P0 (.slice ca cn cc) (dcD (rwA (splitL l) 1))) ∧ Hid (BoxN wr w.heap.size 28 [.int .i64 0, .slice none 0 0, .slice none 0 0, .slice none 0 0, .slice none 0 0, .slice none 0 0]) ∧ Hid (Below w.heap.size w wr) ∧ P0 ≤ wr.heap.size)
  case atStart => exact ⟨0, by omega, rfl, by simp [Hid], HA0, (fun h => by omega), HFV, HOV, HRV, HBV, hp1⟩
  case round =>
    clear HA0 HXV HFV HOV HRV HBV hp1 hp2 HFF
    obtain ⟨k, hkg, rfl, HAL, HA, HE, HF, HOC, HRX, HBX, hsr⟩ := hrel
    by_cases hlt : k < M + 1
    · have HKD : Hid (k < ds.length) := by unfold Hid; rw [HDL.out]; exact hlt
      obtain ⟨pa, pc, hX, hO⟩ := HA.out (by omega)
      have HX := Lib.hid hX
      have HO := Lib.hid hO
      clear HA HE hX hO
      obtain ⟨ra, rn, rc, _, kr, ki, kl⟩ := HKK.out (k + 2) (by omega)
      rw [HRW.out] at ki kl
      have hrl : rn ≤ 400 := by have h1 := row_len l (k + 2); rw [HRW.out k] at h1; omega
      have KI := Lib.hid ki
      have KL := Lib.hid kl
      have kr2 := box_at kr HF.out
      have HTA := Lib.hid (take_all HKD.out)
      have HTM := Lib.hid (take_map HKD.out)
      clear kr ki kl
      have hwk : IntKind.i64.wrap ((k : Int) + 1) = (k : Int) + 1 := IntWalk.i64_in _ (by omega)
      have b0 : (0 : Int) ≤ (k : Int) := by omega
      have b1 : (k : Int) < (M : Int) + 1 := by omega
      have b2 : decide (k < M + 1) = true := decide_eq_true hlt
      rw [show op + (k + 2) = op + 2 + k by omega] at kr2
      go_wp2_with fail
      clear kr2
      refine (spec_cReadProof _ (rwA ds k) wr (by rw [KL.out]; omega) (KI.out.below HF.out)).mono ?_
      rintro e w3 ⟨us, rfl, hown, hb3⟩
      obtain ⟨d1, e1, f1, d2, e2, f2, d3, e3, f3, rfl⟩ := row3 hown
      obtain ⟨qd, hqd⟩ : ∃ q, dpB (rwA ds k) = q := ⟨_, rfl⟩
      obtain ⟨DD, hDD⟩ : ∃ z, dpD (rwA ds k) = z := ⟨_, rfl⟩
      have HMD : Hid (k = M → dpD (rwA ds M) = DD) := fun e => by rw [← hDD, e]
      have HBD : Hid (qd = false → soB l = false) := fun e => by
        unfold soB soOk
        have h9 : ((splitL l).drop 2).all dpB = false := by
          rw [HDS.out]
          cases hh : ds.all dpB with
          | false => rfl
          | true =>
            have := List.all_eq_true.1 hh _ (rwA_mem HKD.out)
            rw [hqd, e] at this; cases this
        rw [h9]; simp
      rw [hqd] at HTA ⊢
      rw [hDD] at HTM hown
      clear hqd hDD
      have HOW := Lib.hid hown
      have HB3 := Lib.hid hb3
      have hs3 := hb3.size
      have HX3 := Lib.hid (HX.out.below hb3)
      have HO3 : Hid (OwnR 26 rProof w3 P0 wr.heap.size (.slice pa k pc) ((ds.take k).map dpD)) := Kind.next (K := (kR 26 rProof).toKind) HO.out hb3
      have HF3 : Hid (Below w1.heap.size w1 w3) := HF.out.trans (hb3.mono (by omega))
      have HC3 : Hid ((kR 75 rCipher).own w3 (X0 + 1) P0 (.slice ca cn cc) (dcD (rwA (splitL l) 1))) := Kind.next (K := (kR 75 rCipher).toKind) HOC.out hb3
      have HRX3 := Lib.hid (HRX.out.below hb3)
      have HBX3 := Lib.hid (HBX.out.trans (hb3.mono HBX.out.size))
      have hLK : Hid (((ds.take k).map dpD).length = k) := by unfold Hid; rw [List.length_map, List.length_take, HDL.out]; omega
      clear hown hb3
      have hw0 : w.heap.size < X0 := by omega
      have hwx : w.heap.size ≠ X0 := by omega
      have hx3 := HX3.out.lt
      have hr3 := HRX3.out.lt
      have hal3 : Below w3.heap.size w3 (w3.alloc (.cells #[.slice d1 e1 f1, .slice d2 e2 f2, .slice d3 e3 f3] 26)) := (Below.refl _ _).alloc (Nat.le_refl _) _
      have HAL3 := Lib.hid hal3
      cases qd with
      | false =>
        clear hal3
        have HBQ : Hid (soB l = false) := HBD.out rfl
        have HV := Lib.hid (soD_no HBQ.out)
        have r0 := HRX3.out.cell (i := 0) rfl
        have r1 := HRX3.out.cell (i := 1) rfl
        have r2 := HRX3.out.cell (i := 2) rfl
        have r3 := HRX3.out.cell (i := 3) rfl
        have r4 := HRX3.out.cell (i := 4) rfl
        have r5 := HRX3.out.cell (i := 5) rfl
        have fr := fun j => HRX3.out.frozen j
        go_wp2_with fail
        have HRE9 := Lib.hid ((((((HRX3.out.set 0 (.int .i64 0)).set 1 (.slice none 0 0)).set 2 (.slice none 0 0)).set 3 (.slice none 0 0)).set 4 (.slice none 0 0)).set 5 (.slice none 0 0))
        have HRF := Lib.hid (HRE9.out.alloc (.cells #[.slice d1 e1 f1, .slice d2 e2 f2, .slice d3 e3 f3] 26))
        have HBE9 := Lib.hid ((((((HBX3.out.setCell (p := ⟨w.heap.size, 0, none⟩) (Nat.le_refl _) (.int .i64 0)).setCell (p := ⟨w.heap.size, 1, none⟩) (Nat.le_refl _) (.slice none 0 0)).setCell (p := ⟨w.heap.size, 2, none⟩) (Nat.le_refl _) (.slice none 0 0)).setCell (p := ⟨w.heap.size, 3, none⟩) (Nat.le_refl _) (.slice none 0 0)).setCell (p := ⟨w.heap.size, 4, none⟩) (Nat.le_refl _) (.slice none 0 0)).setCell (p := ⟨w.heap.size, 5, none⟩) (Nat.le_refl _) (.slice none 0 0))
        have HBF := Lib.hid (HBE9.out.alloc HBE9.out.size (.cells #[.slice d1 e1 f1, .slice d2 e2 f2, .slice d3 e3 f3] 26))
        clear r0 r1 r2 r3 r4 r5 fr
        have t0 := HRF.out.cell (i := 0) rfl
        have t1 := HRF.out.cell (i := 1) rfl
        have t2 := HRF.out.cell (i := 2) rfl
        have t3 := HRF.out.cell (i := 3) rfl
        have t4 := HRF.out.cell (i := 4) rfl
        have t5 := HRF.out.cell (i := 5) rfl
        try (go_wp2_with fail)
        refine bodyPost_ret (v := .tuple #[.agg #[.int .i64 0, .slice none 0 0, .slice none 0 0, .slice none 0 0, .slice none 0 0, .slice none 0 0], .bool false]) (by simp [results, Try.results18, go_sem, t0, t1, t2, t3, t4, t5]) rfl ⟨_, by rw [HBQ.out], ?_, HBF.out⟩
        rw [HV.out]
        exact OwnSG.zero _ HBF.out.size

      | true =>
      have HAL' : Hid ((ds.take (k + 1)).all dpB = true) := by unfold Hid; rw [HTA.out, HAL.out]; rfl
      clear hal3
      by_cases hkM : k = M
      · have wk3 : IntKind.i64.wrap ((M : Int) + 1 + 2 - 3) = (k : Int) := by rw [hkM]; exact (IntWalk.i64_in _ (by omega)).trans (by omega)
        have HNB : Hid (BoxN (w3.alloc (.cells #[.slice d1 e1 f1, .slice d2 e2 f2, .slice d3 e3 f3] 26)) w3.heap.size 26 [.slice d1 e1 f1, .slice d2 e2 f2, .slice d3 e3 f3]) := BoxN.new w3 [.slice d1 e1 f1, .slice d2 e2 f2, .slice d3 e3 f3] _
        have g3 := HX3.out.cell (i := 3) rfl
        have g4 := HX3.out.cell (i := 4) rfl
        have g5 := HX3.out.cell (i := 5) rfl
        have gf := fun j => HX3.out.frozen j
        have n0 := HNB.out.cell (i := 0) rfl
        have n1' := HNB.out.cell (i := 1) rfl
        have n2' := HNB.out.cell (i := 2) rfl
        have HKM := Lib.hid hkM
        clear hkM
        go_wp2_with fail
        clear g3 g4 g5 gf n0 n1' n2' wk3
        obtain ⟨Y0, hY0⟩ : ∃ Y, Y = ((w3.setCell ⟨X0, 3, none⟩ (.slice d1 e1 f1)).setCell ⟨X0, 4, none⟩ (.slice d2 e2 f2)).setCell ⟨X0, 5, none⟩ (.slice d3 e3 f3) := ⟨_, rfl⟩
        rw [← hY0]
        obtain ⟨Y, hY⟩ : ∃ Y, Y = Y0.alloc (.cells #[.slice d1 e1 f1, .slice d2 e2 f2, .slice d3 e3 f3] 26) := ⟨_, rfl⟩
        rw [← hY]
        have hw0Y : Within X0 (X0 + 1) w3 Y0 := by
          rw [hY0]
          exact (((Within.refl X0 (X0 + 1) w3).setCell (Nat.le_refl _) (by omega) 3 (.slice d1 e1 f1)).setCell (Nat.le_refl _) (by omega) 4 (.slice d2 e2 f2)).setCell (Nat.le_refl _) (by omega) 5 (.slice d3 e3 f3)
        have hwY : Within X0 (X0 + 1) w3 Y := by rw [hY]; exact hw0Y.allocR _
        have HXY : Hid (BoxN Y X0 28 [.int .i64 vo, .slice ca cn cc, .slice pa k pc, .slice d1 e1 f1, .slice d2 e2 f2, .slice d3 e3 f3]) := by
          unfold Hid; rw [hY, hY0]
          exact (((HX3.out.set 3 (.slice d1 e1 f1)).set 4 (.slice d2 e2 f2)).set 5 (.slice d3 e3 f3)).alloc _
        have HWY := Lib.hid hwY
        clear hY hY0 hwY hw0Y
        have hsY := HWY.out.size
        go_roundg (M + 1 - (k + 1))
        case measure => omega
        case rel =>
          have hkM := HKM.out
          refine ⟨k + 1, by omega, by go_num, HAL', (fun h => by omega), (fun _ => ?_), ?_, ?_, ?_, ?_, by omega⟩
          · have h1 := HXY.out
            have o1 := Kind.kept (K := (kR 75 rCipher).toKind) HC3.out HWY.out (.inr (Nat.le_refl _))
            obtain ⟨los, his, hox⟩ := OwnRX.of HO3.out
            have o2 := hox.frame' (w' := Y) (fun k h1 h2 h3 => HWY.out.block k h3 (.inr (by omega)))
            have o3 := RowK.kept HOW.out HWY.out (.inr (by omega))
            have hins := hox.ins
            have hblk := hox.blk
            subst hkM
            refine ⟨pa, pc, d1, d2, d3, e1, f1, e2, f2, e3, f3, h1, ?_⟩
            rw [HSX.out, HMD.out rfl]
            exact ⟨_, _, _, _, _, _, _, _, _, _, _, rfl, HVI.out, o1, o2, o3, ⟨Nat.le_refl _, by omega⟩, ⟨by omega, by omega⟩, ⟨by omega, by omega⟩, .inl (by omega), .inl (by omega), (fun b hb => .inl (hblk b hb).2.1), fun i hi => .inl (by have := hins i hi; omega)⟩
          · exact HF3.out.trans (HWY.out.below (by have := HF3.out.size; omega) (by omega))
          · exact Kind.kept (K := (kR 75 rCipher).toKind) HC3.out HWY.out (.inr (Nat.le_refl _))
          · exact HRX3.out.kept HWY.out (.inl (by omega))
          · exact HBX3.out.trans (HWY.out.below (by have := HBX3.out.size; omega) (by omega))
      · have wk3 : IntKind.i64.wrap ((M : Int) + 1 + 2 - 3) = (M : Int) := (IntWalk.i64_in _ (by omega)).trans (by omega)
        have ne3 : ¬ (k : Int) = (M : Int) := by omega
        have ne4 : ¬ k = M := hkM
        have hbA : Below w3.heap.size w3 ((w3.alloc (.cells #[.slice d1 e1 f1, .slice d2 e2 f2, .slice d3 e3 f3] 26)).alloc (.cells #[.slice d1 e1 f1, .slice d2 e2 f2, .slice d3 e3 f3] 26)) := Below.next ((Below.refl _ _).alloc (Nat.le_refl _) _) ((Below.refl _ _).alloc (Nat.le_refl _) _)
        have HBA := Lib.hid hbA
        have HNB : Hid (BoxN ((w3.alloc (.cells #[.slice d1 e1 f1, .slice d2 e2 f2, .slice d3 e3 f3] 26)).alloc (.cells #[.slice d1 e1 f1, .slice d2 e2 f2, .slice d3 e3 f3] 26)) (w3.heap.size + 1) 26 [.slice d1 e1 f1, .slice d2 e2 f2, .slice d3 e3 f3]) := by
          unfold Hid
          have h9 := BoxN.new (w3.alloc (.cells #[.slice d1 e1 f1, .slice d2 e2 f2, .slice d3 e3 f3] 26)) [.slice d1 e1 f1, .slice d2 e2 f2, .slice d3 e3 f3] 26
          rw [show (w3.alloc (.cells #[.slice d1 e1 f1, .slice d2 e2 f2, .slice d3 e3 f3] 26)).heap.size = w3.heap.size + 1 by simp] at h9
          exact h9
        have HOA : Hid (OwnR 26 rProof ((w3.alloc (.cells #[.slice d1 e1 f1, .slice d2 e2 f2, .slice d3 e3 f3] 26)).alloc (.cells #[.slice d1 e1 f1, .slice d2 e2 f2, .slice d3 e3 f3] 26)) P0 wr.heap.size (.slice pa k pc) ((ds.take k).map dpD)) := Kind.next (K := (kR 26 rProof).toKind) HO3.out hbA
        have HWA : Hid (rProof.own ((w3.alloc (.cells #[.slice d1 e1 f1, .slice d2 e2 f2, .slice d3 e3 f3] 26)).alloc (.cells #[.slice d1 e1 f1, .slice d2 e2 f2, .slice d3 e3 f3] 26)) wr.heap.size w3.heap.size [.slice d1 e1 f1, .slice d2 e2 f2, .slice d3 e3 f3] DD) := RowK.next HOW.out hbA
        have HXA := Lib.hid (HX3.out.below hbA)
        have HRA := Lib.hid (HRX3.out.below hbA)
        have HBBA := Lib.hid (HBX3.out.trans (hbA.mono HBX3.out.size))
        have HCA := Lib.hid (Kind.next (K := (kR 75 rCipher).toKind) HC3.out hbA)
        have HSA : Hid (((w3.alloc (.cells #[.slice d1 e1 f1, .slice d2 e2 f2, .slice d3 e3 f3] 26)).alloc (.cells #[.slice d1 e1 f1, .slice d2 e2 f2, .slice d3 e3 f3] 26)).heap.size = w3.heap.size + 2) := by unfold Hid; simp
        clear hbA
        have y2 := HX3.out.cell (i := 2) rfl
        go_wp2_with (at_builtin; refine wpList_append_P rfl _ _ rfl (lo := P0) (hi := wr.heap.size) (a := wr.heap.size) (b := w3.heap.size) (g := w3.heap.size + 1) rfl rfl HOA.out HWA.out (Nat.le_refl _) (by rw [HSA.out]; omega) (by rw [HSA.out]; omega) (by omega) HNB.out (by rw [hLK.out]; omega) ?_; intro v' w5 hO5 hb5; obtain ⟨a9, c9, hv9⟩ := hO5.shapeN (n := k + 1) (by rw [List.length_append, hLK.out]; rfl); subst hv9; have HO5 := Lib.hid hO5; have HB5 := Lib.hid hb5; have BX5 : Hid (BoxN w5 X0 28 [.int .i64 vo, .slice ca cn cc, .slice pa k pc, .slice none 0 0, .slice none 0 0, .slice none 0 0]) := (hb5.block X0 (by omega)).trans HXA.out; clear hO5 hb5; have g2 := BX5.out.cell (i := 2) rfl; have gf := BX5.out.frozen 2)
        have hs5 := HB5.out.size
        have hsA := HSA.out
        (try (go_wp2_with fail))
        clear g2 gf y2
        obtain ⟨Y, hY⟩ : ∃ Y, Y = w5.setCell ⟨X0, 2, none⟩ (.slice a9 (k + 1) c9) := ⟨_, rfl⟩
        (try rw [← hY])
        have HWY : Hid (Within X0 (X0 + 1) w5 Y) := by unfold Hid; rw [hY]; exact (Within.refl X0 (X0 + 1) w5).setCell (Nat.le_refl _) (by omega) 2 (.slice a9 (k + 1) c9)
        have HXY : Hid (BoxN Y X0 28 [.int .i64 vo, .slice ca cn cc, .slice a9 (k + 1) c9, .slice none 0 0, .slice none 0 0, .slice none 0 0]) := by unfold Hid; rw [hY]; exact BX5.out.set 2 _
        have hsY : Y.heap.size = w5.heap.size := by rw [hY, size_setC]
        clear hY
        go_roundg (M + 1 - (k + 1))
        case measure => omega
        case rel =>
          have hO6 : OwnR 26 rProof w5 P0 w5.heap.size (.slice a9 (k + 1) c9) ((ds.take (k + 1)).map dpD) := by rw [HTM.out]; exact HO5.out
          refine ⟨k + 1, by omega, by go_num, HAL', (fun h => ⟨a9, c9, HXY.out, ?_⟩), (fun h => by omega), ?_, ?_, ?_, ?_, by omega⟩
          · rw [hsY]
            exact Kind.kept (K := (kR 26 rProof).toKind) hO6 HWY.out (.inr (by omega))
          · exact ((HF3.out.trans (HBA.out.mono (by omega))).trans (HB5.out.mono (by omega))).trans (HWY.out.below (by have := HF3.out.size; omega) (by omega))
          · exact Kind.kept (K := (kR 75 rCipher).toKind) ((kR 75 rCipher).own_frame HCA.out fun k h1 h2 h3 => HB5.out.block k h2) HWY.out (.inr (Nat.le_refl _))
          · exact BoxN.kept ((HB5.out.block w.heap.size (by omega)).trans HRA.out) HWY.out (.inl (by omega))
          · exact (HBBA.out.trans (HB5.out.mono (by omega))).trans (HWY.out.below (by have := HBBA.out.size; omega) (by omega))
    · obtain rfl : M + 1 = k := by omega
      obtain ⟨pa, pc, s1, s2, s3, e1, f1, e2, f2, e3, f3, hX, hS⟩ := HE.out rfl
      have HXQ := Lib.hid hX
      have HSG := Lib.hid hS
      clear hX hS HA HE
      have HBQ : Hid (soB l = true) := by
        unfold Hid soB soOk
        have ht : ds.take (M + 1) = ds := by rw [← HDL.out, List.take_length]
        have h9 := HAL.out
        rw [ht] at h9
        rw [HSC.out, HV9.out, HQ0.out, HDS.out, h9]; rfl
      have HV := Lib.hid (soD_yes HBQ.out)
      have r0 := HRX.out.cell (i := 0) rfl
      have r1 := HRX.out.cell (i := 1) rfl
      have r2 := HRX.out.cell (i := 2) rfl
      have r3 := HRX.out.cell (i := 3) rfl
      have r4 := HRX.out.cell (i := 4) rfl
      have r5 := HRX.out.cell (i := 5) rfl
      have fr := fun j => HRX.out.frozen j
      have z0 := HXQ.out.cell (i := 0) rfl
      have z1 := HXQ.out.cell (i := 1) rfl
      have z2 := HXQ.out.cell (i := 2) rfl
      have z3 := HXQ.out.cell (i := 3) rfl
      have z4 := HXQ.out.cell (i := 4) rfl
      have z5 := HXQ.out.cell (i := 5) rfl
      have hwx : w.heap.size ≠ X0 := by omega
      have z9 : ¬ (M : Int) + 1 < (M : Int) + 1 := by omega
      have z8 : ¬ M + 1 < M + 1 := by omega
      go_wp2_with fail
      have HRF := Lib.hid ((((((HRX.out.set 0 (.int .i64 vo)).set 1 (.slice ca cn cc)).set 2 (.slice pa M pc)).set 3 (.slice s1 e1 f1)).set 4 (.slice s2 e2 f2)).set 5 (.slice s3 e3 f3))
      have HBF := Lib.hid ((((((HBX.out.setCell (p := ⟨w.heap.size, 0, none⟩) (Nat.le_refl _) (.int .i64 vo)).setCell (p := ⟨w.heap.size, 1, none⟩) (Nat.le_refl _) (.slice ca cn cc)).setCell (p := ⟨w.heap.size, 2, none⟩) (Nat.le_refl _) (.slice pa M pc)).setCell (p := ⟨w.heap.size, 3, none⟩) (Nat.le_refl _) (.slice s1 e1 f1)).setCell (p := ⟨w.heap.size, 4, none⟩) (Nat.le_refl _) (.slice s2 e2 f2)).setCell (p := ⟨w.heap.size, 5, none⟩) (Nat.le_refl _) (.slice s3 e3 f3))
      clear r0 r1 r2 r3 r4 r5 fr z0 z1 z2 z3 z4 z5
      have t0 := HRF.out.cell (i := 0) rfl
      have t1 := HRF.out.cell (i := 1) rfl
      have t2 := HRF.out.cell (i := 2) rfl
      have t3 := HRF.out.cell (i := 3) rfl
      have t4 := HRF.out.cell (i := 4) rfl
      have t5 := HRF.out.cell (i := 5) rfl
      try (go_wp2_with fail)
      have hwF : Within w.heap.size (w.heap.size + 1) wr ((((((wr.setCell ⟨w.heap.size, 0, none⟩ (.int .i64 vo)).setCell ⟨w.heap.size, 1, none⟩ (.slice ca cn cc)).setCell ⟨w.heap.size, 2, none⟩ (.slice pa M pc)).setCell ⟨w.heap.size, 3, none⟩ (.slice s1 e1 f1)).setCell ⟨w.heap.size, 4, none⟩ (.slice s2 e2 f2)).setCell ⟨w.heap.size, 5, none⟩ (.slice s3 e3 f3)) := (((((((Within.refl w.heap.size (w.heap.size + 1) wr).setCell (Nat.le_refl _) (by omega) 0 (.int .i64 vo)).setCell (Nat.le_refl _) (by omega) 1 (.slice ca cn cc)).setCell (Nat.le_refl _) (by omega) 2 (.slice pa M pc)).setCell (Nat.le_refl _) (by omega) 3 (.slice s1 e1 f1)).setCell (Nat.le_refl _) (by omega) 4 (.slice s2 e2 f2)).setCell (Nat.le_refl _) (by omega) 5 (.slice s3 e3 f3))
      refine bodyPost_ret (v := .tuple #[.agg #[.int .i64 vo, .slice ca cn cc, .slice pa M pc, .slice s1 e1 f1, .slice s2 e2 f2, .slice s3 e3 f3], .bool true]) (by simp [results, Try.results18, go_sem, t0, t1, t2, t3, t4, t5]) rfl ⟨_, by rw [HBQ.out], ?_, HBF.out⟩
      rw [HV.out]
      have h9 := Kind.kept (K := kSealedG) HSG.out hwF (.inr (by omega))
      exact kSealedG.own_mono h9 (by omega) (by simp only [size_setC]; omega)
theorem so_cn (l : List Int) : cnSealed (soD l) ≤ 8000 := by
  have h1 := cnSealed_le (soD l)
  have h2 : szSealed (soD l) ≤ 2000 := by
    unfold soD; split
    · exact so_sz l
    · simp [szSealed, szCipherS, szProofS, szProof, zeroP]
  omega
set_option maxRecDepth 100000 in
set_option maxHeartbeats 4000000 in
theorem spec_SealedOfRecord (v : Value) (l : List Int) (w : World) (hl : l.length ≤ 1048576) (h : Ints w v l) :
    Calls Try.prog 5 #[v] w fun e w' => ∃ v', e = .returned (.tuple #[v', .bool (soB l)]) ∧ kSealedG.own w' w.heap.size w'.heap.size v' (soD l) ∧ Below w.heap.size w w' := by
  obtain ⟨a, n, c, rfl⟩ := h.shape
  have H := Lib.hid h; clear h
  obtain ⟨W, hW⟩ : ∃ W, W = w.alloc (.cells #[.int .i64 0, .slice none 0 0, .slice none 0 0, .slice none 0 0, .slice none 0 0, .slice none 0 0] 28) := ⟨_, rfl⟩
  have HB : Hid (Below w.heap.size w W) := by unfold Hid; rw [hW]; (repeat (first | exact Below.refl _ _ | assumption | refine Below.drew ?_ | refine Below.alloc ?_ (by first | (simp; done) | (simp; omega)) _ | refine Below.setCell ?_ (by first | (simp; done) | (simp; omega)) _))
  have HR : Hid (BoxN W w.heap.size 28 [.int .i64 0, .slice none 0 0, .slice none 0 0, .slice none 0 0, .slice none 0 0, .slice none 0 0]) := by unfold Hid; rw [hW]; exact BoxN.new w [.int .i64 0, .slice none 0 0, .slice none 0 0, .slice none 0 0, .slice none 0 0, .slice none 0 0] _
  have hsW : w.heap.size < W.heap.size := by rw [hW]; simp
  go_enter Try.func5, Try.ntmps5
  go_wp2_with fail
  rw [← hW]
  clear hW
  refine (spec_bOfRecord _ l _ hl (H.out.below HB.out)).mono ?_
  rintro e w1 ⟨v1, rfl, hP, hb1⟩
  have hs1 := hb1.size
  have HBX := Lib.hid (HB.out.trans (hb1.mono HB.out.size))
  have HRX := Lib.hid (HR.out.below hb1)
  clear hb1 HR
  obtain ⟨u1, u2, us, l0, h0, los, his, lp, hp, ls, hs, rfl, hrest⟩ := id hP
  obtain ⟨ca, cn, cc, rfl⟩ := (kR 75 rCipher).sl ((kR 75 rCipher).own_rd hrest.2.1)
  obtain ⟨pa, pn, pc, rfl⟩ := hrest.2.2.1.rd.shape
  obtain ⟨s1, e1, f1, s2, e2, f2, s3, e3, f3, rfl⟩ := row3 hrest.2.2.2.1
  clear hrest
  have HP := Lib.hid hP
  clear hP
  obtain ⟨vo, hvo⟩ : ∃ z, (soD l).voter = z := ⟨_, rfl⟩
  rw [hvo] at HP ⊢
  clear hvo
  have r0 := HRX.out.cell (i := 0) rfl
  have r1 := HRX.out.cell (i := 1) rfl
  have r2 := HRX.out.cell (i := 2) rfl
  have r3 := HRX.out.cell (i := 3) rfl
  have r4 := HRX.out.cell (i := 4) rfl
  have r5 := HRX.out.cell (i := 5) rfl
  have fr := fun j => HRX.out.frozen j
  go_wp2_with fail
  have HRF := Lib.hid ((((((HRX.out.set 0 (.int .i64 vo)).set 1 (.slice ca cn cc)).set 2 (.slice pa pn pc)).set 3 (.slice s1 e1 f1)).set 4 (.slice s2 e2 f2)).set 5 (.slice s3 e3 f3))
  have HBF := Lib.hid ((((((HBX.out.setCell (p := ⟨w.heap.size, 0, none⟩) (Nat.le_refl _) (.int .i64 vo)).setCell (p := ⟨w.heap.size, 1, none⟩) (Nat.le_refl _) (.slice ca cn cc)).setCell (p := ⟨w.heap.size, 2, none⟩) (Nat.le_refl _) (.slice pa pn pc)).setCell (p := ⟨w.heap.size, 3, none⟩) (Nat.le_refl _) (.slice s1 e1 f1)).setCell (p := ⟨w.heap.size, 4, none⟩) (Nat.le_refl _) (.slice s2 e2 f2)).setCell (p := ⟨w.heap.size, 5, none⟩) (Nat.le_refl _) (.slice s3 e3 f3))
  clear r0 r1 r2 r3 r4 r5 fr
  have t0 := HRF.out.cell (i := 0) rfl
  have t1 := HRF.out.cell (i := 1) rfl
  have t2 := HRF.out.cell (i := 2) rfl
  have t3 := HRF.out.cell (i := 3) rfl
  have t4 := HRF.out.cell (i := 4) rfl
  have t5 := HRF.out.cell (i := 5) rfl
  try (go_wp2_with fail)
  have hwF : Within w.heap.size (w.heap.size + 1) w1 ((((((w1.setCell ⟨w.heap.size, 0, none⟩ (.int .i64 vo)).setCell ⟨w.heap.size, 1, none⟩ (.slice ca cn cc)).setCell ⟨w.heap.size, 2, none⟩ (.slice pa pn pc)).setCell ⟨w.heap.size, 3, none⟩ (.slice s1 e1 f1)).setCell ⟨w.heap.size, 4, none⟩ (.slice s2 e2 f2)).setCell ⟨w.heap.size, 5, none⟩ (.slice s3 e3 f3)) := (((((((Within.refl w.heap.size (w.heap.size + 1) w1).setCell (Nat.le_refl _) (by omega) 0 (.int .i64 vo)).setCell (Nat.le_refl _) (by omega) 1 (.slice ca cn cc)).setCell (Nat.le_refl _) (by omega) 2 (.slice pa pn pc)).setCell (Nat.le_refl _) (by omega) 3 (.slice s1 e1 f1)).setCell (Nat.le_refl _) (by omega) 4 (.slice s2 e2 f2)).setCell (Nat.le_refl _) (by omega) 5 (.slice s3 e3 f3))
  refine bodyPost_ret (v := .tuple #[.agg #[.int .i64 vo, .slice ca cn cc, .slice pa pn pc, .slice s1 e1 f1, .slice s2 e2 f2, .slice s3 e3 f3], .bool (soB l)]) (by simp [results, Try.results5, go_sem, t0, t1, t2, t3, t4, t5]) rfl ⟨_, rfl, ?_, HBF.out⟩
  have h9 := Kind.kept (K := kSealedG) HP.out hwF (.inr (by omega))
  exact kSealedG.own_mono h9 (by omega) (by simp only [size_setC]; exact Nat.le_refl _)
end Go.Proofs.Ytbcaknmpbkapnaa

/- Walks: stages out of records, the reference's (printed by gen_dec6.py). -/
import Derived.Test.YtbcaknmpbkapnaaDec6
import Derived.Test.YtbcaknmpbkapnaaDec4
import Derived.Test.YtbcaknmpbkapnaaKSeaG
import Derived.Test.YtbcaknmpbkapnaaStg5
import Derived.Test.YtbcaknmpbkapnaaRegV
namespace Go.Proofs.Ytbcaknmpbkapnaa
open Go.RowKit
set_option linter.unusedSimpArgs false
set_option linter.unusedVariables false

theorem recB_all9 {l : List Int} (h : recB l = true) {i : Nat} (hi : i < l.length) : 0 ≤ nth l i ∧ nth l i ≤ 4611686018427387903 := recB_all h hi
set_option maxRecDepth 100000 in
set_option maxHeartbeats 8000000 in
theorem spec_xOfRecord (v : Value) (l : List Int) (w : World) (hl : l.length ≤ 1048576) (h : Ints w v l) :
    Calls Try.prog 33 #[v] w fun e w' => ∃ v', e = .returned (.tuple #[v', .bool (stB l)]) ∧ kStageG.own w' w.heap.size w'.heap.size v' (stD l) ∧ Below w.heap.size w w' := by
  obtain ⟨a, n, c, rfl⟩ := h.shape
  have H := Lib.hid h; clear h
  obtain ⟨W, hW⟩ : ∃ W, W = w.alloc (.cells #[.int .i64 0, .slice none 0 0, .slice none 0 0, .slice none 0 0, .slice none 0 0, .slice none 0 0, .slice none 0 0, .slice none 0 0, .slice none 0 0, .slice none 0 0, .slice none 0 0, .slice none 0 0, .slice none 0 0] 42) := ⟨_, rfl⟩
  have HB : Hid (Below w.heap.size w W) := by unfold Hid; rw [hW]; (repeat (first | exact Below.refl _ _ | assumption | refine Below.drew ?_ | refine Below.alloc ?_ (by first | (simp; done) | (simp; omega)) _ | refine Below.setCell ?_ (by first | (simp; done) | (simp; omega)) _))
  have HR : Hid (BoxN W w.heap.size 42 [.int .i64 0, .slice none 0 0, .slice none 0 0, .slice none 0 0, .slice none 0 0, .slice none 0 0, .slice none 0 0, .slice none 0 0, .slice none 0 0, .slice none 0 0, .slice none 0 0, .slice none 0 0, .slice none 0 0]) := by unfold Hid; rw [hW]; exact BoxN.new w [.int .i64 0, .slice none 0 0, .slice none 0 0, .slice none 0 0, .slice none 0 0, .slice none 0 0, .slice none 0 0, .slice none 0 0, .slice none 0 0, .slice none 0 0, .slice none 0 0, .slice none 0 0, .slice none 0 0] _
  have hsW : w.heap.size < W.heap.size := by rw [hW]; simp
  go_enter Try.func33, Try.ntmps33
  go_wp2_with fail
  rw [← hW]
  clear hW
  refine (spec_cSplit _ l _ (by omega) (H.out.below HB.out)).mono ?_
  rintro e w1 ⟨v1, rfl, hP, hb1⟩
  have hs1 := hb1.size
  have HBX := Lib.hid (HB.out.trans (hb1.mono HB.out.size))
  have HRX := Lib.hid (HR.out.below hb1)
  clear hb1 HR
  obtain ⟨q, hq⟩ : ∃ q, splitB l = q := ⟨_, rfl⟩
  rw [hq]
  rw [hq] at hP
  have HQ := Lib.hid hq; clear hq
  cases q with
  | false =>
    clear hP
    have HBQ : Hid (stB l = false) := stB_c (by unfold stC; rw [HQ.out]; rfl)
    have HV := Lib.hid (stD_no HBQ.out)
    have r0 := HRX.out.cell (i := 0) rfl
    have r1 := HRX.out.cell (i := 1) rfl
    have r2 := HRX.out.cell (i := 2) rfl
    have r3 := HRX.out.cell (i := 3) rfl
    have r4 := HRX.out.cell (i := 4) rfl
    have r5 := HRX.out.cell (i := 5) rfl
    have r6 := HRX.out.cell (i := 6) rfl
    have r7 := HRX.out.cell (i := 7) rfl
    have r8 := HRX.out.cell (i := 8) rfl
    have r9 := HRX.out.cell (i := 9) rfl
    have r10 := HRX.out.cell (i := 10) rfl
    have r11 := HRX.out.cell (i := 11) rfl
    have r12 := HRX.out.cell (i := 12) rfl
    have fr := fun j => HRX.out.frozen j
    go_wp2_with fail
    have HRF := Lib.hid (((((((((((((HRX.out.set 0 (.int .i64 0)).set 1 (.slice none 0 0)).set 2 (.slice none 0 0)).set 3 (.slice none 0 0)).set 4 (.slice none 0 0)).set 5 (.slice none 0 0)).set 6 (.slice none 0 0)).set 7 (.slice none 0 0)).set 8 (.slice none 0 0)).set 9 (.slice none 0 0)).set 10 (.slice none 0 0)).set 11 (.slice none 0 0)).set 12 (.slice none 0 0))
    have HBF := Lib.hid (((((((((((((HBX.out.setCell (p := ⟨w.heap.size, 0, none⟩) (Nat.le_refl _) (.int .i64 0)).setCell (p := ⟨w.heap.size, 1, none⟩) (Nat.le_refl _) (.slice none 0 0)).setCell (p := ⟨w.heap.size, 2, none⟩) (Nat.le_refl _) (.slice none 0 0)).setCell (p := ⟨w.heap.size, 3, none⟩) (Nat.le_refl _) (.slice none 0 0)).setCell (p := ⟨w.heap.size, 4, none⟩) (Nat.le_refl _) (.slice none 0 0)).setCell (p := ⟨w.heap.size, 5, none⟩) (Nat.le_refl _) (.slice none 0 0)).setCell (p := ⟨w.heap.size, 6, none⟩) (Nat.le_refl _) (.slice none 0 0)).setCell (p := ⟨w.heap.size, 7, none⟩) (Nat.le_refl _) (.slice none 0 0)).setCell (p := ⟨w.heap.size, 8, none⟩) (Nat.le_refl _) (.slice none 0 0)).setCell (p := ⟨w.heap.size, 9, none⟩) (Nat.le_refl _) (.slice none 0 0)).setCell (p := ⟨w.heap.size, 10, none⟩) (Nat.le_refl _) (.slice none 0 0)).setCell (p := ⟨w.heap.size, 11, none⟩) (Nat.le_refl _) (.slice none 0 0)).setCell (p := ⟨w.heap.size, 12, none⟩) (Nat.le_refl _) (.slice none 0 0))
    clear r0 r1 r2 r3 r4 r5 r6 r7 r8 r9 r10 r11 r12 fr
    have t0 := HRF.out.cell (i := 0) rfl
    have t1 := HRF.out.cell (i := 1) rfl
    have t2 := HRF.out.cell (i := 2) rfl
    have t3 := HRF.out.cell (i := 3) rfl
    have t4 := HRF.out.cell (i := 4) rfl
    have t5 := HRF.out.cell (i := 5) rfl
    have t6 := HRF.out.cell (i := 6) rfl
    have t7 := HRF.out.cell (i := 7) rfl
    have t8 := HRF.out.cell (i := 8) rfl
    have t9 := HRF.out.cell (i := 9) rfl
    have t10 := HRF.out.cell (i := 10) rfl
    have t11 := HRF.out.cell (i := 11) rfl
    have t12 := HRF.out.cell (i := 12) rfl
    try (go_wp2_with fail)
    refine bodyPost_ret (v := .tuple #[.agg #[.int .i64 0, .slice none 0 0, .slice none 0 0, .slice none 0 0, .slice none 0 0, .slice none 0 0, .slice none 0 0, .slice none 0 0, .slice none 0 0, .slice none 0 0, .slice none 0 0, .slice none 0 0, .slice none 0 0], .bool false]) (by simp [results, Try.results33, go_sem, t0, t1, t2, t3, t4, t5, t6, t7, t8, t9, t10, t11, t12]) rfl ⟨_, by rw [HBQ.out], ?_, HBF.out⟩
    rw [HV.out]
    exact OwnTG.zero _ HBF.out.size

  | true =>
  replace hP := hP rfl
  obtain ⟨a1, n1, c1, rfl⟩ := hP.rd.shape
  have HN1 : Hid (stN l = n1) := hP.rd.len
  by_cases hn5 : n1 < 5
  · have t1 : (n1 : Int) < 5 := by omega
    have HBQ : Hid (stB l = false) := stB_c (by unfold stC; rw [decide_eq_false (p := 5 ≤ stN l) (by have := HN1.out; omega)]; simp)
    have HV := Lib.hid (stD_no HBQ.out)
    have r0 := HRX.out.cell (i := 0) rfl
    have r1 := HRX.out.cell (i := 1) rfl
    have r2 := HRX.out.cell (i := 2) rfl
    have r3 := HRX.out.cell (i := 3) rfl
    have r4 := HRX.out.cell (i := 4) rfl
    have r5 := HRX.out.cell (i := 5) rfl
    have r6 := HRX.out.cell (i := 6) rfl
    have r7 := HRX.out.cell (i := 7) rfl
    have r8 := HRX.out.cell (i := 8) rfl
    have r9 := HRX.out.cell (i := 9) rfl
    have r10 := HRX.out.cell (i := 10) rfl
    have r11 := HRX.out.cell (i := 11) rfl
    have r12 := HRX.out.cell (i := 12) rfl
    have fr := fun j => HRX.out.frozen j
    go_wp2_with fail
    have HRF := Lib.hid (((((((((((((HRX.out.set 0 (.int .i64 0)).set 1 (.slice none 0 0)).set 2 (.slice none 0 0)).set 3 (.slice none 0 0)).set 4 (.slice none 0 0)).set 5 (.slice none 0 0)).set 6 (.slice none 0 0)).set 7 (.slice none 0 0)).set 8 (.slice none 0 0)).set 9 (.slice none 0 0)).set 10 (.slice none 0 0)).set 11 (.slice none 0 0)).set 12 (.slice none 0 0))
    have HBF := Lib.hid (((((((((((((HBX.out.setCell (p := ⟨w.heap.size, 0, none⟩) (Nat.le_refl _) (.int .i64 0)).setCell (p := ⟨w.heap.size, 1, none⟩) (Nat.le_refl _) (.slice none 0 0)).setCell (p := ⟨w.heap.size, 2, none⟩) (Nat.le_refl _) (.slice none 0 0)).setCell (p := ⟨w.heap.size, 3, none⟩) (Nat.le_refl _) (.slice none 0 0)).setCell (p := ⟨w.heap.size, 4, none⟩) (Nat.le_refl _) (.slice none 0 0)).setCell (p := ⟨w.heap.size, 5, none⟩) (Nat.le_refl _) (.slice none 0 0)).setCell (p := ⟨w.heap.size, 6, none⟩) (Nat.le_refl _) (.slice none 0 0)).setCell (p := ⟨w.heap.size, 7, none⟩) (Nat.le_refl _) (.slice none 0 0)).setCell (p := ⟨w.heap.size, 8, none⟩) (Nat.le_refl _) (.slice none 0 0)).setCell (p := ⟨w.heap.size, 9, none⟩) (Nat.le_refl _) (.slice none 0 0)).setCell (p := ⟨w.heap.size, 10, none⟩) (Nat.le_refl _) (.slice none 0 0)).setCell (p := ⟨w.heap.size, 11, none⟩) (Nat.le_refl _) (.slice none 0 0)).setCell (p := ⟨w.heap.size, 12, none⟩) (Nat.le_refl _) (.slice none 0 0))
    clear r0 r1 r2 r3 r4 r5 r6 r7 r8 r9 r10 r11 r12 fr
    have t0 := HRF.out.cell (i := 0) rfl
    have t1 := HRF.out.cell (i := 1) rfl
    have t2 := HRF.out.cell (i := 2) rfl
    have t3 := HRF.out.cell (i := 3) rfl
    have t4 := HRF.out.cell (i := 4) rfl
    have t5 := HRF.out.cell (i := 5) rfl
    have t6 := HRF.out.cell (i := 6) rfl
    have t7 := HRF.out.cell (i := 7) rfl
    have t8 := HRF.out.cell (i := 8) rfl
    have t9 := HRF.out.cell (i := 9) rfl
    have t10 := HRF.out.cell (i := 10) rfl
    have t11 := HRF.out.cell (i := 11) rfl
    have t12 := HRF.out.cell (i := 12) rfl
    try (go_wp2_with fail)
    refine bodyPost_ret (v := .tuple #[.agg #[.int .i64 0, .slice none 0 0, .slice none 0 0, .slice none 0 0, .slice none 0 0, .slice none 0 0, .slice none 0 0, .slice none 0 0, .slice none 0 0, .slice none 0 0, .slice none 0 0, .slice none 0 0, .slice none 0 0], .bool false]) (by simp [results, Try.results33, go_sem, t0, t1, t2, t3, t4, t5, t6, t7, t8, t9, t10, t11, t12]) rfl ⟨_, by rw [HBQ.out], ?_, HBF.out⟩
    rw [HV.out]
    exact OwnTG.zero _ HBF.out.size

  have t1 : ¬ (n1 : Int) < 5 := by omega
  have t1b : decide ((n1 : Int) < 5) = false := decide_eq_false t1
  obtain ⟨bp, los, his, hba, hK, hD⟩ := OwnL.parts hP (by omega)
  subst hba
  have HKK := Lib.hid hK
  have HD := Lib.hid hD
  clear hK hD hP
  obtain ⟨x0, m0, y0, kc0, ki0, kl0, kb0⟩ := HKK.out 0 (by omega)
  obtain ⟨x1, m1, y1, kc1, ki1, kl1, kb1⟩ := HKK.out 1 (by omega)
  obtain ⟨x2, m2, y2, kc2, ki2, kl2, kb2⟩ := HKK.out 2 (by omega)
  obtain ⟨x3, m3, y3, kc3, ki3, kl3, kb3⟩ := HKK.out 3 (by omega)
  obtain ⟨x4, m4, y4, kc4, ki4, kl4, kb4⟩ := HKK.out 4 (by omega)
  have KC0 := Lib.hid kc0
  have KI0 := Lib.hid ki0
  have KB0 := Lib.hid kb0
  have KC1 := Lib.hid kc1
  have KI1 := Lib.hid ki1
  have KB1 := Lib.hid kb1
  have KC2 := Lib.hid kc2
  have KI2 := Lib.hid ki2
  have KB2 := Lib.hid kb2
  have KC3 := Lib.hid kc3
  have KI3 := Lib.hid ki3
  have KB3 := Lib.hid kb3
  have KC4 := Lib.hid kc4
  have KI4 := Lib.hid ki4
  have KB4 := Lib.hid kb4
  have KL0 := Lib.hid kl0
  have KL1 := Lib.hid kl1
  clear kc1 kc2 kc3 kc4 ki0 ki1 ki2 ki3 ki4 kl0 kl1 kl2 kl3 kl4 kb0 kb1 kb2 kb3 kb4
  have u0 : (0 : Int) < (n1 : Int) := by omega
  have u1 : (1 : Int) < (n1 : Int) := by omega
  have u2 : (2 : Int) < (n1 : Int) := by omega
  have u3 : (3 : Int) < (n1 : Int) := by omega
  by_cases hm0 : m0 = 1
  rotate_left
  · have t2 : ¬ (m0 : Int) = 1 := by omega
    have HBQ : Hid (stB l = false) := stB_c (by unfold stC; rw [decide_eq_false (p := (rwA (splitL l) 0).length = 1) (by have := KL0.out; omega)]; simp)
    have HV := Lib.hid (stD_no HBQ.out)
    have r0 := HRX.out.cell (i := 0) rfl
    have r1 := HRX.out.cell (i := 1) rfl
    have r2 := HRX.out.cell (i := 2) rfl
    have r3 := HRX.out.cell (i := 3) rfl
    have r4 := HRX.out.cell (i := 4) rfl
    have r5 := HRX.out.cell (i := 5) rfl
    have r6 := HRX.out.cell (i := 6) rfl
    have r7 := HRX.out.cell (i := 7) rfl
    have r8 := HRX.out.cell (i := 8) rfl
    have r9 := HRX.out.cell (i := 9) rfl
    have r10 := HRX.out.cell (i := 10) rfl
    have r11 := HRX.out.cell (i := 11) rfl
    have r12 := HRX.out.cell (i := 12) rfl
    have fr := fun j => HRX.out.frozen j
    go_wp2_with fail
    have HRF := Lib.hid (((((((((((((HRX.out.set 0 (.int .i64 0)).set 1 (.slice none 0 0)).set 2 (.slice none 0 0)).set 3 (.slice none 0 0)).set 4 (.slice none 0 0)).set 5 (.slice none 0 0)).set 6 (.slice none 0 0)).set 7 (.slice none 0 0)).set 8 (.slice none 0 0)).set 9 (.slice none 0 0)).set 10 (.slice none 0 0)).set 11 (.slice none 0 0)).set 12 (.slice none 0 0))
    have HBF := Lib.hid (((((((((((((HBX.out.setCell (p := ⟨w.heap.size, 0, none⟩) (Nat.le_refl _) (.int .i64 0)).setCell (p := ⟨w.heap.size, 1, none⟩) (Nat.le_refl _) (.slice none 0 0)).setCell (p := ⟨w.heap.size, 2, none⟩) (Nat.le_refl _) (.slice none 0 0)).setCell (p := ⟨w.heap.size, 3, none⟩) (Nat.le_refl _) (.slice none 0 0)).setCell (p := ⟨w.heap.size, 4, none⟩) (Nat.le_refl _) (.slice none 0 0)).setCell (p := ⟨w.heap.size, 5, none⟩) (Nat.le_refl _) (.slice none 0 0)).setCell (p := ⟨w.heap.size, 6, none⟩) (Nat.le_refl _) (.slice none 0 0)).setCell (p := ⟨w.heap.size, 7, none⟩) (Nat.le_refl _) (.slice none 0 0)).setCell (p := ⟨w.heap.size, 8, none⟩) (Nat.le_refl _) (.slice none 0 0)).setCell (p := ⟨w.heap.size, 9, none⟩) (Nat.le_refl _) (.slice none 0 0)).setCell (p := ⟨w.heap.size, 10, none⟩) (Nat.le_refl _) (.slice none 0 0)).setCell (p := ⟨w.heap.size, 11, none⟩) (Nat.le_refl _) (.slice none 0 0)).setCell (p := ⟨w.heap.size, 12, none⟩) (Nat.le_refl _) (.slice none 0 0))
    clear r0 r1 r2 r3 r4 r5 r6 r7 r8 r9 r10 r11 r12 fr
    have t0 := HRF.out.cell (i := 0) rfl
    have t1 := HRF.out.cell (i := 1) rfl
    have t2 := HRF.out.cell (i := 2) rfl
    have t3 := HRF.out.cell (i := 3) rfl
    have t4 := HRF.out.cell (i := 4) rfl
    have t5 := HRF.out.cell (i := 5) rfl
    have t6 := HRF.out.cell (i := 6) rfl
    have t7 := HRF.out.cell (i := 7) rfl
    have t8 := HRF.out.cell (i := 8) rfl
    have t9 := HRF.out.cell (i := 9) rfl
    have t10 := HRF.out.cell (i := 10) rfl
    have t11 := HRF.out.cell (i := 11) rfl
    have t12 := HRF.out.cell (i := 12) rfl
    try (go_wp2_with fail)
    refine bodyPost_ret (v := .tuple #[.agg #[.int .i64 0, .slice none 0 0, .slice none 0 0, .slice none 0 0, .slice none 0 0, .slice none 0 0, .slice none 0 0, .slice none 0 0, .slice none 0 0, .slice none 0 0, .slice none 0 0, .slice none 0 0, .slice none 0 0], .bool false]) (by simp [results, Try.results33, go_sem, t0, t1, t2, t3, t4, t5, t6, t7, t8, t9, t10, t11, t12]) rfl ⟨_, by rw [HBQ.out], ?_, HBF.out⟩
    rw [HV.out]
    exact OwnTG.zero _ HBF.out.size

  subst hm0
  obtain ⟨bv, ov, hx0, hcv⟩ := Ints.at_ (kInts.own_rd KI0.out) (by omega)
  subst hx0
  have kv := hcv 0 (by omega)
  rw [Nat.add_zero] at kv
  obtain ⟨vo, hvo⟩ : ∃ vo, nth (rwA (splitL l) 0) 0 = vo := ⟨_, rfl⟩
  rw [hvo] at kv
  have HVO : Hid (stA l = vo) := hvo
  have KV := Lib.hid kv
  have HVI : Hid (I64 vo) := by unfold Hid; rw [← hvo]; exact nth_64t (Ints.all (kInts.own_rd KI0.out)) 0
  clear hvo hcv
  have HSC : Hid (stC l = true) := by
    unfold Hid stC; rw [HQ.out, decide_eq_true (by have := HN1.out; omega), decide_eq_true KL0.out]; rfl
  obtain ⟨m, hm⟩ : ∃ m, n1 = m + 1 := ⟨n1 - 1, by omega⟩
  obtain ⟨xl, ml, yl, kcl, kil, kll, kbl⟩ := HKK.out m (by omega)
  have KCL := Lib.hid kcl
  have KIL := Lib.hid kil
  have KLL := Lib.hid kll
  clear kcl kil kll kbl
  have HMN : Hid (stN l - 1 = m) := by unfold Hid; rw [HN1.out, hm]; rfl
  have w1m : IntKind.i64.wrap ((n1 : Int) - 1) = (m : Int) := by rw [hm]; exact (IntWalk.i64_in _ (by have := splitL_len l; have := HN1.out; unfold stN at this; omega)).trans (by omega)
  have u4 : (0 : Int) ≤ (m : Int) := by omega
  have u5 : (m : Int) < (n1 : Int) := by omega
  have u6 : m < n1 := by omega
  have HM := Lib.hid hm
  clear hm
  have HVB : Hid (0 ≤ vo ∧ vo ≤ 4611686018427387903) := by
    have hrj : recB (joinL (splitL l)) = true := by have h9 := splitB_eq HQ.out; exact h9.2 ▸ h9.1
    have h0 : recB (rwA (splitL l) 0) = true := (recB_parts hrj).2 _ (rwA_mem (by have := HN1.out; unfold stN at this; omega))
    have h1 := recB_all9 h0 (i := 0) (by have := KL0.out; omega)
    have h2 := HVO.out
    unfold stA at h2
    unfold Hid; rw [← h2]; exact h1
  have ew4 : IntKind.i64.wrap (vo + 4) = vo + 4 := IntWalk.i64_in _ (by have := HVB.out; omega)
  by_cases hn4 : vo + 4 = (n1 : Int)
  rotate_left
  · have HFF : Hid (stF l = false) := by
      unfold Hid stF; rw [HVO.out, HN1.out]
      simp only [Bool.or_eq_false_iff, Bool.and_eq_false_iff, decide_eq_false_iff_not]
      omega
    have w1m9 := w1m
    have HBQ : Hid (stB l = false) := stB_f HFF.out
    have HV := Lib.hid (stD_no HBQ.out)
    have r0 := HRX.out.cell (i := 0) rfl
    have r1 := HRX.out.cell (i := 1) rfl
    have r2 := HRX.out.cell (i := 2) rfl
    have r3 := HRX.out.cell (i := 3) rfl
    have r4 := HRX.out.cell (i := 4) rfl
    have r5 := HRX.out.cell (i := 5) rfl
    have r6 := HRX.out.cell (i := 6) rfl
    have r7 := HRX.out.cell (i := 7) rfl
    have r8 := HRX.out.cell (i := 8) rfl
    have r9 := HRX.out.cell (i := 9) rfl
    have r10 := HRX.out.cell (i := 10) rfl
    have r11 := HRX.out.cell (i := 11) rfl
    have r12 := HRX.out.cell (i := 12) rfl
    have fr := fun j => HRX.out.frozen j
    go_wp2_with fail
    have HRF := Lib.hid (((((((((((((HRX.out.set 0 (.int .i64 0)).set 1 (.slice none 0 0)).set 2 (.slice none 0 0)).set 3 (.slice none 0 0)).set 4 (.slice none 0 0)).set 5 (.slice none 0 0)).set 6 (.slice none 0 0)).set 7 (.slice none 0 0)).set 8 (.slice none 0 0)).set 9 (.slice none 0 0)).set 10 (.slice none 0 0)).set 11 (.slice none 0 0)).set 12 (.slice none 0 0))
    have HBF := Lib.hid (((((((((((((HBX.out.setCell (p := ⟨w.heap.size, 0, none⟩) (Nat.le_refl _) (.int .i64 0)).setCell (p := ⟨w.heap.size, 1, none⟩) (Nat.le_refl _) (.slice none 0 0)).setCell (p := ⟨w.heap.size, 2, none⟩) (Nat.le_refl _) (.slice none 0 0)).setCell (p := ⟨w.heap.size, 3, none⟩) (Nat.le_refl _) (.slice none 0 0)).setCell (p := ⟨w.heap.size, 4, none⟩) (Nat.le_refl _) (.slice none 0 0)).setCell (p := ⟨w.heap.size, 5, none⟩) (Nat.le_refl _) (.slice none 0 0)).setCell (p := ⟨w.heap.size, 6, none⟩) (Nat.le_refl _) (.slice none 0 0)).setCell (p := ⟨w.heap.size, 7, none⟩) (Nat.le_refl _) (.slice none 0 0)).setCell (p := ⟨w.heap.size, 8, none⟩) (Nat.le_refl _) (.slice none 0 0)).setCell (p := ⟨w.heap.size, 9, none⟩) (Nat.le_refl _) (.slice none 0 0)).setCell (p := ⟨w.heap.size, 10, none⟩) (Nat.le_refl _) (.slice none 0 0)).setCell (p := ⟨w.heap.size, 11, none⟩) (Nat.le_refl _) (.slice none 0 0)).setCell (p := ⟨w.heap.size, 12, none⟩) (Nat.le_refl _) (.slice none 0 0))
    clear r0 r1 r2 r3 r4 r5 r6 r7 r8 r9 r10 r11 r12 fr
    have t0 := HRF.out.cell (i := 0) rfl
    have t1 := HRF.out.cell (i := 1) rfl
    have t2 := HRF.out.cell (i := 2) rfl
    have t3 := HRF.out.cell (i := 3) rfl
    have t4 := HRF.out.cell (i := 4) rfl
    have t5 := HRF.out.cell (i := 5) rfl
    have t6 := HRF.out.cell (i := 6) rfl
    have t7 := HRF.out.cell (i := 7) rfl
    have t8 := HRF.out.cell (i := 8) rfl
    have t9 := HRF.out.cell (i := 9) rfl
    have t10 := HRF.out.cell (i := 10) rfl
    have t11 := HRF.out.cell (i := 11) rfl
    have t12 := HRF.out.cell (i := 12) rfl
    try (go_wp2_with fail)
    refine bodyPost_ret (v := .tuple #[.agg #[.int .i64 0, .slice none 0 0, .slice none 0 0, .slice none 0 0, .slice none 0 0, .slice none 0 0, .slice none 0 0, .slice none 0 0, .slice none 0 0, .slice none 0 0, .slice none 0 0, .slice none 0 0, .slice none 0 0], .bool false]) (by simp [results, Try.results33, go_sem, t0, t1, t2, t3, t4, t5, t6, t7, t8, t9, t10, t11, t12]) rfl ⟨_, by rw [HBQ.out], ?_, HBF.out⟩
    rw [HV.out]
    exact OwnTG.zero _ HBF.out.size
  have HN4 := Lib.hid hn4
  have z3 : ((vo + 4) != (n1 : Int)) = false := by rw [bne_eq_false_iff_eq]; exact hn4
  have z3d : decide (vo + 4 = (n1 : Int)) = true := decide_eq_true hn4
  have z3e : ((vo + 4) == (n1 : Int)) = true := by rw [beq_iff_eq]; exact hn4
  clear hn4
  have kc1 := KC1.out
  have hbp : bp < w1.heap.size := World.block_lt_of_cell? _ _ KC1.out
  go_wp2_with fail
  clear kc0 kc1 kv z3 z3d z3e ew4
  obtain ⟨X0, hX0⟩ : ∃ g, g = w1.heap.size := ⟨_, rfl⟩
  obtain ⟨V0, hV0⟩ : ∃ V, V = w1.alloc (.cells #[.int .i64 vo, .slice none 0 0, .slice none 0 0, .slice none 0 0, .slice none 0 0, .slice none 0 0, .slice none 0 0, .slice none 0 0, .slice none 0 0, .slice none 0 0, .slice none 0 0, .slice none 0 0, .slice none 0 0] 42) := ⟨_, rfl⟩
  have hbV0 : Below w1.heap.size w1 V0 := by rw [hV0]; exact (Below.refl _ _).alloc (Nat.le_refl _) _
  have HX00 : Hid (BoxN V0 X0 42 [.int .i64 vo, .slice none 0 0, .slice none 0 0, .slice none 0 0, .slice none 0 0, .slice none 0 0, .slice none 0 0, .slice none 0 0, .slice none 0 0, .slice none 0 0, .slice none 0 0, .slice none 0 0, .slice none 0 0]) := by unfold Hid; rw [hV0, hX0]; exact BoxN.new w1 [.int .i64 vo, .slice none 0 0, .slice none 0 0, .slice none 0 0, .slice none 0 0, .slice none 0 0, .slice none 0 0, .slice none 0 0, .slice none 0 0, .slice none 0 0, .slice none 0 0, .slice none 0 0, .slice none 0 0] _
  have hsV0 : X0 < V0.heap.size := by rw [hV0, hX0]; simp
  rw [← hX0, ← hV0]
  have hx1 : X0 ≤ w1.heap.size := Nat.le_of_eq hX0
  have hx2 : w1.heap.size ≤ X0 := Nat.le_of_eq hX0.symm
  have HF0 := Lib.hid hbV0
  clear hV0 hX0 hbV0 hbp
  refine (spec_cReadCiphers _ (rwA (splitL l) 1) V0 (by have := row_len l 1; omega) ((Ints.below (kInts.own_rd KI1.out)) HF0.out)).mono ?_
  rintro e w2 ⟨vc, rfl, hO, hb2⟩
  obtain ⟨ca, cn, cc, rfl⟩ := (kR 75 rCipher).sl ((kR 75 rCipher).own_rd hO)
  have HOC := Lib.hid hO
  have HB2 : Hid (Below w1.heap.size w1 w2) := HF0.out.trans (hb2.mono HF0.out.size)
  have HX2 := Lib.hid (HX00.out.below hb2)
  have hs2 := hb2.size
  clear hO hb2
  obtain ⟨q0, hq0⟩ : ∃ q, dcB (rwA (splitL l) 1) = q := ⟨_, rfl⟩
  rw [hq0]
  have HQ0 := Lib.hid hq0; clear hq0
  have kl2 := box_at KCL.out HB2.out
  go_wp2_with fail
  clear kl2
  refine (spec_cReadProof _ (rwA (splitL l) m) w2 (by have := row_len l m; omega) ((Ints.below (kInts.own_rd KIL.out)) HB2.out)).mono ?_
  rintro e w3 ⟨us, rfl, hown, hb3⟩
  obtain ⟨d1, e1, f1, d2, e2, f2, d3, e3, f3, rfl⟩ := row3t hown
  have HOW := Lib.hid hown
  have HB3 : Hid (Below w1.heap.size w1 w3) := HB2.out.trans (hb3.mono (by omega))
  have HX3 := Lib.hid (HX2.out.below hb3)
  have HOC3 := Lib.hid (Kind.next (K := (kR 75 rCipher).toKind) HOC.out hb3)
  have hs3 := hb3.size
  clear hown hb3
  obtain ⟨qp, hqp⟩ : ∃ q, dpB (rwA (splitL l) m) = q := ⟨_, rfl⟩
  rw [hqp]
  have HQP := Lib.hid hqp; clear hqp
  obtain ⟨B8, hB8⟩ : ∃ b, b = w3.heap.size := ⟨_, rfl⟩
  obtain ⟨V1, hV1⟩ : ∃ V, V = w3.alloc (.cells #[.slice d1 e1 f1, .slice d2 e2 f2, .slice d3 e3 f3] 26) := ⟨_, rfl⟩
  have hbV1 : Below w3.heap.size w3 V1 := by rw [hV1]; exact (Below.refl _ _).alloc (Nat.le_refl _) _
  have hsV1 : w3.heap.size < V1.heap.size := by rw [hV1]; simp
  have HPV1 : Hid (BoxN V1 B8 26 [.slice d1 e1 f1, .slice d2 e2 f2, .slice d3 e3 f3]) := by unfold Hid; rw [hV1, hB8]; exact BoxN.new w3 [.slice d1 e1 f1, .slice d2 e2 f2, .slice d3 e3 f3] _
  go_upto_region 7 with fail
  rw [← hB8, ← hV1]
  have HXV1 := Lib.hid (HX3.out.below hbV1)
  have HFV1 : Hid (Below w1.heap.size w1 V1) := HB3.out.trans (hbV1.mono (by omega))
  have HRV1 := Lib.hid (HRX.out.below HFV1.out)
  have HBV1 : Hid (Below w.heap.size w V1) := HBX.out.trans (HFV1.out.mono HBX.out.size)
  have HCV1 := Lib.hid (Kind.next (K := (kR 75 rCipher).toKind) HOC3.out hbV1)
  have HIV1 : Hid (rProof.own V1 w2.heap.size w3.heap.size [.slice d1 e1 f1, .slice d2 e2 f2, .slice d3 e3 f3] (dpD (rwA (splitL l) m))) := RowK.next HOW.out hbV1
  have hB1 : B8 ≤ w3.heap.size := Nat.le_of_eq hB8
  have hB2 : w3.heap.size ≤ B8 := Nat.le_of_eq hB8.symm
  clear hV1 hbV1 hB8
  have hcs : q0 = false ∨ (q0 = true ∧ qp = false) ∨ (q0 = true ∧ qp = true) := by cases q0 <;> cases qp <;> simp
  rcases hcs with rfl | ⟨rfl, rfl⟩ | ⟨rfl, rfl⟩
  · skip
    have HBQ : Hid (stB l = false) := by unfold Hid stB stOk; rw [HQ0.out]; simp
    have HV := Lib.hid (stD_no HBQ.out)
    have r0 := HRV1.out.cell (i := 0) rfl
    have r1 := HRV1.out.cell (i := 1) rfl
    have r2 := HRV1.out.cell (i := 2) rfl
    have r3 := HRV1.out.cell (i := 3) rfl
    have r4 := HRV1.out.cell (i := 4) rfl
    have r5 := HRV1.out.cell (i := 5) rfl
    have r6 := HRV1.out.cell (i := 6) rfl
    have r7 := HRV1.out.cell (i := 7) rfl
    have r8 := HRV1.out.cell (i := 8) rfl
    have r9 := HRV1.out.cell (i := 9) rfl
    have r10 := HRV1.out.cell (i := 10) rfl
    have r11 := HRV1.out.cell (i := 11) rfl
    have r12 := HRV1.out.cell (i := 12) rfl
    have fr := fun j => HRV1.out.frozen j
    go_wp2_with fail
    have HRF := Lib.hid (((((((((((((HRV1.out.set 0 (.int .i64 0)).set 1 (.slice none 0 0)).set 2 (.slice none 0 0)).set 3 (.slice none 0 0)).set 4 (.slice none 0 0)).set 5 (.slice none 0 0)).set 6 (.slice none 0 0)).set 7 (.slice none 0 0)).set 8 (.slice none 0 0)).set 9 (.slice none 0 0)).set 10 (.slice none 0 0)).set 11 (.slice none 0 0)).set 12 (.slice none 0 0))
    have HBF := Lib.hid (((((((((((((HBV1.out.setCell (p := ⟨w.heap.size, 0, none⟩) (Nat.le_refl _) (.int .i64 0)).setCell (p := ⟨w.heap.size, 1, none⟩) (Nat.le_refl _) (.slice none 0 0)).setCell (p := ⟨w.heap.size, 2, none⟩) (Nat.le_refl _) (.slice none 0 0)).setCell (p := ⟨w.heap.size, 3, none⟩) (Nat.le_refl _) (.slice none 0 0)).setCell (p := ⟨w.heap.size, 4, none⟩) (Nat.le_refl _) (.slice none 0 0)).setCell (p := ⟨w.heap.size, 5, none⟩) (Nat.le_refl _) (.slice none 0 0)).setCell (p := ⟨w.heap.size, 6, none⟩) (Nat.le_refl _) (.slice none 0 0)).setCell (p := ⟨w.heap.size, 7, none⟩) (Nat.le_refl _) (.slice none 0 0)).setCell (p := ⟨w.heap.size, 8, none⟩) (Nat.le_refl _) (.slice none 0 0)).setCell (p := ⟨w.heap.size, 9, none⟩) (Nat.le_refl _) (.slice none 0 0)).setCell (p := ⟨w.heap.size, 10, none⟩) (Nat.le_refl _) (.slice none 0 0)).setCell (p := ⟨w.heap.size, 11, none⟩) (Nat.le_refl _) (.slice none 0 0)).setCell (p := ⟨w.heap.size, 12, none⟩) (Nat.le_refl _) (.slice none 0 0))
    clear r0 r1 r2 r3 r4 r5 r6 r7 r8 r9 r10 r11 r12 fr
    have t0 := HRF.out.cell (i := 0) rfl
    have t1 := HRF.out.cell (i := 1) rfl
    have t2 := HRF.out.cell (i := 2) rfl
    have t3 := HRF.out.cell (i := 3) rfl
    have t4 := HRF.out.cell (i := 4) rfl
    have t5 := HRF.out.cell (i := 5) rfl
    have t6 := HRF.out.cell (i := 6) rfl
    have t7 := HRF.out.cell (i := 7) rfl
    have t8 := HRF.out.cell (i := 8) rfl
    have t9 := HRF.out.cell (i := 9) rfl
    have t10 := HRF.out.cell (i := 10) rfl
    have t11 := HRF.out.cell (i := 11) rfl
    have t12 := HRF.out.cell (i := 12) rfl
    try (go_wp2_with fail)
    refine bodyPost_ret (v := .tuple #[.agg #[.int .i64 0, .slice none 0 0, .slice none 0 0, .slice none 0 0, .slice none 0 0, .slice none 0 0, .slice none 0 0, .slice none 0 0, .slice none 0 0, .slice none 0 0, .slice none 0 0, .slice none 0 0, .slice none 0 0], .bool false]) (by simp [results, Try.results33, go_sem, t0, t1, t2, t3, t4, t5, t6, t7, t8, t9, t10, t11, t12]) rfl ⟨_, by rw [HBQ.out], ?_, HBF.out⟩
    rw [HV.out]
    exact OwnTG.zero _ HBF.out.size
  · skip
    have HBQ : Hid (stB l = false) := by unfold Hid stB stOk; rw [HMN.out, HQP.out]; simp
    have HV := Lib.hid (stD_no HBQ.out)
    have r0 := HRV1.out.cell (i := 0) rfl
    have r1 := HRV1.out.cell (i := 1) rfl
    have r2 := HRV1.out.cell (i := 2) rfl
    have r3 := HRV1.out.cell (i := 3) rfl
    have r4 := HRV1.out.cell (i := 4) rfl
    have r5 := HRV1.out.cell (i := 5) rfl
    have r6 := HRV1.out.cell (i := 6) rfl
    have r7 := HRV1.out.cell (i := 7) rfl
    have r8 := HRV1.out.cell (i := 8) rfl
    have r9 := HRV1.out.cell (i := 9) rfl
    have r10 := HRV1.out.cell (i := 10) rfl
    have r11 := HRV1.out.cell (i := 11) rfl
    have r12 := HRV1.out.cell (i := 12) rfl
    have fr := fun j => HRV1.out.frozen j
    go_wp2_with fail
    have HRF := Lib.hid (((((((((((((HRV1.out.set 0 (.int .i64 0)).set 1 (.slice none 0 0)).set 2 (.slice none 0 0)).set 3 (.slice none 0 0)).set 4 (.slice none 0 0)).set 5 (.slice none 0 0)).set 6 (.slice none 0 0)).set 7 (.slice none 0 0)).set 8 (.slice none 0 0)).set 9 (.slice none 0 0)).set 10 (.slice none 0 0)).set 11 (.slice none 0 0)).set 12 (.slice none 0 0))
    have HBF := Lib.hid (((((((((((((HBV1.out.setCell (p := ⟨w.heap.size, 0, none⟩) (Nat.le_refl _) (.int .i64 0)).setCell (p := ⟨w.heap.size, 1, none⟩) (Nat.le_refl _) (.slice none 0 0)).setCell (p := ⟨w.heap.size, 2, none⟩) (Nat.le_refl _) (.slice none 0 0)).setCell (p := ⟨w.heap.size, 3, none⟩) (Nat.le_refl _) (.slice none 0 0)).setCell (p := ⟨w.heap.size, 4, none⟩) (Nat.le_refl _) (.slice none 0 0)).setCell (p := ⟨w.heap.size, 5, none⟩) (Nat.le_refl _) (.slice none 0 0)).setCell (p := ⟨w.heap.size, 6, none⟩) (Nat.le_refl _) (.slice none 0 0)).setCell (p := ⟨w.heap.size, 7, none⟩) (Nat.le_refl _) (.slice none 0 0)).setCell (p := ⟨w.heap.size, 8, none⟩) (Nat.le_refl _) (.slice none 0 0)).setCell (p := ⟨w.heap.size, 9, none⟩) (Nat.le_refl _) (.slice none 0 0)).setCell (p := ⟨w.heap.size, 10, none⟩) (Nat.le_refl _) (.slice none 0 0)).setCell (p := ⟨w.heap.size, 11, none⟩) (Nat.le_refl _) (.slice none 0 0)).setCell (p := ⟨w.heap.size, 12, none⟩) (Nat.le_refl _) (.slice none 0 0))
    clear r0 r1 r2 r3 r4 r5 r6 r7 r8 r9 r10 r11 r12 fr
    have t0 := HRF.out.cell (i := 0) rfl
    have t1 := HRF.out.cell (i := 1) rfl
    have t2 := HRF.out.cell (i := 2) rfl
    have t3 := HRF.out.cell (i := 3) rfl
    have t4 := HRF.out.cell (i := 4) rfl
    have t5 := HRF.out.cell (i := 5) rfl
    have t6 := HRF.out.cell (i := 6) rfl
    have t7 := HRF.out.cell (i := 7) rfl
    have t8 := HRF.out.cell (i := 8) rfl
    have t9 := HRF.out.cell (i := 9) rfl
    have t10 := HRF.out.cell (i := 10) rfl
    have t11 := HRF.out.cell (i := 11) rfl
    have t12 := HRF.out.cell (i := 12) rfl
    try (go_wp2_with fail)
    refine bodyPost_ret (v := .tuple #[.agg #[.int .i64 0, .slice none 0 0, .slice none 0 0, .slice none 0 0, .slice none 0 0, .slice none 0 0, .slice none 0 0, .slice none 0 0, .slice none 0 0, .slice none 0 0, .slice none 0 0, .slice none 0 0, .slice none 0 0], .bool false]) (by simp [results, Try.results33, go_sem, t0, t1, t2, t3, t4, t5, t6, t7, t8, t9, t10, t11, t12]) rfl ⟨_, by rw [HBQ.out], ?_, HBF.out⟩
    rw [HV.out]
    exact OwnTG.zero _ HBF.out.size
  have xx1 := HXV1.out.cell (i := 1) rfl
  have xfr := HXV1.out.frozen 1
  go_upto_region 10 with fail
  clear xx1 xfr
  obtain ⟨V, hV⟩ : ∃ V, V = V1.setCell ⟨X0, 1, none⟩ (.slice ca cn cc) := ⟨_, rfl⟩
  rw [← hV]
  have HWV : Hid (Within X0 (X0 + 1) V1 V) := by unfold Hid; rw [hV]; exact (Within.refl X0 (X0 + 1) V1).setCell (Nat.le_refl _) (by omega) 1 (.slice ca cn cc)
  have HXV : Hid (BoxN V X0 42 [.int .i64 vo, .slice ca cn cc, .slice none 0 0, .slice none 0 0, .slice none 0 0, .slice none 0 0, .slice none 0 0, .slice none 0 0, .slice none 0 0, .slice none 0 0, .slice none 0 0, .slice none 0 0, .slice none 0 0]) := by unfold Hid; rw [hV]; exact HXV1.out.set 1 (.slice ca cn cc)
  have hsV : w3.heap.size < V.heap.size := by rw [hV, size_setC]; exact hsV1
  have HFV : Hid (Below w1.heap.size w1 V) := by unfold Hid; rw [hV]; exact HFV1.out.setCell (by omega) _
  have HPV := Lib.hid (HPV1.out.kept HWV.out (.inr (by omega)))
  have HRV := Lib.hid (HRV1.out.kept HWV.out (.inl (by omega)))
  have HBV : Hid (Below w.heap.size w V) := by unfold Hid; rw [hV]; exact HBV1.out.setCell (by show w.heap.size ≤ X0; omega) _
  have HCV := Lib.hid (Kind.kept (K := (kR 75 rCipher).toKind) HCV1.out HWV.out (.inr (by omega)))
  have HIV := Lib.hid (RowK.kept HIV1.out HWV.out (.inr (by omega)))
  clear hV HXV1 HFV1 HPV1 HRV1 HBV1 HCV1 HIV1
  have z0 := HXV.out.cell (i := 0) rfl
  by_cases hf : (vo = 1 ∧ n1 = 5) ∨ (vo = 2 ∧ n1 = 6)
  rotate_left
  · have HFF : Hid (stF l = false) := by
      unfold Hid stF; rw [HVO.out, HN1.out]
      simp only [Bool.or_eq_false_iff, Bool.and_eq_false_iff, decide_eq_false_iff_not]
      omega
    have v1b : (vo == 1) = false := by rw [beq_eq_false_iff_ne]; have := HN4.out; omega
    have v2b : (vo == 2) = false := by rw [beq_eq_false_iff_ne]; have := HN4.out; omega
    have v1c : ¬ vo = 1 := by have := HN4.out; omega
    have v2c : ¬ vo = 2 := by have := HN4.out; omega
    have hwx : w.heap.size ≠ X0 := by omega
    have HBQ : Hid (stB l = false) := stB_f HFF.out
    have HV := Lib.hid (stD_no HBQ.out)
    have r0 := HRV.out.cell (i := 0) rfl
    have r1 := HRV.out.cell (i := 1) rfl
    have r2 := HRV.out.cell (i := 2) rfl
    have r3 := HRV.out.cell (i := 3) rfl
    have r4 := HRV.out.cell (i := 4) rfl
    have r5 := HRV.out.cell (i := 5) rfl
    have r6 := HRV.out.cell (i := 6) rfl
    have r7 := HRV.out.cell (i := 7) rfl
    have r8 := HRV.out.cell (i := 8) rfl
    have r9 := HRV.out.cell (i := 9) rfl
    have r10 := HRV.out.cell (i := 10) rfl
    have r11 := HRV.out.cell (i := 11) rfl
    have r12 := HRV.out.cell (i := 12) rfl
    have fr := fun j => HRV.out.frozen j
    go_wp2_with fail
    have HRF := Lib.hid (((((((((((((HRV.out.set 0 (.int .i64 0)).set 1 (.slice none 0 0)).set 2 (.slice none 0 0)).set 3 (.slice none 0 0)).set 4 (.slice none 0 0)).set 5 (.slice none 0 0)).set 6 (.slice none 0 0)).set 7 (.slice none 0 0)).set 8 (.slice none 0 0)).set 9 (.slice none 0 0)).set 10 (.slice none 0 0)).set 11 (.slice none 0 0)).set 12 (.slice none 0 0))
    have HBF := Lib.hid (((((((((((((HBV.out.setCell (p := ⟨w.heap.size, 0, none⟩) (Nat.le_refl _) (.int .i64 0)).setCell (p := ⟨w.heap.size, 1, none⟩) (Nat.le_refl _) (.slice none 0 0)).setCell (p := ⟨w.heap.size, 2, none⟩) (Nat.le_refl _) (.slice none 0 0)).setCell (p := ⟨w.heap.size, 3, none⟩) (Nat.le_refl _) (.slice none 0 0)).setCell (p := ⟨w.heap.size, 4, none⟩) (Nat.le_refl _) (.slice none 0 0)).setCell (p := ⟨w.heap.size, 5, none⟩) (Nat.le_refl _) (.slice none 0 0)).setCell (p := ⟨w.heap.size, 6, none⟩) (Nat.le_refl _) (.slice none 0 0)).setCell (p := ⟨w.heap.size, 7, none⟩) (Nat.le_refl _) (.slice none 0 0)).setCell (p := ⟨w.heap.size, 8, none⟩) (Nat.le_refl _) (.slice none 0 0)).setCell (p := ⟨w.heap.size, 9, none⟩) (Nat.le_refl _) (.slice none 0 0)).setCell (p := ⟨w.heap.size, 10, none⟩) (Nat.le_refl _) (.slice none 0 0)).setCell (p := ⟨w.heap.size, 11, none⟩) (Nat.le_refl _) (.slice none 0 0)).setCell (p := ⟨w.heap.size, 12, none⟩) (Nat.le_refl _) (.slice none 0 0))
    clear r0 r1 r2 r3 r4 r5 r6 r7 r8 r9 r10 r11 r12 fr
    have t0 := HRF.out.cell (i := 0) rfl
    have t1 := HRF.out.cell (i := 1) rfl
    have t2 := HRF.out.cell (i := 2) rfl
    have t3 := HRF.out.cell (i := 3) rfl
    have t4 := HRF.out.cell (i := 4) rfl
    have t5 := HRF.out.cell (i := 5) rfl
    have t6 := HRF.out.cell (i := 6) rfl
    have t7 := HRF.out.cell (i := 7) rfl
    have t8 := HRF.out.cell (i := 8) rfl
    have t9 := HRF.out.cell (i := 9) rfl
    have t10 := HRF.out.cell (i := 10) rfl
    have t11 := HRF.out.cell (i := 11) rfl
    have t12 := HRF.out.cell (i := 12) rfl
    try (go_wp2_with fail)
    refine bodyPost_ret (v := .tuple #[.agg #[.int .i64 0, .slice none 0 0, .slice none 0 0, .slice none 0 0, .slice none 0 0, .slice none 0 0, .slice none 0 0, .slice none 0 0, .slice none 0 0, .slice none 0 0, .slice none 0 0, .slice none 0 0, .slice none 0 0], .bool false]) (by simp [results, Try.results33, go_sem, t0, t1, t2, t3, t4, t5, t6, t7, t8, t9, t10, t11, t12]) rfl ⟨_, by rw [HBQ.out], ?_, HBF.out⟩
    rw [HV.out]
    exact OwnTG.zero _ HBF.out.size
  have HFT : Hid (stF l = true) := by
    unfold Hid stF; rw [HVO.out, HN1.out]
    simp only [Bool.or_eq_true, Bool.and_eq_true, decide_eq_true_eq]
    exact hf
  obtain ⟨CC, hCC⟩ : ∃ c, c = w3.heap.size := ⟨_, rfl⟩
  have hC1 : CC ≤ w3.heap.size := Nat.le_of_eq hCC
  have hC2 : w3.heap.size ≤ CC := Nat.le_of_eq hCC.symm
  clear hCC
  rcases hf with ⟨hv9, hn9⟩ | ⟨hv9, hn9⟩
  · subst hn9
    have HV9 := Lib.hid hv9
    have v1b : (vo == 1) = true := by rw [hv9]; rfl
    clear hv9
    have kc2 := box_at KC2.out HFV.out
    have kc3 := box_at KC3.out HFV.out
    have p0 := HPV.out.cell (i := 0) rfl
    have p1 := HPV.out.cell (i := 1) rfl
    have p2 := HPV.out.cell (i := 2) rfl
    go_wp2_with fail
    refine wp_region_noPanic ?_
    refine wp_region_P (fun w' => w'.cell? ⟨bp, 2, none⟩ = some (.slice x2 m2 y2) ∧ w'.cell? ⟨bp, 3, none⟩ = some (.slice x3 m3 y3) ∧ w'.cell? ⟨B8, 0, none⟩ = some (.slice d1 e1 f1) ∧ w'.cell? ⟨B8, 1, none⟩ = some (.slice d2 e2 f2) ∧ w'.cell? ⟨B8, 2, none⟩ = some (.slice d3 e3 f3)) 12 [(0, []), (1, [0]), (2, [0]), (3, []), (4, [0]), (5, [0]), (6, []), (7, [4, 1, 0]), (8, [])] [9] (by kernel_rfl) (by kernel_rfl) (by kernel_rfl) rfl (fun _ _ _ _ h => h) (fun w' h => ⟨box_at kc2 h, box_at kc3 h, box_at p0 h, box_at p1 h, box_at p2 h⟩) ?_
    simp only [pickP, pickN, List.getElem?_cons_zero, List.getElem?_cons_succ]
    iterate 9 (refine' chainP_read _ rfl rfl (fun w' hS' => ?_) ?_; rotate_left; · (simp only [lookP, allP, Act.put, List.getElem?_cons_zero, List.getElem?_cons_succ, List.setIfInBounds_toArray, List.set_cons_zero, List.set_cons_succ]; (try dsimp only at hS'); go_simp; (try with_reducible rfl)))
    refine chainP_nil (fun u1 hS' => ?_)
    simp only [allP, Act.put, List.setIfInBounds_toArray, List.set_cons_zero, List.set_cons_succ]
    have hV1 := hS'.1
    clear hS' kc2 kc3 p0 p1 p2
    have HV1 := Lib.hid hV1
    have HX1 := Lib.hid (HXV.out.below hV1)
    have hsV1 := hV1.size
    clear hV1
    have g2 := HX1.out.cell (i := 2) rfl
    have g3 := HX1.out.cell (i := 3) rfl
    have g4 := HX1.out.cell (i := 4) rfl
    have g5 := HX1.out.cell (i := 5) rfl
    have g6 := HX1.out.cell (i := 6) rfl
    have gf := fun j => HX1.out.frozen j
    go_wp2_with fail
    refine NoPanic.normal ?_
    clear g2 g3 g4 g5 g6 gf
    obtain ⟨Y, hY⟩ : ∃ Y, Y = ((((u1.setCell ⟨X0, 2, none⟩ (.slice x2 m2 y2)).setCell ⟨X0, 3, none⟩ (.slice x3 m3 y3)).setCell ⟨X0, 4, none⟩ (.slice d1 e1 f1)).setCell ⟨X0, 5, none⟩ (.slice d2 e2 f2)).setCell ⟨X0, 6, none⟩ (.slice d3 e3 f3) := ⟨_, rfl⟩
    rw [← hY]
    have HWY : Hid (Within X0 (X0 + 1) u1 Y) := by unfold Hid; rw [hY]; exact ((((((Within.refl X0 (X0 + 1) u1).setCell (Nat.le_refl _) (by omega) 2 (.slice x2 m2 y2)).setCell (Nat.le_refl _) (by omega) 3 (.slice x3 m3 y3)).setCell (Nat.le_refl _) (by omega) 4 (.slice d1 e1 f1)).setCell (Nat.le_refl _) (by omega) 5 (.slice d2 e2 f2)).setCell (Nat.le_refl _) (by omega) 6 (.slice d3 e3 f3))
    have HXY : Hid (BoxN Y X0 42 [.int .i64 vo, .slice ca cn cc, .slice x2 m2 y2, .slice x3 m3 y3, .slice d1 e1 f1, .slice d2 e2 f2, .slice d3 e3 f3, .slice none 0 0, .slice none 0 0, .slice none 0 0, .slice none 0 0, .slice none 0 0, .slice none 0 0]) := by unfold Hid; rw [hY]; exact (((((HX1.out.set 2 (.slice x2 m2 y2)).set 3 (.slice x3 m3 y3)).set 4 (.slice d1 e1 f1)).set 5 (.slice d2 e2 f2)).set 6 (.slice d3 e3 f3))
    clear hY
    have hsY := HWY.out.size
    have HRY := Lib.hid ((HRV.out.below HV1.out).kept HWY.out (.inl (by omega)))
    have HBY : Hid (Below w.heap.size w Y) := (HBV.out.trans (HV1.out.mono HBV.out.size)).trans (HWY.out.below (by have := HBV.out.size; omega) (by omega))
    have HSX : Hid (stX l = ⟨1, dcD (rwA (splitL l) 1), ⟨rwA (splitL l) 2, rwA (splitL l) 3, dpD (rwA (splitL l) m)⟩, zeroO⟩) := by
      unfold Hid stX
      rw [if_pos (by rw [HVO.out]; exact HV9.out), HMN.out]
    have HSG : Hid (kStageG.own Y W.heap.size CC (.agg #[.int .i64 vo, .slice ca cn cc, .slice x2 m2 y2, .slice x3 m3 y3, .slice d1 e1 f1, .slice d2 e2 f2, .slice d3 e3 f3, .slice none 0 0, .slice none 0 0, .slice none 0 0, .slice none 0 0, .slice none 0 0, .slice none 0 0]) (stX l)) := by
      unfold Hid
      rw [HSX.out]
      have o0 := Kind.kept (K := (kR 75 rCipher).toKind) (Kind.next (K := (kR 75 rCipher).toKind) HCV.out HV1.out) HWY.out (.inr (by omega))
      have b2 := KB2.out
      have o2 := Kind.kept (K := kInts) (Kind.next (K := kInts) (Kind.next (K := kInts) KI2.out HFV.out) HV1.out) HWY.out (.inl (by omega))
      have b3 := KB3.out
      have o3 := Kind.kept (K := kInts) (Kind.next (K := kInts) (Kind.next (K := kInts) KI3.out HFV.out) HV1.out) HWY.out (.inl (by omega))
      have o9 := RowK.kept (RowK.next HIV.out HV1.out) HWY.out (.inr (by omega))
      exact OwnTG.matrix HV9.out o0 o2 o3 o9 b2.1 (by omega) b3.1 (by omega) (by omega) (by omega) (by omega) (by omega) (HD.out 2 3 (by omega) (by omega) (by decide))
    have z0 := HXY.out.cell (i := 0) rfl
    have z1 := HXY.out.cell (i := 1) rfl
    have z2 := HXY.out.cell (i := 2) rfl
    have z3 := HXY.out.cell (i := 3) rfl
    have z4 := HXY.out.cell (i := 4) rfl
    have z5 := HXY.out.cell (i := 5) rfl
    have z6 := HXY.out.cell (i := 6) rfl
    have z7 := HXY.out.cell (i := 7) rfl
    have z8 := HXY.out.cell (i := 8) rfl
    have z9 := HXY.out.cell (i := 9) rfl
    have z10 := HXY.out.cell (i := 10) rfl
    have z11 := HXY.out.cell (i := 11) rfl
    have z12 := HXY.out.cell (i := 12) rfl
    have r0 := HRY.out.cell (i := 0) rfl
    have r1 := HRY.out.cell (i := 1) rfl
    have r2 := HRY.out.cell (i := 2) rfl
    have r3 := HRY.out.cell (i := 3) rfl
    have r4 := HRY.out.cell (i := 4) rfl
    have r5 := HRY.out.cell (i := 5) rfl
    have r6 := HRY.out.cell (i := 6) rfl
    have r7 := HRY.out.cell (i := 7) rfl
    have r8 := HRY.out.cell (i := 8) rfl
    have r9 := HRY.out.cell (i := 9) rfl
    have r10 := HRY.out.cell (i := 10) rfl
    have r11 := HRY.out.cell (i := 11) rfl
    have r12 := HRY.out.cell (i := 12) rfl
    have fr := fun j => HRY.out.frozen j
    have hwx : w.heap.size ≠ X0 := by omega
    go_wp2_with fail
    have HSGF := HSG
    clear z0 z1 z2 z3 z4 z5 z6 z7 z8 z9 z10 z11 z12 r0 r1 r2 r3 r4 r5 r6 r7 r8 r9 r10 r11 r12 fr
    have HBQ : Hid (stB l = true) := by unfold Hid stB stOk; rw [HSC.out, HFT.out, HMN.out, HQ0.out, HQP.out]; rfl
    have HV := Lib.hid (stD_yes HBQ.out)
    have HRF := Lib.hid (((((((((((((HRY.out.set 0 (.int .i64 vo)).set 1 (.slice ca cn cc)).set 2 (.slice x2 m2 y2)).set 3 (.slice x3 m3 y3)).set 4 (.slice d1 e1 f1)).set 5 (.slice d2 e2 f2)).set 6 (.slice d3 e3 f3)).set 7 (.slice none 0 0)).set 8 (.slice none 0 0)).set 9 (.slice none 0 0)).set 10 (.slice none 0 0)).set 11 (.slice none 0 0)).set 12 (.slice none 0 0))
    have HBF := Lib.hid (((((((((((((HBY.out.setCell (p := ⟨w.heap.size, 0, none⟩) (Nat.le_refl _) (.int .i64 vo)).setCell (p := ⟨w.heap.size, 1, none⟩) (Nat.le_refl _) (.slice ca cn cc)).setCell (p := ⟨w.heap.size, 2, none⟩) (Nat.le_refl _) (.slice x2 m2 y2)).setCell (p := ⟨w.heap.size, 3, none⟩) (Nat.le_refl _) (.slice x3 m3 y3)).setCell (p := ⟨w.heap.size, 4, none⟩) (Nat.le_refl _) (.slice d1 e1 f1)).setCell (p := ⟨w.heap.size, 5, none⟩) (Nat.le_refl _) (.slice d2 e2 f2)).setCell (p := ⟨w.heap.size, 6, none⟩) (Nat.le_refl _) (.slice d3 e3 f3)).setCell (p := ⟨w.heap.size, 7, none⟩) (Nat.le_refl _) (.slice none 0 0)).setCell (p := ⟨w.heap.size, 8, none⟩) (Nat.le_refl _) (.slice none 0 0)).setCell (p := ⟨w.heap.size, 9, none⟩) (Nat.le_refl _) (.slice none 0 0)).setCell (p := ⟨w.heap.size, 10, none⟩) (Nat.le_refl _) (.slice none 0 0)).setCell (p := ⟨w.heap.size, 11, none⟩) (Nat.le_refl _) (.slice none 0 0)).setCell (p := ⟨w.heap.size, 12, none⟩) (Nat.le_refl _) (.slice none 0 0))
    have t0 := HRF.out.cell (i := 0) rfl
    have t1 := HRF.out.cell (i := 1) rfl
    have t2 := HRF.out.cell (i := 2) rfl
    have t3 := HRF.out.cell (i := 3) rfl
    have t4 := HRF.out.cell (i := 4) rfl
    have t5 := HRF.out.cell (i := 5) rfl
    have t6 := HRF.out.cell (i := 6) rfl
    have t7 := HRF.out.cell (i := 7) rfl
    have t8 := HRF.out.cell (i := 8) rfl
    have t9 := HRF.out.cell (i := 9) rfl
    have t10 := HRF.out.cell (i := 10) rfl
    have t11 := HRF.out.cell (i := 11) rfl
    have t12 := HRF.out.cell (i := 12) rfl
    try (go_wp2_with fail)
    have hwF : Within w.heap.size (w.heap.size + 1) Y (((((((((((((Y.setCell ⟨w.heap.size, 0, none⟩ (.int .i64 vo)).setCell ⟨w.heap.size, 1, none⟩ (.slice ca cn cc)).setCell ⟨w.heap.size, 2, none⟩ (.slice x2 m2 y2)).setCell ⟨w.heap.size, 3, none⟩ (.slice x3 m3 y3)).setCell ⟨w.heap.size, 4, none⟩ (.slice d1 e1 f1)).setCell ⟨w.heap.size, 5, none⟩ (.slice d2 e2 f2)).setCell ⟨w.heap.size, 6, none⟩ (.slice d3 e3 f3)).setCell ⟨w.heap.size, 7, none⟩ (.slice none 0 0)).setCell ⟨w.heap.size, 8, none⟩ (.slice none 0 0)).setCell ⟨w.heap.size, 9, none⟩ (.slice none 0 0)).setCell ⟨w.heap.size, 10, none⟩ (.slice none 0 0)).setCell ⟨w.heap.size, 11, none⟩ (.slice none 0 0)).setCell ⟨w.heap.size, 12, none⟩ (.slice none 0 0)) := ((((((((((((((Within.refl w.heap.size (w.heap.size + 1) Y).setCell (Nat.le_refl _) (by omega) 0 (.int .i64 vo)).setCell (Nat.le_refl _) (by omega) 1 (.slice ca cn cc)).setCell (Nat.le_refl _) (by omega) 2 (.slice x2 m2 y2)).setCell (Nat.le_refl _) (by omega) 3 (.slice x3 m3 y3)).setCell (Nat.le_refl _) (by omega) 4 (.slice d1 e1 f1)).setCell (Nat.le_refl _) (by omega) 5 (.slice d2 e2 f2)).setCell (Nat.le_refl _) (by omega) 6 (.slice d3 e3 f3)).setCell (Nat.le_refl _) (by omega) 7 (.slice none 0 0)).setCell (Nat.le_refl _) (by omega) 8 (.slice none 0 0)).setCell (Nat.le_refl _) (by omega) 9 (.slice none 0 0)).setCell (Nat.le_refl _) (by omega) 10 (.slice none 0 0)).setCell (Nat.le_refl _) (by omega) 11 (.slice none 0 0)).setCell (Nat.le_refl _) (by omega) 12 (.slice none 0 0))
    refine bodyPost_ret (v := .tuple #[.agg #[.int .i64 vo, .slice ca cn cc, .slice x2 m2 y2, .slice x3 m3 y3, .slice d1 e1 f1, .slice d2 e2 f2, .slice d3 e3 f3, .slice none 0 0, .slice none 0 0, .slice none 0 0, .slice none 0 0, .slice none 0 0, .slice none 0 0], .bool true]) (by simp [results, Try.results33, go_sem, t0, t1, t2, t3, t4, t5, t6, t7, t8, t9, t10, t11, t12]) rfl ⟨_, by rw [HBQ.out], ?_, HBF.out⟩
    rw [HV.out]
    have h9 := Kind.kept (K := kStageG) HSGF.out hwF (.inr (by omega))
    exact kStageG.own_mono h9 (by omega) (by simp only [size_setC]; omega)
  · subst hn9
    have HV9 := Lib.hid hv9
    have v1b : (vo == 1) = false := by rw [hv9]; rfl
    have v2b : (vo == 2) = true := by rw [hv9]; rfl
    clear hv9
    have kc2 := box_at KC2.out HFV.out
    have kc3 := box_at KC3.out HFV.out
    have kc4 := box_at KC4.out HFV.out
    have p0 := HPV.out.cell (i := 0) rfl
    have p1 := HPV.out.cell (i := 1) rfl
    have p2 := HPV.out.cell (i := 2) rfl
    go_wp2_with fail
    refine wp_region_noPanic ?_
    refine wp_region_P (fun w' => w'.cell? ⟨bp, 2, none⟩ = some (.slice x2 m2 y2) ∧ w'.cell? ⟨bp, 3, none⟩ = some (.slice x3 m3 y3) ∧ w'.cell? ⟨bp, 4, none⟩ = some (.slice x4 m4 y4) ∧ w'.cell? ⟨B8, 0, none⟩ = some (.slice d1 e1 f1) ∧ w'.cell? ⟨B8, 1, none⟩ = some (.slice d2 e2 f2) ∧ w'.cell? ⟨B8, 2, none⟩ = some (.slice d3 e3 f3)) 15 [(0, []), (1, [0]), (2, [0]), (3, []), (4, [0]), (5, [0]), (6, []), (7, [0]), (8, [0]), (9, []), (10, [7, 4, 1, 0]), (11, [])] [12] (by kernel_rfl) (by kernel_rfl) (by kernel_rfl) rfl (fun _ _ _ _ h => h) (fun w' h => ⟨box_at kc2 h, box_at kc3 h, box_at kc4 h, box_at p0 h, box_at p1 h, box_at p2 h⟩) ?_
    simp only [pickP, pickN, List.getElem?_cons_zero, List.getElem?_cons_succ]
    iterate 12 (refine' chainP_read _ rfl rfl (fun w' hS' => ?_) ?_; rotate_left; · (simp only [lookP, allP, Act.put, List.getElem?_cons_zero, List.getElem?_cons_succ, List.setIfInBounds_toArray, List.set_cons_zero, List.set_cons_succ]; (try dsimp only at hS'); go_simp; (try with_reducible rfl)))
    refine chainP_nil (fun u1 hS' => ?_)
    simp only [allP, Act.put, List.setIfInBounds_toArray, List.set_cons_zero, List.set_cons_succ]
    have hV1 := hS'.1
    clear hS' kc2 kc3 kc4 p0 p1 p2
    have HV1 := Lib.hid hV1
    have HX1 := Lib.hid (HXV.out.below hV1)
    have hsV1 := hV1.size
    clear hV1
    have g7 := HX1.out.cell (i := 7) rfl
    have g8 := HX1.out.cell (i := 8) rfl
    have g9 := HX1.out.cell (i := 9) rfl
    have g10 := HX1.out.cell (i := 10) rfl
    have g11 := HX1.out.cell (i := 11) rfl
    have g12 := HX1.out.cell (i := 12) rfl
    have gf := fun j => HX1.out.frozen j
    go_wp2_with fail
    refine NoPanic.normal ?_
    clear g7 g8 g9 g10 g11 g12 gf
    obtain ⟨Y, hY⟩ : ∃ Y, Y = (((((u1.setCell ⟨X0, 7, none⟩ (.slice x2 m2 y2)).setCell ⟨X0, 8, none⟩ (.slice x3 m3 y3)).setCell ⟨X0, 9, none⟩ (.slice x4 m4 y4)).setCell ⟨X0, 10, none⟩ (.slice d1 e1 f1)).setCell ⟨X0, 11, none⟩ (.slice d2 e2 f2)).setCell ⟨X0, 12, none⟩ (.slice d3 e3 f3) := ⟨_, rfl⟩
    rw [← hY]
    have HWY : Hid (Within X0 (X0 + 1) u1 Y) := by unfold Hid; rw [hY]; exact (((((((Within.refl X0 (X0 + 1) u1).setCell (Nat.le_refl _) (by omega) 7 (.slice x2 m2 y2)).setCell (Nat.le_refl _) (by omega) 8 (.slice x3 m3 y3)).setCell (Nat.le_refl _) (by omega) 9 (.slice x4 m4 y4)).setCell (Nat.le_refl _) (by omega) 10 (.slice d1 e1 f1)).setCell (Nat.le_refl _) (by omega) 11 (.slice d2 e2 f2)).setCell (Nat.le_refl _) (by omega) 12 (.slice d3 e3 f3))
    have HXY : Hid (BoxN Y X0 42 [.int .i64 vo, .slice ca cn cc, .slice none 0 0, .slice none 0 0, .slice none 0 0, .slice none 0 0, .slice none 0 0, .slice x2 m2 y2, .slice x3 m3 y3, .slice x4 m4 y4, .slice d1 e1 f1, .slice d2 e2 f2, .slice d3 e3 f3]) := by unfold Hid; rw [hY]; exact ((((((HX1.out.set 7 (.slice x2 m2 y2)).set 8 (.slice x3 m3 y3)).set 9 (.slice x4 m4 y4)).set 10 (.slice d1 e1 f1)).set 11 (.slice d2 e2 f2)).set 12 (.slice d3 e3 f3))
    clear hY
    have hsY := HWY.out.size
    have HRY := Lib.hid ((HRV.out.below HV1.out).kept HWY.out (.inl (by omega)))
    have HBY : Hid (Below w.heap.size w Y) := (HBV.out.trans (HV1.out.mono HBV.out.size)).trans (HWY.out.below (by have := HBV.out.size; omega) (by omega))
    have HSX : Hid (stX l = ⟨2, dcD (rwA (splitL l) 1), zeroM, ⟨rwA (splitL l) 2, rwA (splitL l) 3, rwA (splitL l) 4, dpD (rwA (splitL l) m)⟩⟩) := by
      unfold Hid stX
      rw [if_neg (by rw [HVO.out, HV9.out]; decide), HMN.out]
    have HSG : Hid (kStageG.own Y W.heap.size CC (.agg #[.int .i64 vo, .slice ca cn cc, .slice none 0 0, .slice none 0 0, .slice none 0 0, .slice none 0 0, .slice none 0 0, .slice x2 m2 y2, .slice x3 m3 y3, .slice x4 m4 y4, .slice d1 e1 f1, .slice d2 e2 f2, .slice d3 e3 f3]) (stX l)) := by
      unfold Hid
      rw [HSX.out]
      have o0 := Kind.kept (K := (kR 75 rCipher).toKind) (Kind.next (K := (kR 75 rCipher).toKind) HCV.out HV1.out) HWY.out (.inr (by omega))
      have b2 := KB2.out
      have o2 := Kind.kept (K := kInts) (Kind.next (K := kInts) (Kind.next (K := kInts) KI2.out HFV.out) HV1.out) HWY.out (.inl (by omega))
      have b3 := KB3.out
      have o3 := Kind.kept (K := kInts) (Kind.next (K := kInts) (Kind.next (K := kInts) KI3.out HFV.out) HV1.out) HWY.out (.inl (by omega))
      have b4 := KB4.out
      have o4 := Kind.kept (K := kInts) (Kind.next (K := kInts) (Kind.next (K := kInts) KI4.out HFV.out) HV1.out) HWY.out (.inl (by omega))
      have o9 := RowK.kept (RowK.next HIV.out HV1.out) HWY.out (.inr (by omega))
      exact OwnTG.poly HV9.out o0 o2 o3 o4 o9 b2.1 (by omega) b3.1 (by omega) b4.1 (by omega) (by omega) (by omega) (by omega) (by omega) (HD.out 2 3 (by omega) (by omega) (by decide)) (HD.out 2 4 (by omega) (by omega) (by decide)) (HD.out 3 4 (by omega) (by omega) (by decide))
    have z0 := HXY.out.cell (i := 0) rfl
    have z1 := HXY.out.cell (i := 1) rfl
    have z2 := HXY.out.cell (i := 2) rfl
    have z3 := HXY.out.cell (i := 3) rfl
    have z4 := HXY.out.cell (i := 4) rfl
    have z5 := HXY.out.cell (i := 5) rfl
    have z6 := HXY.out.cell (i := 6) rfl
    have z7 := HXY.out.cell (i := 7) rfl
    have z8 := HXY.out.cell (i := 8) rfl
    have z9 := HXY.out.cell (i := 9) rfl
    have z10 := HXY.out.cell (i := 10) rfl
    have z11 := HXY.out.cell (i := 11) rfl
    have z12 := HXY.out.cell (i := 12) rfl
    have r0 := HRY.out.cell (i := 0) rfl
    have r1 := HRY.out.cell (i := 1) rfl
    have r2 := HRY.out.cell (i := 2) rfl
    have r3 := HRY.out.cell (i := 3) rfl
    have r4 := HRY.out.cell (i := 4) rfl
    have r5 := HRY.out.cell (i := 5) rfl
    have r6 := HRY.out.cell (i := 6) rfl
    have r7 := HRY.out.cell (i := 7) rfl
    have r8 := HRY.out.cell (i := 8) rfl
    have r9 := HRY.out.cell (i := 9) rfl
    have r10 := HRY.out.cell (i := 10) rfl
    have r11 := HRY.out.cell (i := 11) rfl
    have r12 := HRY.out.cell (i := 12) rfl
    have fr := fun j => HRY.out.frozen j
    have hwx : w.heap.size ≠ X0 := by omega
    go_wp2_with fail
    have HSGF := HSG
    clear z0 z1 z2 z3 z4 z5 z6 z7 z8 z9 z10 z11 z12 r0 r1 r2 r3 r4 r5 r6 r7 r8 r9 r10 r11 r12 fr
    have HBQ : Hid (stB l = true) := by unfold Hid stB stOk; rw [HSC.out, HFT.out, HMN.out, HQ0.out, HQP.out]; rfl
    have HV := Lib.hid (stD_yes HBQ.out)
    have HRF := Lib.hid (((((((((((((HRY.out.set 0 (.int .i64 vo)).set 1 (.slice ca cn cc)).set 2 (.slice none 0 0)).set 3 (.slice none 0 0)).set 4 (.slice none 0 0)).set 5 (.slice none 0 0)).set 6 (.slice none 0 0)).set 7 (.slice x2 m2 y2)).set 8 (.slice x3 m3 y3)).set 9 (.slice x4 m4 y4)).set 10 (.slice d1 e1 f1)).set 11 (.slice d2 e2 f2)).set 12 (.slice d3 e3 f3))
    have HBF := Lib.hid (((((((((((((HBY.out.setCell (p := ⟨w.heap.size, 0, none⟩) (Nat.le_refl _) (.int .i64 vo)).setCell (p := ⟨w.heap.size, 1, none⟩) (Nat.le_refl _) (.slice ca cn cc)).setCell (p := ⟨w.heap.size, 2, none⟩) (Nat.le_refl _) (.slice none 0 0)).setCell (p := ⟨w.heap.size, 3, none⟩) (Nat.le_refl _) (.slice none 0 0)).setCell (p := ⟨w.heap.size, 4, none⟩) (Nat.le_refl _) (.slice none 0 0)).setCell (p := ⟨w.heap.size, 5, none⟩) (Nat.le_refl _) (.slice none 0 0)).setCell (p := ⟨w.heap.size, 6, none⟩) (Nat.le_refl _) (.slice none 0 0)).setCell (p := ⟨w.heap.size, 7, none⟩) (Nat.le_refl _) (.slice x2 m2 y2)).setCell (p := ⟨w.heap.size, 8, none⟩) (Nat.le_refl _) (.slice x3 m3 y3)).setCell (p := ⟨w.heap.size, 9, none⟩) (Nat.le_refl _) (.slice x4 m4 y4)).setCell (p := ⟨w.heap.size, 10, none⟩) (Nat.le_refl _) (.slice d1 e1 f1)).setCell (p := ⟨w.heap.size, 11, none⟩) (Nat.le_refl _) (.slice d2 e2 f2)).setCell (p := ⟨w.heap.size, 12, none⟩) (Nat.le_refl _) (.slice d3 e3 f3))
    have t0 := HRF.out.cell (i := 0) rfl
    have t1 := HRF.out.cell (i := 1) rfl
    have t2 := HRF.out.cell (i := 2) rfl
    have t3 := HRF.out.cell (i := 3) rfl
    have t4 := HRF.out.cell (i := 4) rfl
    have t5 := HRF.out.cell (i := 5) rfl
    have t6 := HRF.out.cell (i := 6) rfl
    have t7 := HRF.out.cell (i := 7) rfl
    have t8 := HRF.out.cell (i := 8) rfl
    have t9 := HRF.out.cell (i := 9) rfl
    have t10 := HRF.out.cell (i := 10) rfl
    have t11 := HRF.out.cell (i := 11) rfl
    have t12 := HRF.out.cell (i := 12) rfl
    try (go_wp2_with fail)
    have hwF : Within w.heap.size (w.heap.size + 1) Y (((((((((((((Y.setCell ⟨w.heap.size, 0, none⟩ (.int .i64 vo)).setCell ⟨w.heap.size, 1, none⟩ (.slice ca cn cc)).setCell ⟨w.heap.size, 2, none⟩ (.slice none 0 0)).setCell ⟨w.heap.size, 3, none⟩ (.slice none 0 0)).setCell ⟨w.heap.size, 4, none⟩ (.slice none 0 0)).setCell ⟨w.heap.size, 5, none⟩ (.slice none 0 0)).setCell ⟨w.heap.size, 6, none⟩ (.slice none 0 0)).setCell ⟨w.heap.size, 7, none⟩ (.slice x2 m2 y2)).setCell ⟨w.heap.size, 8, none⟩ (.slice x3 m3 y3)).setCell ⟨w.heap.size, 9, none⟩ (.slice x4 m4 y4)).setCell ⟨w.heap.size, 10, none⟩ (.slice d1 e1 f1)).setCell ⟨w.heap.size, 11, none⟩ (.slice d2 e2 f2)).setCell ⟨w.heap.size, 12, none⟩ (.slice d3 e3 f3)) := ((((((((((((((Within.refl w.heap.size (w.heap.size + 1) Y).setCell (Nat.le_refl _) (by omega) 0 (.int .i64 vo)).setCell (Nat.le_refl _) (by omega) 1 (.slice ca cn cc)).setCell (Nat.le_refl _) (by omega) 2 (.slice none 0 0)).setCell (Nat.le_refl _) (by omega) 3 (.slice none 0 0)).setCell (Nat.le_refl _) (by omega) 4 (.slice none 0 0)).setCell (Nat.le_refl _) (by omega) 5 (.slice none 0 0)).setCell (Nat.le_refl _) (by omega) 6 (.slice none 0 0)).setCell (Nat.le_refl _) (by omega) 7 (.slice x2 m2 y2)).setCell (Nat.le_refl _) (by omega) 8 (.slice x3 m3 y3)).setCell (Nat.le_refl _) (by omega) 9 (.slice x4 m4 y4)).setCell (Nat.le_refl _) (by omega) 10 (.slice d1 e1 f1)).setCell (Nat.le_refl _) (by omega) 11 (.slice d2 e2 f2)).setCell (Nat.le_refl _) (by omega) 12 (.slice d3 e3 f3))
    refine bodyPost_ret (v := .tuple #[.agg #[.int .i64 vo, .slice ca cn cc, .slice none 0 0, .slice none 0 0, .slice none 0 0, .slice none 0 0, .slice none 0 0, .slice x2 m2 y2, .slice x3 m3 y3, .slice x4 m4 y4, .slice d1 e1 f1, .slice d2 e2 f2, .slice d3 e3 f3], .bool true]) (by simp [results, Try.results33, go_sem, t0, t1, t2, t3, t4, t5, t6, t7, t8, t9, t10, t11, t12]) rfl ⟨_, by rw [HBQ.out], ?_, HBF.out⟩
    rw [HV.out]
    have h9 := Kind.kept (K := kStageG) HSGF.out hwF (.inr (by omega))
    exact kStageG.own_mono h9 (by omega) (by simp only [size_setC]; omega)
theorem st_cn (l : List Int) : cnStage (stD l) ≤ 16000 := by
  have h1 := cnStage_le (stD l)
  have h2 : szStage (stD l) ≤ 4000 := by
    unfold stD; split
    · exact st_sz l
    · simp [szStage, szCipherS, szMatrixProof, szPolyProof, szProof, zeroM, zeroO, zeroP]
  omega
set_option maxRecDepth 100000 in
set_option maxHeartbeats 4000000 in
theorem spec_StageOfRecord (v : Value) (l : List Int) (w : World) (hl : l.length ≤ 1048576) (h : Ints w v l) :
    Calls Try.prog 13 #[v] w fun e w' => ∃ v', e = .returned (.tuple #[v', .bool (stB l)]) ∧ kStageG.own w' w.heap.size w'.heap.size v' (stD l) ∧ Below w.heap.size w w' := by
  obtain ⟨aa, nn, cc, rfl⟩ := h.shape
  have H := Lib.hid h; clear h
  obtain ⟨W, hW⟩ : ∃ W, W = w.alloc (.cells #[.int .i64 0, .slice none 0 0, .slice none 0 0, .slice none 0 0, .slice none 0 0, .slice none 0 0, .slice none 0 0, .slice none 0 0, .slice none 0 0, .slice none 0 0, .slice none 0 0, .slice none 0 0, .slice none 0 0] 42) := ⟨_, rfl⟩
  have HB : Hid (Below w.heap.size w W) := by unfold Hid; rw [hW]; (repeat (first | exact Below.refl _ _ | assumption | refine Below.drew ?_ | refine Below.alloc ?_ (by first | (simp; done) | (simp; omega)) _ | refine Below.setCell ?_ (by first | (simp; done) | (simp; omega)) _))
  have HR : Hid (BoxN W w.heap.size 42 [.int .i64 0, .slice none 0 0, .slice none 0 0, .slice none 0 0, .slice none 0 0, .slice none 0 0, .slice none 0 0, .slice none 0 0, .slice none 0 0, .slice none 0 0, .slice none 0 0, .slice none 0 0, .slice none 0 0]) := by unfold Hid; rw [hW]; exact BoxN.new w [.int .i64 0, .slice none 0 0, .slice none 0 0, .slice none 0 0, .slice none 0 0, .slice none 0 0, .slice none 0 0, .slice none 0 0, .slice none 0 0, .slice none 0 0, .slice none 0 0, .slice none 0 0, .slice none 0 0] _
  have hsW : w.heap.size < W.heap.size := by rw [hW]; simp
  go_enter Try.func13, Try.ntmps13
  go_wp2_with fail
  rw [← hW]
  clear hW
  refine (spec_xOfRecord _ l _ hl (H.out.below HB.out)).mono ?_
  rintro e w1 ⟨v1, rfl, hP, hb1⟩
  have hs1 := hb1.size
  have HBX := Lib.hid (HB.out.trans (hb1.mono HB.out.size))
  have HRX := Lib.hid (HR.out.below hb1)
  clear hb1 HR
  obtain ⟨v1, a1, a2, us, b1, b2, b3, qs, L, G, rfl, i1, o0, o1, o2, o3, o4, o5, o6, o7, q, D⟩ := id hP
  obtain ⟨e0, n0, c0, rfl⟩ := (kR 75 rCipher).sl ((kR 75 rCipher).own_rd o0)
  obtain ⟨e1, n1, c1, rfl⟩ := sInts.sl (sInts.own_rd o1)
  obtain ⟨e2, n2, c2, rfl⟩ := sInts.sl (sInts.own_rd o2)
  obtain ⟨e3, n3, c3, e4, n4, c4, e5, n5, c5, rfl⟩ := row3t o3
  obtain ⟨e6, n6, c6, rfl⟩ := sInts.sl (sInts.own_rd o4)
  obtain ⟨e7, n7, c7, rfl⟩ := sInts.sl (sInts.own_rd o5)
  obtain ⟨e8, n8, c8, rfl⟩ := sInts.sl (sInts.own_rd o6)
  obtain ⟨e9, n9, c9, e10, n10, c10, e11, n11, c11, rfl⟩ := row3t o7
  clear i1 o0 o1 o2 o3 o4 o5 o6 o7 q D
  have HP : Hid (kStageG.own w1 W.heap.size w1.heap.size (.agg #[.int .i64 (stD l).argument, .slice e0 n0 c0, .slice e1 n1 c1, .slice e2 n2 c2, .slice e3 n3 c3, .slice e4 n4 c4, .slice e5 n5 c5, .slice e6 n6 c6, .slice e7 n7 c7, .slice e8 n8 c8, .slice e9 n9 c9, .slice e10 n10 c10, .slice e11 n11 c11]) (stD l)) := hP
  clear hP
  obtain ⟨vo, hvo⟩ : ∃ z, (stD l).argument = z := ⟨_, rfl⟩
  rw [hvo] at HP ⊢
  clear hvo
  have r0 := HRX.out.cell (i := 0) rfl
  have r1 := HRX.out.cell (i := 1) rfl
  have r2 := HRX.out.cell (i := 2) rfl
  have r3 := HRX.out.cell (i := 3) rfl
  have r4 := HRX.out.cell (i := 4) rfl
  have r5 := HRX.out.cell (i := 5) rfl
  have r6 := HRX.out.cell (i := 6) rfl
  have r7 := HRX.out.cell (i := 7) rfl
  have r8 := HRX.out.cell (i := 8) rfl
  have r9 := HRX.out.cell (i := 9) rfl
  have r10 := HRX.out.cell (i := 10) rfl
  have r11 := HRX.out.cell (i := 11) rfl
  have r12 := HRX.out.cell (i := 12) rfl
  have fr := fun j => HRX.out.frozen j
  go_wp2_with fail
  have HRF := Lib.hid (((((((((((((HRX.out.set 0 (.int .i64 vo)).set 1 (.slice e0 n0 c0)).set 2 (.slice e1 n1 c1)).set 3 (.slice e2 n2 c2)).set 4 (.slice e3 n3 c3)).set 5 (.slice e4 n4 c4)).set 6 (.slice e5 n5 c5)).set 7 (.slice e6 n6 c6)).set 8 (.slice e7 n7 c7)).set 9 (.slice e8 n8 c8)).set 10 (.slice e9 n9 c9)).set 11 (.slice e10 n10 c10)).set 12 (.slice e11 n11 c11))
  have HBF := Lib.hid (((((((((((((HBX.out.setCell (p := ⟨w.heap.size, 0, none⟩) (Nat.le_refl _) (.int .i64 vo)).setCell (p := ⟨w.heap.size, 1, none⟩) (Nat.le_refl _) (.slice e0 n0 c0)).setCell (p := ⟨w.heap.size, 2, none⟩) (Nat.le_refl _) (.slice e1 n1 c1)).setCell (p := ⟨w.heap.size, 3, none⟩) (Nat.le_refl _) (.slice e2 n2 c2)).setCell (p := ⟨w.heap.size, 4, none⟩) (Nat.le_refl _) (.slice e3 n3 c3)).setCell (p := ⟨w.heap.size, 5, none⟩) (Nat.le_refl _) (.slice e4 n4 c4)).setCell (p := ⟨w.heap.size, 6, none⟩) (Nat.le_refl _) (.slice e5 n5 c5)).setCell (p := ⟨w.heap.size, 7, none⟩) (Nat.le_refl _) (.slice e6 n6 c6)).setCell (p := ⟨w.heap.size, 8, none⟩) (Nat.le_refl _) (.slice e7 n7 c7)).setCell (p := ⟨w.heap.size, 9, none⟩) (Nat.le_refl _) (.slice e8 n8 c8)).setCell (p := ⟨w.heap.size, 10, none⟩) (Nat.le_refl _) (.slice e9 n9 c9)).setCell (p := ⟨w.heap.size, 11, none⟩) (Nat.le_refl _) (.slice e10 n10 c10)).setCell (p := ⟨w.heap.size, 12, none⟩) (Nat.le_refl _) (.slice e11 n11 c11))
  clear r0 r1 r2 r3 r4 r5 r6 r7 r8 r9 r10 r11 r12 fr
  have t0 := HRF.out.cell (i := 0) rfl
  have t1 := HRF.out.cell (i := 1) rfl
  have t2 := HRF.out.cell (i := 2) rfl
  have t3 := HRF.out.cell (i := 3) rfl
  have t4 := HRF.out.cell (i := 4) rfl
  have t5 := HRF.out.cell (i := 5) rfl
  have t6 := HRF.out.cell (i := 6) rfl
  have t7 := HRF.out.cell (i := 7) rfl
  have t8 := HRF.out.cell (i := 8) rfl
  have t9 := HRF.out.cell (i := 9) rfl
  have t10 := HRF.out.cell (i := 10) rfl
  have t11 := HRF.out.cell (i := 11) rfl
  have t12 := HRF.out.cell (i := 12) rfl
  try (go_wp2_with fail)
  have hwF : Within w.heap.size (w.heap.size + 1) w1 (((((((((((((w1.setCell ⟨w.heap.size, 0, none⟩ (.int .i64 vo)).setCell ⟨w.heap.size, 1, none⟩ (.slice e0 n0 c0)).setCell ⟨w.heap.size, 2, none⟩ (.slice e1 n1 c1)).setCell ⟨w.heap.size, 3, none⟩ (.slice e2 n2 c2)).setCell ⟨w.heap.size, 4, none⟩ (.slice e3 n3 c3)).setCell ⟨w.heap.size, 5, none⟩ (.slice e4 n4 c4)).setCell ⟨w.heap.size, 6, none⟩ (.slice e5 n5 c5)).setCell ⟨w.heap.size, 7, none⟩ (.slice e6 n6 c6)).setCell ⟨w.heap.size, 8, none⟩ (.slice e7 n7 c7)).setCell ⟨w.heap.size, 9, none⟩ (.slice e8 n8 c8)).setCell ⟨w.heap.size, 10, none⟩ (.slice e9 n9 c9)).setCell ⟨w.heap.size, 11, none⟩ (.slice e10 n10 c10)).setCell ⟨w.heap.size, 12, none⟩ (.slice e11 n11 c11)) := ((((((((((((((Within.refl w.heap.size (w.heap.size + 1) w1).setCell (Nat.le_refl _) (by omega) 0 (.int .i64 vo)).setCell (Nat.le_refl _) (by omega) 1 (.slice e0 n0 c0)).setCell (Nat.le_refl _) (by omega) 2 (.slice e1 n1 c1)).setCell (Nat.le_refl _) (by omega) 3 (.slice e2 n2 c2)).setCell (Nat.le_refl _) (by omega) 4 (.slice e3 n3 c3)).setCell (Nat.le_refl _) (by omega) 5 (.slice e4 n4 c4)).setCell (Nat.le_refl _) (by omega) 6 (.slice e5 n5 c5)).setCell (Nat.le_refl _) (by omega) 7 (.slice e6 n6 c6)).setCell (Nat.le_refl _) (by omega) 8 (.slice e7 n7 c7)).setCell (Nat.le_refl _) (by omega) 9 (.slice e8 n8 c8)).setCell (Nat.le_refl _) (by omega) 10 (.slice e9 n9 c9)).setCell (Nat.le_refl _) (by omega) 11 (.slice e10 n10 c10)).setCell (Nat.le_refl _) (by omega) 12 (.slice e11 n11 c11))
  refine bodyPost_ret (v := .tuple #[.agg #[.int .i64 vo, .slice e0 n0 c0, .slice e1 n1 c1, .slice e2 n2 c2, .slice e3 n3 c3, .slice e4 n4 c4, .slice e5 n5 c5, .slice e6 n6 c6, .slice e7 n7 c7, .slice e8 n8 c8, .slice e9 n9 c9, .slice e10 n10 c10, .slice e11 n11 c11], .bool (stB l)]) (by simp [results, Try.results13, go_sem, t0, t1, t2, t3, t4, t5, t6, t7, t8, t9, t10, t11, t12]) rfl ⟨_, rfl, ?_, HBF.out⟩
  have h9 := Kind.kept (K := kStageG) HP.out hwF (.inr (by omega))
  exact kStageG.own_mono h9 (by omega) (by simp only [size_setC]; exact Nat.le_refl _)
end Go.Proofs.Ytbcaknmpbkapnaa

/- Answerable challenges: the reference's (printed by gen_sim2b.py). -/
import Derived.Test.YtacpnphfopmofaaSim2SM
import Derived.Test.YtacpnphfopmofaaPow2SM
import Derived.Test.YtacpnphfopmofaaDrG5SM
import Derived.Test.YtacpnphfopmofaaSim1SM
import Derived.Test.YtacpnphfopmofaaPow1SM
import Derived.Test.YtacpnphfopmofaaBmSM
namespace Go.Proofs.Ytacpnphfopmofaa
open Go.RowKit
set_option linter.unusedSimpArgs false
set_option linter.unusedVariables false

theorem acR_upto (gr : GroupD) (e : EqualLogD) (a b : Int) (c m : Nat) : acR gr e a b c m ≤ m := by
  induction m with
  | zero => exact Nat.le_refl _
  | succ m ih2 => unfold acR; split <;> omega
set_option maxRecDepth 100000 in
set_option maxHeartbeats 4000000 in
theorem spec_AnswerableChallenges (gr : GroupD) (d : EqualLogD) (a b : Int) (w : World) (he : (I64 d.g1 ∧ I64 d.y1) ∧ (I64 d.g2 ∧ I64 d.y2)) (ha : I64 a) (hb : I64 b) :
    Calls Try.prog 12 #[.agg #[.int .i64 gr.p, .int .i64 gr.q, .int .i64 gr.g], .agg #[.int .i64 d.g1, .int .i64 d.y1, .int .i64 d.g2, .int .i64 d.y2], .int .i64 a, .int .i64 b] w fun e w' => e = .returned (.tuple #[.int .i64 (ansR gr d a b), .bool (ansB gr d a b)]) ∧ Below w.heap.size w w' := by
  have HE := Lib.hid he
  have HA := Lib.hid ha
  have HBB := Lib.hid hb
  clear he ha hb
  obtain ⟨DB, hDB⟩ : ∃ z, z = w.heap.size + 1 := ⟨_, rfl⟩
  obtain ⟨W, hW⟩ : ∃ W, W = (w.alloc (.cells #[.int .i64 gr.p, .int .i64 gr.q, .int .i64 gr.g] 24)).alloc (.cells #[.int .i64 d.g1, .int .i64 d.y1, .int .i64 d.g2, .int .i64 d.y2] 31) := ⟨_, rfl⟩
  have HB : Hid (Below w.heap.size w W) := by unfold Hid; rw [hW]; (repeat (first | exact Below.refl _ _ | assumption | refine Below.drew ?_ | refine Below.alloc ?_ (by first | (simp; done) | (simp; omega)) _ | refine Below.setCell ?_ (by first | (simp; done) | (simp; omega)) _))
  have HGB : Hid (BoxN W w.heap.size 24 [.int .i64 gr.p, .int .i64 gr.q, .int .i64 gr.g]) := by unfold Hid; rw [hW]; exact (BoxN.new w [.int .i64 gr.p, .int .i64 gr.q, .int .i64 gr.g] _).alloc _
  have HDB : Hid (BoxN W DB 31 [.int .i64 d.g1, .int .i64 d.y1, .int .i64 d.g2, .int .i64 d.y2]) := by
    unfold Hid; rw [hW, hDB]
    have h9 := BoxN.new (w.alloc (.cells #[.int .i64 gr.p, .int .i64 gr.q, .int .i64 gr.g] 24)) [.int .i64 d.g1, .int .i64 d.y1, .int .i64 d.g2, .int .i64 d.y2] 31
    rw [show (w.alloc (.cells #[.int .i64 gr.p, .int .i64 gr.q, .int .i64 gr.g] 24)).heap.size = w.heap.size + 1 by simp] at h9
    exact h9
  have hsW : DB < W.heap.size := by rw [hW, hDB]; simp
  have hrb1 : w.heap.size < DB := by omega
  go_enter Try.func12, Try.ntmps12
  go_wp2_with fail
  rw [← hW]
  (try rw [← hDB])
  clear hW hDB
  have g0 := HGB.out.cell (i := 0) rfl
  have g1 := HGB.out.cell (i := 1) rfl
  have g2 := HGB.out.cell (i := 2) rfl
  try (go_wp2_with fail)
  clear g0 g1 g2
  refine (spec_l2Good gr W).mono ?_
  rintro e w1 ⟨rfl, hb1⟩
  have hs1 := hb1.size
  have HB1 := Lib.hid (HB.out.trans (hb1.mono HB.out.size))
  have HG1 := Lib.hid (HGB.out.below hb1)
  have HD1 := Lib.hid (HDB.out.below hb1)
  clear hb1 HGB HDB
  obtain ⟨q, hq⟩ : ∃ q, goodG gr = q := ⟨_, rfl⟩
  rw [hq]
  have HQ0 := Lib.hid hq
  clear hq
  cases q with
  | false =>
    have HN : Hid (ansB gr d a b = false) := by unfold Hid ansB cntB; rw [HQ0.out, Bool.and_false]; rfl
    have HR : Hid (ansR gr d a b = 0) := by unfold Hid ansR; rw [HN.out]; rfl
    go_wp2_with fail
    go_ret2
    exact ⟨by rw [HN.out, HR.out]; rfl, HB1.out⟩
  | true =>
  by_cases hq23 : gr.q ≤ 23
  rotate_left
  · have HN : Hid (ansB gr d a b = false) := by unfold Hid ansB cntB; rw [decide_eq_false hq23]; rfl
    have HR : Hid (ansR gr d a b = 0) := by unfold Hid ansR; rw [HN.out]; rfl
    have b23 : decide ((23 : Int) < gr.q) = true := decide_eq_true (by omega)
    have g1 := HG1.out.cell (i := 1) rfl
    go_wp2_with fail
    go_ret2
    exact ⟨by rw [HN.out, HR.out]; rfl, HB1.out⟩
  have b23 : decide ((23 : Int) < gr.q) = false := decide_eq_false (by omega)
  have HQ : Hid (cntB gr = true) := by unfold Hid cntB; rw [HQ0.out, decide_eq_true hq23]; rfl
  have HCN := Lib.hid (cntB_parts HQ.out)
  have HG : Hid (OkG gr) := HCN.out.2
  have g0 := HG1.out.cell (i := 0) rfl
  have g1 := HG1.out.cell (i := 1) rfl
  have g2 := HG1.out.cell (i := 2) rfl
  have e0 := HD1.out.cell (i := 0) rfl
  have e1 := HD1.out.cell (i := 1) rfl
  have e2 := HD1.out.cell (i := 2) rfl
  have e3 := HD1.out.cell (i := 3) rfl
  go_wp2_with fail
  clear g0 g1 g2 e0 e1 e2 e3
  clear b23 hq23
  refine (spec_sElements gr d w1 HG.out HE.out).mono ?_
  rintro e w2 ⟨rfl, hb2⟩
  have hs2 := hb2.size
  have HB2 := Lib.hid (HB1.out.trans (hb2.mono HB1.out.size))
  have HG2 := Lib.hid (HG1.out.below hb2)
  have HD2 := Lib.hid (HD1.out.below hb2)
  clear hb2 HG1 HD1
  obtain ⟨q, hq⟩ : ∃ q, eqEl gr d = q := ⟨_, rfl⟩
  rw [hq]
  have HQ2 := Lib.hid hq
  clear hq
  cases q with
  | false =>
    have HN : Hid (ansB gr d a b = false) := by unfold Hid ansB; rw [HQ.out, HQ2.out]; rfl
    have HR : Hid (ansR gr d a b = 0) := by unfold Hid ansR; rw [HN.out]; rfl
    go_wp2_with fail
    go_ret2
    exact ⟨by rw [HN.out, HR.out]; rfl, HB2.out⟩
  | true =>
  obtain ⟨w3, hw3⟩ : ∃ V, V = w2.alloc (.cells #[.int .i64 a, .int .i64 b] 3) := ⟨_, rfl⟩
  have hb3 : Below w2.heap.size w2 w3 := by rw [hw3]; exact (Below.refl _ _).alloc (Nat.le_refl _) _
  have HL3 : Hid (Ints w3 (.slice (some ⟨w2.heap.size, 0, none⟩) 2 2) [a, b]) := by
    unfold Hid; rw [hw3]
    exact (OwnI.lit (l := [a, b]) w2 (Nat.le_refl _) (by intro x hx; rcases List.mem_cons.1 hx with rfl | hx; exact HA.out; rw [List.mem_singleton.1 hx]; exact HBB.out) rfl (by simp [maxLen]) 2 rfl).ints
  have HG3 := Lib.hid (HG2.out.below hb3)
  have HD3 := Lib.hid (HD2.out.below hb3)
  have HB3 := Lib.hid (HB2.out.trans (hb3.mono HB2.out.size))
  have hs3 := hb3.size
  have g0 := HG2.out.cell (i := 0) rfl
  have g1 := HG2.out.cell (i := 1) rfl
  have g2 := HG2.out.cell (i := 2) rfl
  go_wp2_with fail
  rw [← hw3]
  clear hw3 hb3 g0 g1 g2 HG2 HD2
  refine (spec_gIs gr _ [a, b] w3 HG.out HL3.out).mono ?_
  rintro e w4 ⟨rfl, hb4⟩
  have hs4 := hb4.size
  have HB4 := Lib.hid (HB3.out.trans (hb4.mono HB3.out.size))
  have HG4 := Lib.hid (HG3.out.below hb4)
  have HD4 := Lib.hid (HD3.out.below hb4)
  clear hb4 HG3 HD3 HL3
  obtain ⟨q, hq⟩ : ∃ q, [a, b].all (elB gr) = q := ⟨_, rfl⟩
  rw [hq]
  have HQ3 := Lib.hid hq
  clear hq
  cases q with
  | false =>
    have HN : Hid (ansB gr d a b = false) := by unfold Hid ansB; rw [HQ.out, HQ2.out, HQ3.out]; rfl
    have HR : Hid (ansR gr d a b = 0) := by unfold Hid ansR; rw [HN.out]; rfl
    go_wp2_with fail
    go_ret2
    exact ⟨by rw [HN.out, HR.out]; rfl, HB4.out⟩
  | true =>
  have e0 := HD4.out.cell (i := 0) rfl
  have e2 := HD4.out.cell (i := 2) rfl
  by_cases h1 : d.g1 = 1
  · have HN : Hid (ansB gr d a b = false) := by unfold Hid ansB; rw [HQ.out, HQ2.out, HQ3.out, decide_eq_true h1]; rfl
    have HR : Hid (ansR gr d a b = 0) := by unfold Hid ansR; rw [HN.out]; rfl
    have t1 : (d.g1 == 1) = true := by rw [beq_iff_eq]; exact h1
    go_wp2_with fail
    go_ret2
    exact ⟨by rw [HN.out, HR.out]; rfl, HB4.out⟩
  have t1 : (d.g1 == 1) = false := by rw [beq_eq_false_iff_ne]; exact h1
  by_cases h2 : d.g2 = 1
  · have HN : Hid (ansB gr d a b = false) := by unfold Hid ansB; rw [HQ.out, HQ2.out, HQ3.out, decide_eq_true h2, Bool.not_true, Bool.and_false]; rfl
    have HR : Hid (ansR gr d a b = 0) := by unfold Hid ansR; rw [HN.out]; rfl
    have t2 : (d.g2 == 1) = true := by rw [beq_iff_eq]; exact h2
    go_wp2_with fail
    go_ret2
    exact ⟨by rw [HN.out, HR.out]; rfl, HB4.out⟩
  have t2 : (d.g2 == 1) = false := by rw [beq_eq_false_iff_ne]; exact h2
  have HN : Hid (ansB gr d a b = true) := by unfold Hid ansB; rw [HQ.out, HQ2.out, HQ3.out, decide_eq_false h1, decide_eq_false h2]; rfl
  obtain ⟨Q, hQ⟩ : ∃ Q : Nat, (Q : Int) = gr.q := ⟨gr.q.toNat, by have := HG.out.q1; omega⟩
  have HQQ := Lib.hid hQ
  have HR : Hid (ansR gr d a b = (acS gr d a b Q Q : Int)) := by unfold Hid ansR; rw [HN.out, if_pos rfl, ← HQQ.out]; simp
  have hQ23 : Q ≤ 23 := by have := HCN.out.1; omega
  have hQ2 : 2 ≤ Q := by have := HG.out.q1; omega
  have HP := Lib.hid (ansB_parts HN.out)
  clear hQ h1 h2
  go_wp2_with fail
  clear e0 e2 t1 t2
  go_loopg [10, 11] Q (fun gk cv iv wr => ∃ n : Nat, n + gk = Q ∧ iv = .int .i64 (n : Int) ∧ cv = .int .i64 (acS gr d a b Q n : Int) ∧ Hid (Below w4.heap.size w4 wr))
  case atStart => exact ⟨0, by omega, rfl, rfl, Below.refl _ _⟩
  case round =>
    obtain ⟨n, hng, rfl, rfl, HBr⟩ := hrel
    obtain ⟨wO, rfl⟩ : ∃ u, u = wr := ⟨_, rfl⟩
    obtain ⟨gO, rfl⟩ : ∃ u, u = gk := ⟨_, rfl⟩
    have HGr := Lib.hid (HG4.out.below HBr.out)
    have hsO := HBr.out.size
    have hle := acS_le gr d a b Q n
    have hleQ : n * Q ≤ 23 * 23 := Nat.mul_le_mul (by omega) hQ23
    by_cases hlt : n < Q
    · have b1 : decide ((n : Int) < gr.q) = true := decide_eq_true (by have := HQQ.out; omega)
      have hwn : IntKind.i64.wrap ((n : Int) + 1) = (n : Int) + 1 := IntWalk.i64_in _ (by omega)
      have hgO : Q - (n + 1) < gO := by omega
      have hgO2 : n + 1 + (Q - (n + 1)) = Q := by omega
      have HNS : Hid (Small (n : Int)) := ⟨by omega, by omega⟩
      obtain ⟨S, hS⟩ : ∃ z, acS gr d a b Q n = z := ⟨_, rfl⟩
      have HSE := Lib.hid hS
      rw [hS] at hle ⊢
      have hS2 : S ≤ 529 := by omega
      clear hS
      have g1 := HGr.out.cell (i := 1) rfl
      go_wp2_with fail
      clear g1
      go_loopg [10, 12] Q (fun gk cv iv wr => ∃ k : Nat, k + gk = Q ∧ iv = .int .i64 (k : Int) ∧ cv = .int .i64 ((S + acR gr d a b n k : Nat) : Int) ∧ Hid (Below wO.heap.size wO wr))
      case atStart => exact ⟨0, by omega, rfl, rfl, Below.refl _ _⟩
      case round =>
        obtain ⟨k, hkg, rfl, rfl, HBi⟩ := hrel
        have HBw4 := Lib.hid (HBr.out.trans (HBi.out.mono hsO))
        have HGi := Lib.hid (HGr.out.below HBi.out)
        have HDi := Lib.hid (HD4.out.below HBw4.out)
        have hsi := HBi.out.size
        have g1 := HGi.out.cell (i := 1) rfl
        by_cases hlk : k < Q
        · have b2 : decide ((k : Int) < gr.q) = true := decide_eq_true (by have := HQQ.out; omega)
          have hwk : IntKind.i64.wrap ((k : Int) + 1) = (k : Int) + 1 := IntWalk.i64_in _ (by omega)
          have HK6 : Hid (I64 (k : Int)) := ⟨by omega, by omega⟩
          have HN6 : Hid (I64 (n : Int)) := ⟨by omega, by omega⟩
          have hgk : Q - (k + 1) < gk := by omega
          have hgk2 : k + 1 + (Q - (k + 1)) = Q := by omega
          have hRk : acR gr d a b n k ≤ k := acR_upto gr d a b n k
          obtain ⟨R, hR⟩ : ∃ z, acR gr d a b n k = z := ⟨_, rfl⟩
          have HRV := Lib.hid hR
          rw [hR] at hRk ⊢
          clear hR
          have hwS : IntKind.i64.wrap (((S + R : Nat) : Int) + 1) = ((S + R : Nat) : Int) + 1 := IntWalk.i64_in _ (by omega)
          have hwS2 : IntKind.i64.wrap ((S : Int) + (R : Int) + 1) = (S : Int) + (R : Int) + 1 := IntWalk.i64_in _ (by omega)
          have HES := Lib.hid (eqEl_small HG.out HP.out.1.2)
          obtain ⟨q1, q2, q3, q4⟩ := eqEl_parts HP.out.1.2
          have HY1S := Lib.hid (elB_small HG.out (elT_pow HG.out q2 (n : Int)))
          have HY2S := Lib.hid (elB_small HG.out (elT_pow HG.out q4 (n : Int)))
          have HAS := Lib.hid (elB_small HG.out HP.out.2.1.1)
          have HBS := Lib.hid (elB_small HG.out HP.out.2.1.2)
          clear q1 q2 q3 q4
          obtain ⟨X1, hX1⟩ : ∃ z, powE gr d.g1 k = z := ⟨_, rfl⟩
          obtain ⟨X2, hX2⟩ : ∃ z, powE gr d.g2 k = z := ⟨_, rfl⟩
          obtain ⟨Y1, hY1⟩ : ∃ z, powE gr d.y1 n = z := ⟨_, rfl⟩
          obtain ⟨Y2, hY2⟩ : ∃ z, powE gr d.y2 n = z := ⟨_, rfl⟩
          rw [hY1] at HY1S
          rw [hY2] at HY2S
          obtain ⟨M1, hM1⟩ : ∃ z, mulL gr [a, Y1] = z := ⟨_, rfl⟩
          obtain ⟨M2, hM2⟩ : ∃ z, mulL gr [b, Y2] = z := ⟨_, rfl⟩
          have HX1 := Lib.hid hX1
          have HX2 := Lib.hid hX2
          have HY1 := Lib.hid hY1
          have HY2 := Lib.hid hY2
          have HM1 := Lib.hid hM1
          have HM2 := Lib.hid hM2
          clear hX1 hX2 hY1 hY2 hM1 hM2
          have HY16 := Lib.hid (small_64 HY1S.out)
          have HY26 := Lib.hid (small_64 HY2S.out)
          have HAL1 : Hid (AllSmall [a, Y1]) := AllSmall.cons HAS.out (AllSmall.cons HY1S.out (fun x hx => by cases hx))
          have HAL2 : Hid (AllSmall [b, Y2]) := AllSmall.cons HBS.out (AllSmall.cons HY2S.out (fun x hx => by cases hx))
          go_upto_region 10 with fail
          have g0 := HGi.out.cell (i := 0) rfl
          have g2 := HGi.out.cell (i := 2) rfl
          have e0 := HDi.out.cell (i := 0) rfl
          have e1 := HDi.out.cell (i := 1) rfl
          have e2 := HDi.out.cell (i := 2) rfl
          have e3 := HDi.out.cell (i := 3) rfl
          cases p1 : X1 == M1 with
          | false =>
            refine wp_region_noPanic ?_
            refine wp_region_P (fun w' => w'.cell? ⟨w.heap.size, 0, none⟩ = some (.int .i64 gr.p) ∧ w'.cell? ⟨w.heap.size, 1, none⟩ = some (.int .i64 gr.q) ∧ w'.cell? ⟨w.heap.size, 2, none⟩ = some (.int .i64 gr.g) ∧ w'.cell? ⟨DB, 0, none⟩ = some (.int .i64 d.g1) ∧ w'.cell? ⟨DB, 1, none⟩ = some (.int .i64 d.y1) ∧ w'.cell? ⟨DB, 2, none⟩ = some (.int .i64 d.g2) ∧ w'.cell? ⟨DB, 3, none⟩ = some (.int .i64 d.y2)) 34 [(0, []), (1, []), (2, [0]), (3, []), (4, [3, 1, 0]), (5, []), (6, []), (7, []), (8, []), (9, [0]), (10, []), (11, [3, 1, 0]), (12, [5, 0]), (13, [7, 0]), (14, [9, 0]), (15, [0]), (16, [0]), (17, [1]), (18, [0, 2]), (19, [3]), (20, [3, 1, 0, 4]), (21, [5]), (22, [6]), (23, [7]), (24, [8]), (25, [0, 9]), (26, [10]), (27, [3, 1, 0, 11]), (28, [5, 0, 12]), (29, [7, 0, 13]), (30, [9, 0, 14]), (31, [15, 0])] [] (by kernel_rfl) (by kernel_rfl) (by kernel_rfl) rfl (fun _ _ _ _ h => h) (fun w' h => ⟨box_at g0 h, box_at g1 h, box_at g2 h, box_at e0 h, box_at e1 h, box_at e2 h, box_at e3 h⟩) ?_
            simp only [pickP, pickN, List.getElem?_cons_zero, List.getElem?_cons_succ]
            iterate 4 (refine' chainP_read _ rfl rfl (fun w' hS' => ?_) ?_; rotate_left; · (simp only [lookP, allP, Act.put, List.getElem?_cons_zero, List.getElem?_cons_succ, List.setIfInBounds_toArray, List.set_cons_zero, List.set_cons_succ]; (try dsimp only at hS'); go_simp; (try with_reducible rfl)))
            -- 4: call { callee := value (func 57), args := #[t57, t59, t60], argTypes := #[24, 3, 3] }
            refine chainP_call (d := (some 61)) (.int .i64 X1) rfl rfl (fun w' hS' => ?_) ?_
            · simp only [lookP, allP, Act.put, List.getElem?_cons_zero, List.getElem?_cons_succ, List.setIfInBounds_toArray, List.set_cons_zero, List.set_cons_succ]
              intro K hK
              go_simp
              go_at_call 57
              refine (spec_gExp gr d.g1 k _ HG.out HES.out.1 HK6.out).mono ?_
              rintro e u ⟨rfl, hq⟩
              rw [HX1.out]
              exact hK.out _ hq
            iterate 6 (refine' chainP_read _ rfl rfl (fun w' hS' => ?_) ?_; rotate_left; · (simp only [lookP, allP, Act.put, List.getElem?_cons_zero, List.getElem?_cons_succ, List.setIfInBounds_toArray, List.set_cons_zero, List.set_cons_succ]; (try dsimp only at hS'); go_simp; (try with_reducible rfl)))
            -- 11: call { callee := value (func 57), args := #[t64, t66, t67], argTypes := #[24, 3, 3] }
            refine chainP_call (d := (some 68)) (.int .i64 Y1) rfl rfl (fun w' hS' => ?_) ?_
            · simp only [lookP, allP, Act.put, List.getElem?_cons_zero, List.getElem?_cons_succ, List.setIfInBounds_toArray, List.set_cons_zero, List.set_cons_succ]
              intro K hK
              go_simp
              go_at_call 57
              refine (spec_gExp gr d.y1 n _ HG.out HES.out.2.1 HN6.out).mono ?_
              rintro e u ⟨rfl, hq⟩
              rw [HY1.out]
              exact hK.out _ hq
            -- 12: buildSlice 42 2 #[(0, t63), (1, t68)]
            refine chainP_do (d := (some 69)) (fun v w => Ints w v [a, Y1]) (fun v w w' hb h => Ints.below h hb) rfl rfl (fun w' hS' => ?_) ?_
            · simp only [lookP, allP, Act.put, List.getElem?_cons_zero, List.getElem?_cons_succ, List.setIfInBounds_toArray, List.set_cons_zero, List.set_cons_succ]
              intro K hK
              go_simp
              refine hK.out _ _ ((Below.refl _ _).alloc (Nat.le_refl _) _) ?_
              exact Ints.lit2 w' HA.out HY16.out
            -- 13: call { callee := value (func 66), args := #[t62, t69], argTypes := #[24, 42] }
            refine chainP_call (d := (some 70)) (.int .i64 M1) rfl rfl (fun w' hS' => ?_) ?_
            · simp only [lookP, allP, Act.put, List.getElem?_cons_zero, List.getElem?_cons_succ, List.setIfInBounds_toArray, List.set_cons_zero, List.set_cons_succ]
              intro x12 hx12
              intro K hK
              go_simp
              go_at_call 66
              refine (spec_gMul gr _ [a, Y1] _ HG.out hx12 HAL1.out).mono ?_
              rintro e u ⟨rfl, hq⟩
              rw [HM1.out]
              exact hK.out _ hq
            iterate 2 (refine' chainP_read _ rfl rfl (fun w' hS' => ?_) ?_; rotate_left; · (simp only [lookP, allP, Act.put, List.getElem?_cons_zero, List.getElem?_cons_succ, List.setIfInBounds_toArray, List.set_cons_zero, List.set_cons_succ]; (try dsimp only at hS'); go_simp; (try with_reducible rfl)))
            -- 16: load 24 t4
            refine chainP_skip (d := (some 73)) rfl (fun w' hS' => ?_) ?_
            · simp only [lookP, allP, Act.put, List.getElem?_cons_zero, List.getElem?_cons_succ, List.setIfInBounds_toArray, List.set_cons_zero, List.set_cons_succ]
              kernel_rfl
            -- 17: fieldAddr 31 t5 2
            refine chainP_skip (d := (some 74)) rfl (fun w' hS' => ?_) ?_
            · simp only [lookP, allP, Act.put, List.getElem?_cons_zero, List.getElem?_cons_succ, List.setIfInBounds_toArray, List.set_cons_zero, List.set_cons_succ]
              kernel_rfl
            -- 18: load 3 t74
            refine chainP_skip (d := (some 75)) rfl (fun w' hS' => ?_) ?_
            · simp only [lookP, allP, Act.put, List.getElem?_cons_zero, List.getElem?_cons_succ, List.setIfInBounds_toArray, List.set_cons_zero, List.set_cons_succ]
              kernel_rfl
            -- 19: move t12
            refine chainP_skip (d := (some 76)) rfl (fun w' hS' => ?_) ?_
            · simp only [lookP, allP, Act.put, List.getElem?_cons_zero, List.getElem?_cons_succ, List.setIfInBounds_toArray, List.set_cons_zero, List.set_cons_succ]
              kernel_rfl
            -- 20: call { callee := value (func 57), args := #[t73, t75, t76], argTypes := #[24, 3, 3] }
            refine chainP_skip (d := (some 77)) rfl (fun w' hS' => ?_) ?_
            · simp only [lookP, allP, Act.put, List.getElem?_cons_zero, List.getElem?_cons_succ, List.setIfInBounds_toArray, List.set_cons_zero, List.set_cons_succ]
              kernel_rfl
            -- 21: load 24 t4
            refine chainP_skip (d := (some 78)) rfl (fun w' hS' => ?_) ?_
            · simp only [lookP, allP, Act.put, List.getElem?_cons_zero, List.getElem?_cons_succ, List.setIfInBounds_toArray, List.set_cons_zero, List.set_cons_succ]
              kernel_rfl
            -- 22: move t3
            refine chainP_skip (d := (some 79)) rfl (fun w' hS' => ?_) ?_
            · simp only [lookP, allP, Act.put, List.getElem?_cons_zero, List.getElem?_cons_succ, List.setIfInBounds_toArray, List.set_cons_zero, List.set_cons_succ]
              kernel_rfl
            -- 23: load 24 t4
            refine chainP_skip (d := (some 80)) rfl (fun w' hS' => ?_) ?_
            · simp only [lookP, allP, Act.put, List.getElem?_cons_zero, List.getElem?_cons_succ, List.setIfInBounds_toArray, List.set_cons_zero, List.set_cons_succ]
              kernel_rfl
            -- 24: fieldAddr 31 t5 3
            refine chainP_skip (d := (some 81)) rfl (fun w' hS' => ?_) ?_
            · simp only [lookP, allP, Act.put, List.getElem?_cons_zero, List.getElem?_cons_succ, List.setIfInBounds_toArray, List.set_cons_zero, List.set_cons_succ]
              kernel_rfl
            -- 25: load 3 t81
            refine chainP_skip (d := (some 82)) rfl (fun w' hS' => ?_) ?_
            · simp only [lookP, allP, Act.put, List.getElem?_cons_zero, List.getElem?_cons_succ, List.setIfInBounds_toArray, List.set_cons_zero, List.set_cons_succ]
              kernel_rfl
            -- 26: move t11
            refine chainP_skip (d := (some 83)) rfl (fun w' hS' => ?_) ?_
            · simp only [lookP, allP, Act.put, List.getElem?_cons_zero, List.getElem?_cons_succ, List.setIfInBounds_toArray, List.set_cons_zero, List.set_cons_succ]
              kernel_rfl
            -- 27: call { callee := value (func 57), args := #[t80, t82, t83], argTypes := #[24, 3, 3] }
            refine chainP_skip (d := (some 84)) rfl (fun w' hS' => ?_) ?_
            · simp only [lookP, allP, Act.put, List.getElem?_cons_zero, List.getElem?_cons_succ, List.setIfInBounds_toArray, List.set_cons_zero, List.set_cons_succ]
              kernel_rfl
            -- 28: buildSlice 42 2 #[(0, t79), (1, t84)]
            refine chainP_skip (d := (some 85)) rfl (fun w' hS' => ?_) ?_
            · simp only [lookP, allP, Act.put, List.getElem?_cons_zero, List.getElem?_cons_succ, List.setIfInBounds_toArray, List.set_cons_zero, List.set_cons_succ]
              kernel_rfl
            -- 29: call { callee := value (func 66), args := #[t78, t85], argTypes := #[24, 42] }
            refine chainP_skip (d := (some 86)) rfl (fun w' hS' => ?_) ?_
            · simp only [lookP, allP, Act.put, List.getElem?_cons_zero, List.getElem?_cons_succ, List.setIfInBounds_toArray, List.set_cons_zero, List.set_cons_succ]
              kernel_rfl
            -- 30: binOp Bineql 3 t77 t86 3
            refine chainP_skip (d := (some 87)) rfl (fun w' hS' => ?_) ?_
            · simp only [lookP, allP, Act.put, List.getElem?_cons_zero, List.getElem?_cons_succ, List.setIfInBounds_toArray, List.set_cons_zero, List.set_cons_succ]
              kernel_rfl
            -- 31: pick t72 t87 (const (bool false))
            refine' chainP_read (d := (some 88)) _ rfl rfl (fun w' hS' => ?_) ?_; rotate_left
            · simp only [lookP, allP, Act.put, List.getElem?_cons_zero, List.getElem?_cons_succ, List.setIfInBounds_toArray, List.set_cons_zero, List.set_cons_succ]
              (try dsimp only at hS')
              go_simp
              (try with_reducible rfl)
            refine chainP_nil (fun w5 hS' => ?_)
            simp only [allP, Act.put, List.setIfInBounds_toArray, List.set_cons_zero, List.set_cons_succ]
            intro x12 hx12
            have hb5 := hS'.1
            clear hS' g0 g1 g2 e0 e1 e2 e3
            have hs5 := hb5.size
            have HB5 := Lib.hid (HBi.out.trans (hb5.mono hsi))
            clear hb5
            have HPF : Hid (acP gr d a b n k = false) := by unfold Hid acP; rw [HX1.out, HY1.out, HM1.out, p1]; rfl
            have HRN : Hid (acR gr d a b n (k + 1) = acR gr d a b n k) := by
              unfold Hid
              show acR gr d a b n k + (if acP gr d a b n k = true then 1 else 0) = _
              rw [HPF.out]; rfl
            go_wp2_with fail
            refine NoPanic.normal ?_
            (try (go_wp2_with fail))
            go_roundg (Q - (k + 1))
            case measure => exact hgk
            case rel => exact ⟨k + 1, hgk2, by go_num, by rw [HRN.out, HRV.out], HB5.out⟩
          | true =>
            cases p2 : X2 == M2 with
            | false =>
              refine wp_region_noPanic ?_
              refine wp_region_P (fun w' => w'.cell? ⟨w.heap.size, 0, none⟩ = some (.int .i64 gr.p) ∧ w'.cell? ⟨w.heap.size, 1, none⟩ = some (.int .i64 gr.q) ∧ w'.cell? ⟨w.heap.size, 2, none⟩ = some (.int .i64 gr.g) ∧ w'.cell? ⟨DB, 0, none⟩ = some (.int .i64 d.g1) ∧ w'.cell? ⟨DB, 1, none⟩ = some (.int .i64 d.y1) ∧ w'.cell? ⟨DB, 2, none⟩ = some (.int .i64 d.g2) ∧ w'.cell? ⟨DB, 3, none⟩ = some (.int .i64 d.y2)) 34 [(0, []), (1, []), (2, [0]), (3, []), (4, [3, 1, 0]), (5, []), (6, []), (7, []), (8, []), (9, [0]), (10, []), (11, [3, 1, 0]), (12, [5, 0]), (13, [7, 0]), (14, [9, 0]), (15, [0]), (16, [0]), (17, [1]), (18, [0, 2]), (19, [3]), (20, [3, 1, 0, 4]), (21, [5]), (22, [6]), (23, [7]), (24, [8]), (25, [0, 9]), (26, [10]), (27, [3, 1, 0, 11]), (28, [5, 0, 12]), (29, [7, 0, 13]), (30, [9, 0, 14]), (31, [15, 0])] [] (by kernel_rfl) (by kernel_rfl) (by kernel_rfl) rfl (fun _ _ _ _ h => h) (fun w' h => ⟨box_at g0 h, box_at g1 h, box_at g2 h, box_at e0 h, box_at e1 h, box_at e2 h, box_at e3 h⟩) ?_
              simp only [pickP, pickN, List.getElem?_cons_zero, List.getElem?_cons_succ]
              iterate 4 (refine' chainP_read _ rfl rfl (fun w' hS' => ?_) ?_; rotate_left; · (simp only [lookP, allP, Act.put, List.getElem?_cons_zero, List.getElem?_cons_succ, List.setIfInBounds_toArray, List.set_cons_zero, List.set_cons_succ]; (try dsimp only at hS'); go_simp; (try with_reducible rfl)))
              -- 4: call { callee := value (func 57), args := #[t57, t59, t60], argTypes := #[24, 3, 3] }
              refine chainP_call (d := (some 61)) (.int .i64 X1) rfl rfl (fun w' hS' => ?_) ?_
              · simp only [lookP, allP, Act.put, List.getElem?_cons_zero, List.getElem?_cons_succ, List.setIfInBounds_toArray, List.set_cons_zero, List.set_cons_succ]
                intro K hK
                go_simp
                go_at_call 57
                refine (spec_gExp gr d.g1 k _ HG.out HES.out.1 HK6.out).mono ?_
                rintro e u ⟨rfl, hq⟩
                rw [HX1.out]
                exact hK.out _ hq
              iterate 6 (refine' chainP_read _ rfl rfl (fun w' hS' => ?_) ?_; rotate_left; · (simp only [lookP, allP, Act.put, List.getElem?_cons_zero, List.getElem?_cons_succ, List.setIfInBounds_toArray, List.set_cons_zero, List.set_cons_succ]; (try dsimp only at hS'); go_simp; (try with_reducible rfl)))
              -- 11: call { callee := value (func 57), args := #[t64, t66, t67], argTypes := #[24, 3, 3] }
              refine chainP_call (d := (some 68)) (.int .i64 Y1) rfl rfl (fun w' hS' => ?_) ?_
              · simp only [lookP, allP, Act.put, List.getElem?_cons_zero, List.getElem?_cons_succ, List.setIfInBounds_toArray, List.set_cons_zero, List.set_cons_succ]
                intro K hK
                go_simp
                go_at_call 57
                refine (spec_gExp gr d.y1 n _ HG.out HES.out.2.1 HN6.out).mono ?_
                rintro e u ⟨rfl, hq⟩
                rw [HY1.out]
                exact hK.out _ hq
              -- 12: buildSlice 42 2 #[(0, t63), (1, t68)]
              refine chainP_do (d := (some 69)) (fun v w => Ints w v [a, Y1]) (fun v w w' hb h => Ints.below h hb) rfl rfl (fun w' hS' => ?_) ?_
              · simp only [lookP, allP, Act.put, List.getElem?_cons_zero, List.getElem?_cons_succ, List.setIfInBounds_toArray, List.set_cons_zero, List.set_cons_succ]
                intro K hK
                go_simp
                refine hK.out _ _ ((Below.refl _ _).alloc (Nat.le_refl _) _) ?_
                exact Ints.lit2 w' HA.out HY16.out
              -- 13: call { callee := value (func 66), args := #[t62, t69], argTypes := #[24, 42] }
              refine chainP_call (d := (some 70)) (.int .i64 M1) rfl rfl (fun w' hS' => ?_) ?_
              · simp only [lookP, allP, Act.put, List.getElem?_cons_zero, List.getElem?_cons_succ, List.setIfInBounds_toArray, List.set_cons_zero, List.set_cons_succ]
                intro x12 hx12
                intro K hK
                go_simp
                go_at_call 66
                refine (spec_gMul gr _ [a, Y1] _ HG.out hx12 HAL1.out).mono ?_
                rintro e u ⟨rfl, hq⟩
                rw [HM1.out]
                exact hK.out _ hq
              iterate 2 (refine' chainP_read _ rfl rfl (fun w' hS' => ?_) ?_; rotate_left; · (simp only [lookP, allP, Act.put, List.getElem?_cons_zero, List.getElem?_cons_succ, List.setIfInBounds_toArray, List.set_cons_zero, List.set_cons_succ]; (try dsimp only at hS'); go_simp; (try with_reducible rfl)))
              -- 16: load 24 t4
              refine' chainP_readG (d := (some 73)) _ rfl (fun w' hS' => ?_) ?_; rotate_left
              · simp only [lookP, allP, Act.put, List.getElem?_cons_zero, List.getElem?_cons_succ, List.setIfInBounds_toArray, List.set_cons_zero, List.set_cons_succ]
                refine ⟨by kernel_rfl, ?_⟩
                (try dsimp only at hS')
                go_simp
                (try with_reducible rfl)
              -- 17: fieldAddr 31 t5 2
              refine' chainP_readG (d := (some 74)) _ rfl (fun w' hS' => ?_) ?_; rotate_left
              · simp only [lookP, allP, Act.put, List.getElem?_cons_zero, List.getElem?_cons_succ, List.setIfInBounds_toArray, List.set_cons_zero, List.set_cons_succ]
                refine ⟨by kernel_rfl, ?_⟩
                (try dsimp only at hS')
                go_simp
                (try with_reducible rfl)
              -- 18: load 3 t74
              refine' chainP_readG (d := (some 75)) _ rfl (fun w' hS' => ?_) ?_; rotate_left
              · simp only [lookP, allP, Act.put, List.getElem?_cons_zero, List.getElem?_cons_succ, List.setIfInBounds_toArray, List.set_cons_zero, List.set_cons_succ]
                refine ⟨by kernel_rfl, ?_⟩
                (try dsimp only at hS')
                go_simp
                (try with_reducible rfl)
              -- 19: move t12
              refine' chainP_readG (d := (some 76)) _ rfl (fun w' hS' => ?_) ?_; rotate_left
              · simp only [lookP, allP, Act.put, List.getElem?_cons_zero, List.getElem?_cons_succ, List.setIfInBounds_toArray, List.set_cons_zero, List.set_cons_succ]
                refine ⟨by kernel_rfl, ?_⟩
                (try dsimp only at hS')
                go_simp
                (try with_reducible rfl)
              -- 20: call { callee := value (func 57), args := #[t73, t75, t76], argTypes := #[24, 3, 3] }
              refine chainP_callG (d := (some 77)) (.int .i64 X2) rfl (fun w' hS' => ?_) ?_
              · simp only [lookP, allP, Act.put, List.getElem?_cons_zero, List.getElem?_cons_succ, List.setIfInBounds_toArray, List.set_cons_zero, List.set_cons_succ]
                refine ⟨by kernel_rfl, ?_⟩
                intro K hK
                go_simp
                go_at_call 57
                refine (spec_gExp gr d.g2 k _ HG.out HES.out.2.2.1 HK6.out).mono ?_
                rintro e u ⟨rfl, hq⟩
                rw [HX2.out]
                exact hK.out _ hq
              -- 21: load 24 t4
              refine' chainP_readG (d := (some 78)) _ rfl (fun w' hS' => ?_) ?_; rotate_left
              · simp only [lookP, allP, Act.put, List.getElem?_cons_zero, List.getElem?_cons_succ, List.setIfInBounds_toArray, List.set_cons_zero, List.set_cons_succ]
                refine ⟨by kernel_rfl, ?_⟩
                (try dsimp only at hS')
                go_simp
                (try with_reducible rfl)
              -- 22: move t3
              refine' chainP_readG (d := (some 79)) _ rfl (fun w' hS' => ?_) ?_; rotate_left
              · simp only [lookP, allP, Act.put, List.getElem?_cons_zero, List.getElem?_cons_succ, List.setIfInBounds_toArray, List.set_cons_zero, List.set_cons_succ]
                refine ⟨by kernel_rfl, ?_⟩
                (try dsimp only at hS')
                go_simp
                (try with_reducible rfl)
              -- 23: load 24 t4
              refine' chainP_readG (d := (some 80)) _ rfl (fun w' hS' => ?_) ?_; rotate_left
              · simp only [lookP, allP, Act.put, List.getElem?_cons_zero, List.getElem?_cons_succ, List.setIfInBounds_toArray, List.set_cons_zero, List.set_cons_succ]
                refine ⟨by kernel_rfl, ?_⟩
                (try dsimp only at hS')
                go_simp
                (try with_reducible rfl)
              -- 24: fieldAddr 31 t5 3
              refine' chainP_readG (d := (some 81)) _ rfl (fun w' hS' => ?_) ?_; rotate_left
              · simp only [lookP, allP, Act.put, List.getElem?_cons_zero, List.getElem?_cons_succ, List.setIfInBounds_toArray, List.set_cons_zero, List.set_cons_succ]
                refine ⟨by kernel_rfl, ?_⟩
                (try dsimp only at hS')
                go_simp
                (try with_reducible rfl)
              -- 25: load 3 t81
              refine' chainP_readG (d := (some 82)) _ rfl (fun w' hS' => ?_) ?_; rotate_left
              · simp only [lookP, allP, Act.put, List.getElem?_cons_zero, List.getElem?_cons_succ, List.setIfInBounds_toArray, List.set_cons_zero, List.set_cons_succ]
                refine ⟨by kernel_rfl, ?_⟩
                (try dsimp only at hS')
                go_simp
                (try with_reducible rfl)
              -- 26: move t11
              refine' chainP_readG (d := (some 83)) _ rfl (fun w' hS' => ?_) ?_; rotate_left
              · simp only [lookP, allP, Act.put, List.getElem?_cons_zero, List.getElem?_cons_succ, List.setIfInBounds_toArray, List.set_cons_zero, List.set_cons_succ]
                refine ⟨by kernel_rfl, ?_⟩
                (try dsimp only at hS')
                go_simp
                (try with_reducible rfl)
              -- 27: call { callee := value (func 57), args := #[t80, t82, t83], argTypes := #[24, 3, 3] }
              refine chainP_callG (d := (some 84)) (.int .i64 Y2) rfl (fun w' hS' => ?_) ?_
              · simp only [lookP, allP, Act.put, List.getElem?_cons_zero, List.getElem?_cons_succ, List.setIfInBounds_toArray, List.set_cons_zero, List.set_cons_succ]
                refine ⟨by kernel_rfl, ?_⟩
                intro K hK
                go_simp
                go_at_call 57
                refine (spec_gExp gr d.y2 n _ HG.out HES.out.2.2.2 HN6.out).mono ?_
                rintro e u ⟨rfl, hq⟩
                rw [HY2.out]
                exact hK.out _ hq
              -- 28: buildSlice 42 2 #[(0, t79), (1, t84)]
              refine chainP_doG (d := (some 85)) (fun v w => Ints w v [b, Y2]) (fun v w w' hb h => Ints.below h hb) rfl (fun w' hS' => ?_) ?_
              · simp only [lookP, allP, Act.put, List.getElem?_cons_zero, List.getElem?_cons_succ, List.setIfInBounds_toArray, List.set_cons_zero, List.set_cons_succ]
                refine ⟨by kernel_rfl, ?_⟩
                intro K hK
                go_simp
                refine hK.out _ _ ((Below.refl _ _).alloc (Nat.le_refl _) _) ?_
                exact Ints.lit2 w' HBB.out HY26.out
              -- 29: call { callee := value (func 66), args := #[t78, t85], argTypes := #[24, 42] }
              refine chainP_callG (d := (some 86)) (.int .i64 M2) rfl (fun w' hS' => ?_) ?_
              · simp only [lookP, allP, Act.put, List.getElem?_cons_zero, List.getElem?_cons_succ, List.setIfInBounds_toArray, List.set_cons_zero, List.set_cons_succ]
                intro x28 hx28
                refine ⟨by kernel_rfl, ?_⟩
                intro K hK
                go_simp
                go_at_call 66
                refine (spec_gMul gr _ [b, Y2] _ HG.out hx28 HAL2.out).mono ?_
                rintro e u ⟨rfl, hq⟩
                rw [HM2.out]
                exact hK.out _ hq
              -- 30: binOp Bineql 3 t77 t86 3
              refine' chainP_readG (d := (some 87)) _ rfl (fun w' hS' => ?_) ?_; rotate_left
              · simp only [lookP, allP, Act.put, List.getElem?_cons_zero, List.getElem?_cons_succ, List.setIfInBounds_toArray, List.set_cons_zero, List.set_cons_succ]
                refine ⟨by kernel_rfl, ?_⟩
                (try dsimp only at hS')
                go_simp
                (try with_reducible rfl)
              -- 31: pick t72 t87 (const (bool false))
              refine' chainP_read (d := (some 88)) _ rfl rfl (fun w' hS' => ?_) ?_; rotate_left
              · simp only [lookP, allP, Act.put, List.getElem?_cons_zero, List.getElem?_cons_succ, List.setIfInBounds_toArray, List.set_cons_zero, List.set_cons_succ]
                (try dsimp only at hS')
                go_simp
                (try with_reducible rfl)
              refine chainP_nil (fun w5 hS' => ?_)
              simp only [allP, Act.put, List.setIfInBounds_toArray, List.set_cons_zero, List.set_cons_succ]
              intro x28 hx28
              intro x12 hx12
              have hb5 := hS'.1
              clear hS' g0 g1 g2 e0 e1 e2 e3
              have hs5 := hb5.size
              have HB5 := Lib.hid (HBi.out.trans (hb5.mono hsi))
              clear hb5
              have HPF : Hid (acP gr d a b n k = false) := by unfold Hid acP; rw [HX1.out, HY1.out, HM1.out, HX2.out, HY2.out, HM2.out, p1, p2]; rfl
              have HRN : Hid (acR gr d a b n (k + 1) = acR gr d a b n k) := by
                unfold Hid
                show acR gr d a b n k + (if acP gr d a b n k = true then 1 else 0) = _
                rw [HPF.out]; rfl
              go_wp2_with fail
              refine NoPanic.normal ?_
              (try (go_wp2_with fail))
              go_roundg (Q - (k + 1))
              case measure => exact hgk
              case rel => exact ⟨k + 1, hgk2, by go_num, by rw [HRN.out, HRV.out], HB5.out⟩
            | true =>
              refine wp_region_noPanic ?_
              refine wp_region_P (fun w' => w'.cell? ⟨w.heap.size, 0, none⟩ = some (.int .i64 gr.p) ∧ w'.cell? ⟨w.heap.size, 1, none⟩ = some (.int .i64 gr.q) ∧ w'.cell? ⟨w.heap.size, 2, none⟩ = some (.int .i64 gr.g) ∧ w'.cell? ⟨DB, 0, none⟩ = some (.int .i64 d.g1) ∧ w'.cell? ⟨DB, 1, none⟩ = some (.int .i64 d.y1) ∧ w'.cell? ⟨DB, 2, none⟩ = some (.int .i64 d.g2) ∧ w'.cell? ⟨DB, 3, none⟩ = some (.int .i64 d.y2)) 34 [(0, []), (1, []), (2, [0]), (3, []), (4, [3, 1, 0]), (5, []), (6, []), (7, []), (8, []), (9, [0]), (10, []), (11, [3, 1, 0]), (12, [5, 0]), (13, [7, 0]), (14, [9, 0]), (15, [0]), (16, [0]), (17, [1]), (18, [0, 2]), (19, [3]), (20, [3, 1, 0, 4]), (21, [5]), (22, [6]), (23, [7]), (24, [8]), (25, [0, 9]), (26, [10]), (27, [3, 1, 0, 11]), (28, [5, 0, 12]), (29, [7, 0, 13]), (30, [9, 0, 14]), (31, [15, 0])] [] (by kernel_rfl) (by kernel_rfl) (by kernel_rfl) rfl (fun _ _ _ _ h => h) (fun w' h => ⟨box_at g0 h, box_at g1 h, box_at g2 h, box_at e0 h, box_at e1 h, box_at e2 h, box_at e3 h⟩) ?_
              simp only [pickP, pickN, List.getElem?_cons_zero, List.getElem?_cons_succ]
              iterate 4 (refine' chainP_read _ rfl rfl (fun w' hS' => ?_) ?_; rotate_left; · (simp only [lookP, allP, Act.put, List.getElem?_cons_zero, List.getElem?_cons_succ, List.setIfInBounds_toArray, List.set_cons_zero, List.set_cons_succ]; (try dsimp only at hS'); go_simp; (try with_reducible rfl)))
              -- 4: call { callee := value (func 57), args := #[t57, t59, t60], argTypes := #[24, 3, 3] }
              refine chainP_call (d := (some 61)) (.int .i64 X1) rfl rfl (fun w' hS' => ?_) ?_
              · simp only [lookP, allP, Act.put, List.getElem?_cons_zero, List.getElem?_cons_succ, List.setIfInBounds_toArray, List.set_cons_zero, List.set_cons_succ]
                intro K hK
                go_simp
                go_at_call 57
                refine (spec_gExp gr d.g1 k _ HG.out HES.out.1 HK6.out).mono ?_
                rintro e u ⟨rfl, hq⟩
                rw [HX1.out]
                exact hK.out _ hq
              iterate 6 (refine' chainP_read _ rfl rfl (fun w' hS' => ?_) ?_; rotate_left; · (simp only [lookP, allP, Act.put, List.getElem?_cons_zero, List.getElem?_cons_succ, List.setIfInBounds_toArray, List.set_cons_zero, List.set_cons_succ]; (try dsimp only at hS'); go_simp; (try with_reducible rfl)))
              -- 11: call { callee := value (func 57), args := #[t64, t66, t67], argTypes := #[24, 3, 3] }
              refine chainP_call (d := (some 68)) (.int .i64 Y1) rfl rfl (fun w' hS' => ?_) ?_
              · simp only [lookP, allP, Act.put, List.getElem?_cons_zero, List.getElem?_cons_succ, List.setIfInBounds_toArray, List.set_cons_zero, List.set_cons_succ]
                intro K hK
                go_simp
                go_at_call 57
                refine (spec_gExp gr d.y1 n _ HG.out HES.out.2.1 HN6.out).mono ?_
                rintro e u ⟨rfl, hq⟩
                rw [HY1.out]
                exact hK.out _ hq
              -- 12: buildSlice 42 2 #[(0, t63), (1, t68)]
              refine chainP_do (d := (some 69)) (fun v w => Ints w v [a, Y1]) (fun v w w' hb h => Ints.below h hb) rfl rfl (fun w' hS' => ?_) ?_
              · simp only [lookP, allP, Act.put, List.getElem?_cons_zero, List.getElem?_cons_succ, List.setIfInBounds_toArray, List.set_cons_zero, List.set_cons_succ]
                intro K hK
                go_simp
                refine hK.out _ _ ((Below.refl _ _).alloc (Nat.le_refl _) _) ?_
                exact Ints.lit2 w' HA.out HY16.out
              -- 13: call { callee := value (func 66), args := #[t62, t69], argTypes := #[24, 42] }
              refine chainP_call (d := (some 70)) (.int .i64 M1) rfl rfl (fun w' hS' => ?_) ?_
              · simp only [lookP, allP, Act.put, List.getElem?_cons_zero, List.getElem?_cons_succ, List.setIfInBounds_toArray, List.set_cons_zero, List.set_cons_succ]
                intro x12 hx12
                intro K hK
                go_simp
                go_at_call 66
                refine (spec_gMul gr _ [a, Y1] _ HG.out hx12 HAL1.out).mono ?_
                rintro e u ⟨rfl, hq⟩
                rw [HM1.out]
                exact hK.out _ hq
              iterate 2 (refine' chainP_read _ rfl rfl (fun w' hS' => ?_) ?_; rotate_left; · (simp only [lookP, allP, Act.put, List.getElem?_cons_zero, List.getElem?_cons_succ, List.setIfInBounds_toArray, List.set_cons_zero, List.set_cons_succ]; (try dsimp only at hS'); go_simp; (try with_reducible rfl)))
              -- 16: load 24 t4
              refine' chainP_readG (d := (some 73)) _ rfl (fun w' hS' => ?_) ?_; rotate_left
              · simp only [lookP, allP, Act.put, List.getElem?_cons_zero, List.getElem?_cons_succ, List.setIfInBounds_toArray, List.set_cons_zero, List.set_cons_succ]
                refine ⟨by kernel_rfl, ?_⟩
                (try dsimp only at hS')
                go_simp
                (try with_reducible rfl)
              -- 17: fieldAddr 31 t5 2
              refine' chainP_readG (d := (some 74)) _ rfl (fun w' hS' => ?_) ?_; rotate_left
              · simp only [lookP, allP, Act.put, List.getElem?_cons_zero, List.getElem?_cons_succ, List.setIfInBounds_toArray, List.set_cons_zero, List.set_cons_succ]
                refine ⟨by kernel_rfl, ?_⟩
                (try dsimp only at hS')
                go_simp
                (try with_reducible rfl)
              -- 18: load 3 t74
              refine' chainP_readG (d := (some 75)) _ rfl (fun w' hS' => ?_) ?_; rotate_left
              · simp only [lookP, allP, Act.put, List.getElem?_cons_zero, List.getElem?_cons_succ, List.setIfInBounds_toArray, List.set_cons_zero, List.set_cons_succ]
                refine ⟨by kernel_rfl, ?_⟩
                (try dsimp only at hS')
                go_simp
                (try with_reducible rfl)
              -- 19: move t12
              refine' chainP_readG (d := (some 76)) _ rfl (fun w' hS' => ?_) ?_; rotate_left
              · simp only [lookP, allP, Act.put, List.getElem?_cons_zero, List.getElem?_cons_succ, List.setIfInBounds_toArray, List.set_cons_zero, List.set_cons_succ]
                refine ⟨by kernel_rfl, ?_⟩
                (try dsimp only at hS')
                go_simp
                (try with_reducible rfl)
              -- 20: call { callee := value (func 57), args := #[t73, t75, t76], argTypes := #[24, 3, 3] }
              refine chainP_callG (d := (some 77)) (.int .i64 X2) rfl (fun w' hS' => ?_) ?_
              · simp only [lookP, allP, Act.put, List.getElem?_cons_zero, List.getElem?_cons_succ, List.setIfInBounds_toArray, List.set_cons_zero, List.set_cons_succ]
                refine ⟨by kernel_rfl, ?_⟩
                intro K hK
                go_simp
                go_at_call 57
                refine (spec_gExp gr d.g2 k _ HG.out HES.out.2.2.1 HK6.out).mono ?_
                rintro e u ⟨rfl, hq⟩
                rw [HX2.out]
                exact hK.out _ hq
              -- 21: load 24 t4
              refine' chainP_readG (d := (some 78)) _ rfl (fun w' hS' => ?_) ?_; rotate_left
              · simp only [lookP, allP, Act.put, List.getElem?_cons_zero, List.getElem?_cons_succ, List.setIfInBounds_toArray, List.set_cons_zero, List.set_cons_succ]
                refine ⟨by kernel_rfl, ?_⟩
                (try dsimp only at hS')
                go_simp
                (try with_reducible rfl)
              -- 22: move t3
              refine' chainP_readG (d := (some 79)) _ rfl (fun w' hS' => ?_) ?_; rotate_left
              · simp only [lookP, allP, Act.put, List.getElem?_cons_zero, List.getElem?_cons_succ, List.setIfInBounds_toArray, List.set_cons_zero, List.set_cons_succ]
                refine ⟨by kernel_rfl, ?_⟩
                (try dsimp only at hS')
                go_simp
                (try with_reducible rfl)
              -- 23: load 24 t4
              refine' chainP_readG (d := (some 80)) _ rfl (fun w' hS' => ?_) ?_; rotate_left
              · simp only [lookP, allP, Act.put, List.getElem?_cons_zero, List.getElem?_cons_succ, List.setIfInBounds_toArray, List.set_cons_zero, List.set_cons_succ]
                refine ⟨by kernel_rfl, ?_⟩
                (try dsimp only at hS')
                go_simp
                (try with_reducible rfl)
              -- 24: fieldAddr 31 t5 3
              refine' chainP_readG (d := (some 81)) _ rfl (fun w' hS' => ?_) ?_; rotate_left
              · simp only [lookP, allP, Act.put, List.getElem?_cons_zero, List.getElem?_cons_succ, List.setIfInBounds_toArray, List.set_cons_zero, List.set_cons_succ]
                refine ⟨by kernel_rfl, ?_⟩
                (try dsimp only at hS')
                go_simp
                (try with_reducible rfl)
              -- 25: load 3 t81
              refine' chainP_readG (d := (some 82)) _ rfl (fun w' hS' => ?_) ?_; rotate_left
              · simp only [lookP, allP, Act.put, List.getElem?_cons_zero, List.getElem?_cons_succ, List.setIfInBounds_toArray, List.set_cons_zero, List.set_cons_succ]
                refine ⟨by kernel_rfl, ?_⟩
                (try dsimp only at hS')
                go_simp
                (try with_reducible rfl)
              -- 26: move t11
              refine' chainP_readG (d := (some 83)) _ rfl (fun w' hS' => ?_) ?_; rotate_left
              · simp only [lookP, allP, Act.put, List.getElem?_cons_zero, List.getElem?_cons_succ, List.setIfInBounds_toArray, List.set_cons_zero, List.set_cons_succ]
                refine ⟨by kernel_rfl, ?_⟩
                (try dsimp only at hS')
                go_simp
                (try with_reducible rfl)
              -- 27: call { callee := value (func 57), args := #[t80, t82, t83], argTypes := #[24, 3, 3] }
              refine chainP_callG (d := (some 84)) (.int .i64 Y2) rfl (fun w' hS' => ?_) ?_
              · simp only [lookP, allP, Act.put, List.getElem?_cons_zero, List.getElem?_cons_succ, List.setIfInBounds_toArray, List.set_cons_zero, List.set_cons_succ]
                refine ⟨by kernel_rfl, ?_⟩
                intro K hK
                go_simp
                go_at_call 57
                refine (spec_gExp gr d.y2 n _ HG.out HES.out.2.2.2 HN6.out).mono ?_
                rintro e u ⟨rfl, hq⟩
                rw [HY2.out]
                exact hK.out _ hq
              -- 28: buildSlice 42 2 #[(0, t79), (1, t84)]
              refine chainP_doG (d := (some 85)) (fun v w => Ints w v [b, Y2]) (fun v w w' hb h => Ints.below h hb) rfl (fun w' hS' => ?_) ?_
              · simp only [lookP, allP, Act.put, List.getElem?_cons_zero, List.getElem?_cons_succ, List.setIfInBounds_toArray, List.set_cons_zero, List.set_cons_succ]
                refine ⟨by kernel_rfl, ?_⟩
                intro K hK
                go_simp
                refine hK.out _ _ ((Below.refl _ _).alloc (Nat.le_refl _) _) ?_
                exact Ints.lit2 w' HBB.out HY26.out
              -- 29: call { callee := value (func 66), args := #[t78, t85], argTypes := #[24, 42] }
              refine chainP_callG (d := (some 86)) (.int .i64 M2) rfl (fun w' hS' => ?_) ?_
              · simp only [lookP, allP, Act.put, List.getElem?_cons_zero, List.getElem?_cons_succ, List.setIfInBounds_toArray, List.set_cons_zero, List.set_cons_succ]
                intro x28 hx28
                refine ⟨by kernel_rfl, ?_⟩
                intro K hK
                go_simp
                go_at_call 66
                refine (spec_gMul gr _ [b, Y2] _ HG.out hx28 HAL2.out).mono ?_
                rintro e u ⟨rfl, hq⟩
                rw [HM2.out]
                exact hK.out _ hq
              -- 30: binOp Bineql 3 t77 t86 3
              refine' chainP_readG (d := (some 87)) _ rfl (fun w' hS' => ?_) ?_; rotate_left
              · simp only [lookP, allP, Act.put, List.getElem?_cons_zero, List.getElem?_cons_succ, List.setIfInBounds_toArray, List.set_cons_zero, List.set_cons_succ]
                refine ⟨by kernel_rfl, ?_⟩
                (try dsimp only at hS')
                go_simp
                (try with_reducible rfl)
              -- 31: pick t72 t87 (const (bool false))
              refine' chainP_read (d := (some 88)) _ rfl rfl (fun w' hS' => ?_) ?_; rotate_left
              · simp only [lookP, allP, Act.put, List.getElem?_cons_zero, List.getElem?_cons_succ, List.setIfInBounds_toArray, List.set_cons_zero, List.set_cons_succ]
                (try dsimp only at hS')
                go_simp
                (try with_reducible rfl)
              refine chainP_nil (fun w5 hS' => ?_)
              simp only [allP, Act.put, List.setIfInBounds_toArray, List.set_cons_zero, List.set_cons_succ]
              intro x28 hx28
              intro x12 hx12
              have hb5 := hS'.1
              clear hS' g0 g1 g2 e0 e1 e2 e3
              have hs5 := hb5.size
              have HB5 := Lib.hid (HBi.out.trans (hb5.mono hsi))
              clear hb5
              have HPT : Hid (acP gr d a b n k = true) := by unfold Hid acP; rw [HX1.out, HY1.out, HM1.out, HX2.out, HY2.out, HM2.out, p1, p2]; rfl
              have HRN : Hid (acR gr d a b n (k + 1) = R + 1) := by
                unfold Hid
                show acR gr d a b n k + (if acP gr d a b n k = true then 1 else 0) = _
                rw [HPT.out, HRV.out]; rfl
              go_wp2_with fail
              refine NoPanic.normal ?_
              (try (go_wp2_with fail))
              go_roundg (Q - (k + 1))
              case measure => exact hgk
              case rel => exact ⟨k + 1, hgk2, by go_num, by rw [HRN.out, ← Nat.add_assoc, Int.natCast_add (S + R)]; rfl, HB5.out⟩
        · obtain rfl : Q = k := by omega
          have b2 : decide ((Q : Int) < gr.q) = false := decide_eq_false (by have := HQQ.out; omega)
          have HSN : Hid (acS gr d a b Q (n + 1) = S + acR gr d a b n Q) := by
            unfold Hid
            show acS gr d a b Q n + acR gr d a b n Q = _
            rw [HSE.out]
          go_wp2_with fail
          go_roundg (Q - (n + 1))
          case measure => exact hgO
          case rel => exact ⟨n + 1, hgO2, by go_num, by rw [HSN.out], HBw4.out⟩
    · obtain rfl : Q = n := by omega
      have b1 : decide ((Q : Int) < gr.q) = false := decide_eq_false (by have := HQQ.out; omega)
      have g1 := HGr.out.cell (i := 1) rfl
      have HBF := Lib.hid (HB4.out.trans (HBr.out.mono HB4.out.size))
      go_wp2_with fail
      go_ret2
      exact ⟨by rw [HN.out, HR.out]; rfl, HBF.out⟩
end Go.Proofs.Ytacpnphfopmofaa
namespace Go.Proofs.Ytacpnphfopmofaa
open Go.RowKit
set_option linter.unusedSimpArgs false
set_option linter.unusedVariables false

/-- a slice of own rows since block B: the row of slices, and its slices -/
def RowS (w : World) (B : Nat) (v : Value) (ls : List (List Int)) : Prop :=
  ∃ vs : List Value, vs.length = ls.length ∧ w.ownsRow B 42 1 v ls.length vs ∧ ∀ i (h1 : i < vs.length) (h2 : i < ls.length), OwnI w B vs[i] ls[i]
theorem RowS.rd {w : World} {B : Nat} {v : Value} {ls : List (List Int)} (h : RowS w B v ls) : RdL kInts w v ls := by
  obtain ⟨vs, hl, hO, hel⟩ := h
  have hO' := hO
  obtain ⟨hl1, ⟨rfl, h0⟩ | ⟨g, c, cur, rfl, hb, hgc, hnc, hcm, hcs, htake⟩⟩ := hO
  · have : ls = [] := List.eq_nil_of_length_eq_zero h0
    subst this; exact RdL.nil _ w
  · refine ⟨some ⟨g, 0, none⟩, ls.length, c, rfl, rfl, hnc, hcm, .inr (.inr ⟨g, 0, rfl, fun i => vs.getD i undef, fun i hi => ?_⟩)⟩
    have h1 := World.ownsRow.cellAt hO' i (by omega)
    refine ⟨?_, ?_⟩
    · rw [Nat.zero_add, h1]; simp [show i < vs.length by omega]
    · have : kInts.rd w vs[i] ls[i] := (hel i (by omega) hi).ints
      simpa [List.getD, show i < vs.length by omega] using this
theorem RowS.sinceS {w w' : World} {B : Nat} {v : Value} {ls : List (List Int)} (h : RowS w B v ls) (hs : w.heap.size ≤ w'.heap.size) (hb : ∀ k, B ≤ k → k < w.heap.size → w'.heap[k]? = w.heap[k]?) : RowS w' B v ls := by
  obtain ⟨vs, hl, hO, hel⟩ := h
  exact ⟨vs, hl, ownsRow_frame hO fun g hg => hb g (hO.lt g hg).1 (hO.lt g hg).2, fun i h1 h2 => (hel i h1 h2).since hs hb⟩
theorem RowS.since {w : World} {B B' : Nat} {v : Value} {ls : List (List Int)} (h : RowS w B v ls) (hB : B' ≤ B) : Since B' w (fun u => RdL kInts u v ls) := fun u hs hb => (h.sinceS hs fun k hk hlt => hb k (by omega) hlt).rd
theorem RowS.within {w w' : World} {B g : Nat} {v : Value} {ls : List (List Int)} (h : RowS w B v ls) (hw : Within g (g + 1) w w') (hg : g < B) : RowS w' B v ls := h.sinceS hw.size fun k hk hlt => hw.block k hlt (.inr (by omega))
theorem RowS.below {w w' : World} {B : Nat} {v : Value} {ls : List (List Int)} (h : RowS w B v ls) (hb : Below w.heap.size w w') : RowS w' B v ls := h.sinceS hb.size fun k _ hlt => hb.block k hlt
theorem OwnI.apartL {w : World} {B : Nat} {x v : Value} {l : List Int} {n : Nat} {vs : List Value} (h : OwnI w B x l) (hO : w.ownsRow B 42 1 v n vs) : ∀ k, x.ownBlock = some k → ∀ q, v.ownBlock = some q → k ≠ q := by
  intro k hk q hq e
  subst e
  obtain ⟨h1, h2⟩ := h
  rcases h2.2 with ⟨rfl, _⟩ | ⟨g1, c1, cur1, rfl, _, hg1, r1⟩
  · cases hk
  · rcases hO.2 with ⟨rfl, _⟩ | ⟨g2, c2, cur2, rfl, _, hg2, r2⟩
    · cases hq
    · cases hk
      cases hq
      rw [hg1] at hg2
      have e := Option.some.inj hg2
      injection e with e1 e2
      exact absurd e2 (by decide)
theorem OwnI.keptL {w : World} {B b : Nat} {x v : Value} {l : List Int} {n : Nat} {vs : List Value} (h : OwnI w B x l) (hO : w.ownsRow B 42 1 v n vs) (hv : v.ownBlock = some b) (j : Nat) (y : Value) : OwnI (w.setCell ⟨b, j, none⟩ y) B x l :=
  h.kept (grownBy_setCell _ b j y) (by
    cases e : x.ownBlock with
    | none => exact .inl rfl
    | some k => exact .inr fun e2 => h.apartL hO k e b hv (Option.some.inj e2))
/-- the first slice of an own slice of slices; another in its place -/
theorem RowS.first {w : World} {B : Nat} {v : Value} {l : List Int} {ls : List (List Int)} (h : RowS w B v (l :: ls)) :
    ∃ b c v0, v = .slice (some ⟨b, 0, none⟩) (ls.length + 1) c ∧ B ≤ b ∧ b < w.heap.size ∧ w.cell? ⟨b, 0, none⟩ = some v0 ∧ (∀ j, w.frozen? ⟨b, j, none⟩ = false) ∧ OwnI w B v0 l ∧
      ∀ y l', (∀ u, Ints u v0 l → Ints u y l') → Since B (w.setCell ⟨b, 0, none⟩ y) (fun u => RdL kInts u v (l' :: ls)) := by
  obtain ⟨vs, hl, hO, hel⟩ := h
  have hO' := hO
  obtain ⟨hl1, ⟨rfl, h0⟩ | ⟨b, c, cur, rfl, hb, hgc, hnc, hcm, hcs, htake⟩⟩ := hO
  · simp at h0
  · cases vs with
    | nil => simp at hl
    | cons v0 vs =>
      have h1 := World.ownsRow.cellAt hO' 0 (by simp)
      have hlt := (hO'.lt b rfl).2
      refine ⟨b, c, v0, rfl, hb, hlt, by simpa using h1, fun j => World.ownsRow.frozenAt hO' j, hel 0 (by simp) (by simp), fun y l' hy => fun u hs hbk => ?_⟩
      have hst := (hO'.stored 0 y).1
      have hsz : (w.setCell ⟨b, 0, none⟩ y).heap.size = w.heap.size := size_setC
      have hO2 : u.ownsRow B 42 1 (.slice (some ⟨b, 0, none⟩) (l :: ls).length c) (l :: ls).length (y :: vs) := ownsRow_frame (by simpa using hst) fun g hg => by
        cases hg; exact hbk b hb (by rw [hsz]; exact hlt)
      refine ⟨some ⟨b, 0, none⟩, (l :: ls).length, c, rfl, by simp, hnc, hcm, .inr (.inr ⟨b, 0, rfl, fun i => (y :: vs).getD i undef, fun i hi => ?_⟩)⟩
      have hi' : i < (y :: vs).length := by simp at hi hl ⊢; omega
      have h2 := World.ownsRow.cellAt hO2 i (by simp at hi ⊢; omega)
      have keep : ∀ {x : Value} {d : List Int}, OwnI w B x d → Ints u x d := fun {x d} hx => ((hx.keptL hO' rfl 0 y).since hs hbk).ints
      refine ⟨?_, ?_⟩
      · rw [Nat.zero_add, h2]; simp only [List.getD, List.getElem?_eq_getElem hi', Option.getD_some]
      · cases i with
        | zero => exact hy u (keep (hel 0 (by simp) (by simp)))
        | succ i =>
          have hi2 : i < vs.length := by simp at hi'; exact hi'
          have : kInts.rd u vs[i] (ls[i]'(by simp at hi; exact hi)) := keep (hel (i + 1) (by simp; exact hi2) (by simp at hi ⊢; exact hi))
          simpa [List.getD, hi2] using this
end Go.Proofs.Ytacpnphfopmofaa
namespace Go.Proofs.Ytacpnphfopmofaa
open Go.RowKit
set_option linter.unusedSimpArgs false
set_option linter.unusedVariables false

/-- the element that a digest gives -/
def derX (gr : GroupD) (s : ByteArray) (k : Int) (c : Nat) : Int := powM (1 + hashOf (lab s ++ [gr.p, gr.q, gr.g, k, (c : Int)]) % (gr.p - 1)) ((gr.p - 1) / gr.q) gr.p
/-- the first of the first n that is not one, or nought -/
def derTo (gr : GroupD) (s : ByteArray) (k : Int) : Nat → Int
  | 0 => 0
  | n + 1 => if derTo gr s k n = 0 then (if derX gr s k n = 1 then 0 else derX gr s k n) else derTo gr s k n
/-- the derived element, or nought -/
def hD (gr : GroupD) (s : ByteArray) (k : Int) : Int := derTo gr s k 1000
end Go.Proofs.Ytacpnphfopmofaa
namespace Go.Proofs.Ytacpnphfopmofaa
open Go.RowKit
set_option linter.unusedSimpArgs false
set_option linter.unusedVariables false

/-- a contest is valid -/
def ctOk (k o l m p : Int) : Bool := decide (0 ≤ l ∧ l ≤ m ∧ ((k = 1 ∨ k = 3) ∧ 1 ≤ o ∧ o ≤ 8 ∧ m ≤ o ∧ p = 0 ∨ k = 2 ∧ 1 ≤ o ∧ o ≤ 8 ∧ 1 ≤ p ∧ p ≤ 5 ∧ m ≤ o * p ∨ k = 4 ∧ o = 0 ∧ m ≤ 5 ∧ p = 0))
theorem ctOk_bd {k o l m p : Int} (h : ctOk k o l m p = true) : 0 ≤ o ∧ o ≤ 8 ∧ 0 ≤ p ∧ p ≤ 5 ∧ 0 ≤ l ∧ l ≤ m ∧ m ≤ 40 := by
  unfold ctOk at h
  rw [decide_eq_true_iff] at h
  obtain ⟨h1, h2, h | ⟨h3, h4, h5, h6, h7, h8⟩ | h⟩ := h
  · omega
  · have := mul_bd (a := o) (b := p) (by omega) h5 (by omega) h7
    omega
  · omega
end Go.Proofs.Ytacpnphfopmofaa

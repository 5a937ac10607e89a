/- Statements of equal logarithms: walks (printed by gen_one1.py). -/
import Derived.Test.YtegomgnlhcbmfaaRegRW
import Derived.Test.YtegomgnlhcbmfaaKEqualLogW
import Derived.Deep.Cut
namespace Go.Proofs.Ytegomgnlhcbmfaa
open Go.RowKit
set_option linter.unusedSimpArgs false
set_option linter.unusedVariables false

theorem eqEl_small {gr : GroupD} (hg : OkG gr) {e : EqualLogD} (h : eqEl gr e = true) : Small e.g1 ∧ Small e.y1 ∧ Small e.g2 ∧ Small e.y2 := by
  obtain ⟨h1, h2, h3, h4⟩ := eqEl_parts h
  exact ⟨elB_small hg h1, elB_small hg h2, elB_small hg h3, elB_small hg h4⟩
theorem diff_pos {gr : GroupD} (hg : OkG gr) {c e : Int} (hc : expB gr c = true) (he : expB gr e = true) (hne : c ≠ e) : 0 < (c - e) % gr.q ∧ (c - e) % gr.q < gr.q := by
  have hq := hg.q1
  obtain ⟨c1, c2⟩ := expB_bd hc
  obtain ⟨e1, e2⟩ := expB_bd he
  refine ⟨?_, Int.emod_lt_of_pos _ (by omega)⟩
  have h0 := Int.emod_nonneg (c - e) (show gr.q ≠ 0 by omega)
  rcases Int.lt_or_eq_of_le h0 with h1 | h1
  · exact h1
  · exfalso
    obtain ⟨t, ht⟩ := Int.dvd_of_emod_eq_zero h1.symm
    have ht0 : t = 0 := by
      rcases Int.lt_trichotomy t 0 with q | q | q
      · have := Int.mul_le_mul_of_nonneg_left (show t ≤ -1 by omega) (show 0 ≤ gr.q by omega); omega
      · exact q
      · have := Int.mul_le_mul_of_nonneg_left (show 1 ≤ t by omega) (show 0 ≤ gr.q by omega); omega
    rw [ht0, Int.mul_zero] at ht
    omega
set_option maxRecDepth 100000 in
set_option maxHeartbeats 2000000 in
theorem impl_hasEqual (gr : GroupD) (d : EqualLogD) (w : World) (hg : OkG gr) (he : (I64 d.g1 ∧ I64 d.y1) ∧ (I64 d.g2 ∧ I64 d.y2)) :
    Calls Try.prog 86 #[.agg #[.int .i64 gr.p, .int .i64 gr.q, .int .i64 gr.g], .agg #[.int .i64 d.g1, .int .i64 d.y1, .int .i64 d.g2, .int .i64 d.y2]] w fun e w' => e = .returned (.bool (eqEl gr d)) ∧ Below w.heap.size w w' := by
  have HG := Lib.hid hg
  clear hg
  obtain ⟨⟨i1, i2⟩, ⟨i3, i4⟩⟩ := he
  obtain ⟨W, hW⟩ : ∃ W, W = (w.alloc (.cells #[.int .i64 gr.p, .int .i64 gr.q, .int .i64 gr.g] 24)).alloc (.cells #[.int .i64 d.g1, .int .i64 d.y1, .int .i64 d.g2, .int .i64 d.y2] 31) := ⟨_, rfl⟩
  have HB : Hid (Below w.heap.size w W) := by unfold Hid; rw [hW]; (repeat (first | exact Below.refl _ _ | assumption | refine Below.drew ?_ | refine Below.alloc ?_ (by first | (simp; done) | (simp; omega)) _ | refine Below.setCell ?_ (by first | (simp; done) | (simp; omega)) _))
  have c0_0 : W.cell? ⟨w.heap.size, 0, none⟩ = some (.int .i64 gr.p) := by rw [hW]; simp [go_sem]
  have c0_1 : W.cell? ⟨w.heap.size, 1, none⟩ = some (.int .i64 gr.q) := by rw [hW]; simp [go_sem]
  have c0_2 : W.cell? ⟨w.heap.size, 2, none⟩ = some (.int .i64 gr.g) := by rw [hW]; simp [go_sem]
  have c1_0 : W.cell? ⟨w.heap.size + 1, 0, none⟩ = some (.int .i64 d.g1) := by rw [hW]; simp [go_sem]
  have c1_1 : W.cell? ⟨w.heap.size + 1, 1, none⟩ = some (.int .i64 d.y1) := by rw [hW]; simp [go_sem]
  have c1_2 : W.cell? ⟨w.heap.size + 1, 2, none⟩ = some (.int .i64 d.g2) := by rw [hW]; simp [go_sem]
  have c1_3 : W.cell? ⟨w.heap.size + 1, 3, none⟩ = some (.int .i64 d.y2) := by rw [hW]; simp [go_sem]
  have HSW : Hid (W.heap.size = w.heap.size + 2) := by unfold Hid; rw [hW]; simp
  go_enter Try.func86, Try.ntmps86
  go_wp2_with fail
  rw [← hW]
  have hse : w.heap.size + 1 + 1 = W.heap.size := by have := HSW.out; omega
  (try rw [hse])
  clear hse
  clear hW
  have hc : Below W.heap.size W W := Below.refl _ _
  have HCC : Hid (∀ u, Below W.heap.size W u → u.cell? ⟨w.heap.size, 0, none⟩ = some (.int .i64 gr.p) ∧ u.cell? ⟨w.heap.size, 1, none⟩ = some (.int .i64 gr.q) ∧ u.cell? ⟨w.heap.size, 2, none⟩ = some (.int .i64 gr.g) ∧ u.cell? ⟨w.heap.size + 1, 0, none⟩ = some (.int .i64 d.g1) ∧ u.cell? ⟨w.heap.size + 1, 1, none⟩ = some (.int .i64 d.y1) ∧ u.cell? ⟨w.heap.size + 1, 2, none⟩ = some (.int .i64 d.g2) ∧ u.cell? ⟨w.heap.size + 1, 3, none⟩ = some (.int .i64 d.y2)) := fun u h => ⟨box_at c0_0 h, box_at c0_1 h, box_at c0_2 h, box_at c1_0 h, box_at c1_1 h, box_at c1_2 h, box_at c1_3 h⟩
  go_wp2_with fail
  refine (impl_hasAll gr _ [d.g1, d.y1, d.g2, d.y2] _ HG.out (OwnI.lit (B := 0) _ (Nat.zero_le _) (l := [d.g1, d.y1, d.g2, d.y2]) (AllI64.cons i1 (AllI64.cons i2 (AllI64.cons i3 (AllI64.cons i4 AllI64.nil)))) rfl (by simp [maxLen]) 4 rfl).ints).mono ?_
  rintro e u1 ⟨rfl, hq1⟩
  replace hq1 := Below.next (keep_al (Below.refl _ _) _) hq1
  replace hc := Below.next hc hq1
  clear hq1 c0_0 c0_1 c0_2 c1_0 c1_1 c1_2 c1_3
  obtain ⟨c0_0, c0_1, c0_2, c1_0, c1_1, c1_2, c1_3⟩ := HCC.out _ hc
  cases hc1 : [d.g1, d.y1, d.g2, d.y2].all (elB gr) with
  | false =>
    have Hhc1 := Lib.hid hc1
    clear hc1
    go_wp2_with fail
    have HV : Hid ((.bool (eqEl gr d) : Value) = .bool false) := by unfold Hid; have qhc1 := Hhc1.out; simp only [List.all_cons, List.all_nil, Bool.and_true] at qhc1; simp [eqEl, qhc1]
    go_ret
    exact ⟨congrArg Ending.returned HV.out.symm, HB.out.trans (hc.mono HB.out.size)⟩
  | true =>
    have Hhc1 := Lib.hid hc1
    clear hc1
    go_wp2_with fail
    have HV : Hid ((.bool (eqEl gr d) : Value) = .bool true) := by unfold Hid; have qhc1 := Hhc1.out; simp only [List.all_cons, List.all_nil, Bool.and_true] at qhc1; simp [eqEl, qhc1]
    go_ret
    exact ⟨congrArg Ending.returned HV.out.symm, HB.out.trans (hc.mono HB.out.size)⟩
set_option maxRecDepth 100000 in
set_option maxHeartbeats 2000000 in
theorem spec_sElements (gr : GroupD) (d : EqualLogD) (w : World) (hg : OkG gr) (he : (I64 d.g1 ∧ I64 d.y1) ∧ (I64 d.g2 ∧ I64 d.y2)) :
    Calls Try.prog 84 #[.agg #[.int .i64 gr.p, .int .i64 gr.q, .int .i64 gr.g], .agg #[.int .i64 d.g1, .int .i64 d.y1, .int .i64 d.g2, .int .i64 d.y2]] w fun e w' => e = .returned (.bool (eqEl gr d)) ∧ Below w.heap.size w w' := by
  have HG := Lib.hid hg
  clear hg
  obtain ⟨⟨i1, i2⟩, ⟨i3, i4⟩⟩ := he
  obtain ⟨W, hW⟩ : ∃ W, W = (w.alloc (.cells #[.int .i64 gr.p, .int .i64 gr.q, .int .i64 gr.g] 24)).alloc (.cells #[.int .i64 d.g1, .int .i64 d.y1, .int .i64 d.g2, .int .i64 d.y2] 31) := ⟨_, rfl⟩
  have HB : Hid (Below w.heap.size w W) := by unfold Hid; rw [hW]; (repeat (first | exact Below.refl _ _ | assumption | refine Below.drew ?_ | refine Below.alloc ?_ (by first | (simp; done) | (simp; omega)) _ | refine Below.setCell ?_ (by first | (simp; done) | (simp; omega)) _))
  have c0_0 : W.cell? ⟨w.heap.size, 0, none⟩ = some (.int .i64 gr.p) := by rw [hW]; simp [go_sem]
  have c0_1 : W.cell? ⟨w.heap.size, 1, none⟩ = some (.int .i64 gr.q) := by rw [hW]; simp [go_sem]
  have c0_2 : W.cell? ⟨w.heap.size, 2, none⟩ = some (.int .i64 gr.g) := by rw [hW]; simp [go_sem]
  have c1_0 : W.cell? ⟨w.heap.size + 1, 0, none⟩ = some (.int .i64 d.g1) := by rw [hW]; simp [go_sem]
  have c1_1 : W.cell? ⟨w.heap.size + 1, 1, none⟩ = some (.int .i64 d.y1) := by rw [hW]; simp [go_sem]
  have c1_2 : W.cell? ⟨w.heap.size + 1, 2, none⟩ = some (.int .i64 d.g2) := by rw [hW]; simp [go_sem]
  have c1_3 : W.cell? ⟨w.heap.size + 1, 3, none⟩ = some (.int .i64 d.y2) := by rw [hW]; simp [go_sem]
  have HSW : Hid (W.heap.size = w.heap.size + 2) := by unfold Hid; rw [hW]; simp
  go_enter Try.func84, Try.ntmps84
  go_wp2_with fail
  rw [← hW]
  have hse : w.heap.size + 1 + 1 = W.heap.size := by have := HSW.out; omega
  (try rw [hse])
  clear hse
  clear hW
  have hc : Below W.heap.size W W := Below.refl _ _
  have HCC : Hid (∀ u, Below W.heap.size W u → u.cell? ⟨w.heap.size, 0, none⟩ = some (.int .i64 gr.p) ∧ u.cell? ⟨w.heap.size, 1, none⟩ = some (.int .i64 gr.q) ∧ u.cell? ⟨w.heap.size, 2, none⟩ = some (.int .i64 gr.g) ∧ u.cell? ⟨w.heap.size + 1, 0, none⟩ = some (.int .i64 d.g1) ∧ u.cell? ⟨w.heap.size + 1, 1, none⟩ = some (.int .i64 d.y1) ∧ u.cell? ⟨w.heap.size + 1, 2, none⟩ = some (.int .i64 d.g2) ∧ u.cell? ⟨w.heap.size + 1, 3, none⟩ = some (.int .i64 d.y2)) := fun u h => ⟨box_at c0_0 h, box_at c0_1 h, box_at c0_2 h, box_at c1_0 h, box_at c1_1 h, box_at c1_2 h, box_at c1_3 h⟩
  go_wp2_with fail
  refine (spec_gIs gr _ [d.g1, d.y1, d.g2, d.y2] _ HG.out (OwnI.lit (B := 0) _ (Nat.zero_le _) (l := [d.g1, d.y1, d.g2, d.y2]) (AllI64.cons i1 (AllI64.cons i2 (AllI64.cons i3 (AllI64.cons i4 AllI64.nil)))) rfl (by simp [maxLen]) 4 rfl).ints).mono ?_
  rintro e u1 ⟨rfl, hq1⟩
  replace hq1 := Below.next (keep_al (Below.refl _ _) _) hq1
  replace hc := Below.next hc hq1
  clear hq1 c0_0 c0_1 c0_2 c1_0 c1_1 c1_2 c1_3
  obtain ⟨c0_0, c0_1, c0_2, c1_0, c1_1, c1_2, c1_3⟩ := HCC.out _ hc
  cases hc1 : [d.g1, d.y1, d.g2, d.y2].all (elB gr) with
  | false =>
    have Hhc1 := Lib.hid hc1
    clear hc1
    go_wp2_with fail
    have HV : Hid ((.bool (eqEl gr d) : Value) = .bool false) := by unfold Hid; have qhc1 := Hhc1.out; simp only [List.all_cons, List.all_nil, Bool.and_true] at qhc1; simp [eqEl, qhc1]
    go_ret
    exact ⟨congrArg Ending.returned HV.out.symm, HB.out.trans (hc.mono HB.out.size)⟩
  | true =>
    have Hhc1 := Lib.hid hc1
    clear hc1
    go_wp2_with fail
    have HV : Hid ((.bool (eqEl gr d) : Value) = .bool true) := by unfold Hid; have qhc1 := Hhc1.out; simp only [List.all_cons, List.all_nil, Bool.and_true] at qhc1; simp [eqEl, qhc1]
    go_ret
    exact ⟨congrArg Ending.returned HV.out.symm, HB.out.trans (hc.mono HB.out.size)⟩
set_option maxRecDepth 100000 in
set_option maxHeartbeats 2000000 in
theorem impl_isTrue (gr : GroupD) (d : EqualLogD) (s : Int) (w : World) (hg : OkG gr) (he : eqEl gr d = true) (hs : Small s) :
    Calls Try.prog 91 #[.agg #[.int .i64 gr.p, .int .i64 gr.q, .int .i64 gr.g], .agg #[.int .i64 d.g1, .int .i64 d.y1, .int .i64 d.g2, .int .i64 d.y2], .int .i64 s] w fun e w' => e = .returned (.bool (eqTrue gr d s)) ∧ Below w.heap.size w w' := by
  have HG := Lib.hid hg
  clear hg
  have HES := Lib.hid (eqEl_small HG.out he)
  obtain ⟨s1, s2, s3, s4⟩ := eqEl_small HG.out he
  clear he
  obtain ⟨W, hW⟩ : ∃ W, W = (w.alloc (.cells #[.int .i64 gr.p, .int .i64 gr.q, .int .i64 gr.g] 24)).alloc (.cells #[.int .i64 d.g1, .int .i64 d.y1, .int .i64 d.g2, .int .i64 d.y2] 31) := ⟨_, rfl⟩
  have HB : Hid (Below w.heap.size w W) := by unfold Hid; rw [hW]; (repeat (first | exact Below.refl _ _ | assumption | refine Below.drew ?_ | refine Below.alloc ?_ (by first | (simp; done) | (simp; omega)) _ | refine Below.setCell ?_ (by first | (simp; done) | (simp; omega)) _))
  have c0_0 : W.cell? ⟨w.heap.size, 0, none⟩ = some (.int .i64 gr.p) := by rw [hW]; simp [go_sem]
  have c0_1 : W.cell? ⟨w.heap.size, 1, none⟩ = some (.int .i64 gr.q) := by rw [hW]; simp [go_sem]
  have c0_2 : W.cell? ⟨w.heap.size, 2, none⟩ = some (.int .i64 gr.g) := by rw [hW]; simp [go_sem]
  have c1_0 : W.cell? ⟨w.heap.size + 1, 0, none⟩ = some (.int .i64 d.g1) := by rw [hW]; simp [go_sem]
  have c1_1 : W.cell? ⟨w.heap.size + 1, 1, none⟩ = some (.int .i64 d.y1) := by rw [hW]; simp [go_sem]
  have c1_2 : W.cell? ⟨w.heap.size + 1, 2, none⟩ = some (.int .i64 d.g2) := by rw [hW]; simp [go_sem]
  have c1_3 : W.cell? ⟨w.heap.size + 1, 3, none⟩ = some (.int .i64 d.y2) := by rw [hW]; simp [go_sem]
  have HSW : Hid (W.heap.size = w.heap.size + 2) := by unfold Hid; rw [hW]; simp
  go_enter Try.func91, Try.ntmps91
  go_wp2_with fail
  rw [← hW]
  have hse : w.heap.size + 1 + 1 = W.heap.size := by have := HSW.out; omega
  (try rw [hse])
  clear hse
  clear hW
  have hc : Below W.heap.size W W := Below.refl _ _
  have HCC : Hid (∀ u, Below W.heap.size W u → u.cell? ⟨w.heap.size, 0, none⟩ = some (.int .i64 gr.p) ∧ u.cell? ⟨w.heap.size, 1, none⟩ = some (.int .i64 gr.q) ∧ u.cell? ⟨w.heap.size, 2, none⟩ = some (.int .i64 gr.g) ∧ u.cell? ⟨w.heap.size + 1, 0, none⟩ = some (.int .i64 d.g1) ∧ u.cell? ⟨w.heap.size + 1, 1, none⟩ = some (.int .i64 d.y1) ∧ u.cell? ⟨w.heap.size + 1, 2, none⟩ = some (.int .i64 d.g2) ∧ u.cell? ⟨w.heap.size + 1, 3, none⟩ = some (.int .i64 d.y2)) := fun u h => ⟨box_at c0_0 h, box_at c0_1 h, box_at c0_2 h, box_at c1_0 h, box_at c1_1 h, box_at c1_2 h, box_at c1_3 h⟩
  cases hc1 : (powE gr d.g1 s == d.y1) with
  | false =>
    try (go_wp2_with fail)
    refine wp_region_noPanic ?_
    refine wp_region_P (fun w' => w'.cell? ⟨w.heap.size, 0, none⟩ = some (.int .i64 gr.p) ∧ w'.cell? ⟨w.heap.size, 1, none⟩ = some (.int .i64 gr.q) ∧ w'.cell? ⟨w.heap.size, 2, none⟩ = some (.int .i64 gr.g) ∧ w'.cell? ⟨w.heap.size + 1, 0, none⟩ = some (.int .i64 d.g1) ∧ w'.cell? ⟨w.heap.size + 1, 1, none⟩ = some (.int .i64 d.y1) ∧ w'.cell? ⟨w.heap.size + 1, 2, none⟩ = some (.int .i64 d.g2) ∧ w'.cell? ⟨w.heap.size + 1, 3, none⟩ = some (.int .i64 d.y2)) 21 [(0, []), (1, []), (2, [0]), (3, []), (4, [3, 1, 0]), (5, []), (6, [0]), (7, [2, 0]), (8, [0]), (9, [0]), (10, [1]), (11, [0, 2]), (12, [3]), (13, [3, 1, 0, 4]), (14, [5]), (15, [0, 6]), (16, [2, 0, 7]), (17, [8, 0]), (18, [0])] [] (by kernel_rfl) (by kernel_rfl) (by kernel_rfl) rfl (fun _ _ _ _ h => h) (fun w' h => ⟨box_at c0_0 h, box_at c0_1 h, box_at c0_2 h, box_at c1_0 h, box_at c1_1 h, box_at c1_2 h, box_at c1_3 h⟩) ?_
    simp only [pickP, pickN, List.getElem?_cons_zero, List.getElem?_cons_succ]
    iterate 4 (refine' chainP_read _ rfl rfl (fun w' hS' => ?_) ?_; rotate_left; · (simp only [lookP, allP, Act.put, List.getElem?_cons_zero, List.getElem?_cons_succ, List.setIfInBounds_toArray, List.set_cons_zero, List.set_cons_succ]; (try dsimp only at hS'); go_simp; (try with_reducible rfl)))
    -- 4: call { callee := value (func 106), args := #[t7, t9, t10], argTypes := #[25, 3, 3] }
    refine chainP_call (d := (some 11)) (.int .i64 (powE gr d.g1 s)) rfl rfl (fun w' hS' => ?_) ?_
    · simp only [lookP, allP, Act.put, List.getElem?_cons_zero, List.getElem?_cons_succ, List.setIfInBounds_toArray, List.set_cons_zero, List.set_cons_succ]
      intro K hK
      go_simp
      go_at_call 74
      refine (impl_pow gr d.g1 s _ HG.out s1 (small_64 hs)).mono ?_
      rintro e u ⟨rfl, hq⟩
      exact hK.out _ hq
    iterate 4 (refine' chainP_read _ rfl rfl (fun w' hS' => ?_) ?_; rotate_left; · (simp only [lookP, allP, Act.put, List.getElem?_cons_zero, List.getElem?_cons_succ, List.setIfInBounds_toArray, List.set_cons_zero, List.set_cons_succ]; (try dsimp only at hS'); go_simp; (try with_reducible rfl)))
    -- 9: load 25 t3
    refine chainP_skip (d := (some 16)) rfl (fun w' hS' => ?_) ?_
    · simp only [lookP, allP, Act.put, List.getElem?_cons_zero, List.getElem?_cons_succ, List.setIfInBounds_toArray, List.set_cons_zero, List.set_cons_succ]
      kernel_rfl
    -- 10: fieldAddr 51 t4 2
    refine chainP_skip (d := (some 17)) rfl (fun w' hS' => ?_) ?_
    · simp only [lookP, allP, Act.put, List.getElem?_cons_zero, List.getElem?_cons_succ, List.setIfInBounds_toArray, List.set_cons_zero, List.set_cons_succ]
      kernel_rfl
    -- 11: load 3 t17
    refine chainP_skip (d := (some 18)) rfl (fun w' hS' => ?_) ?_
    · simp only [lookP, allP, Act.put, List.getElem?_cons_zero, List.getElem?_cons_succ, List.setIfInBounds_toArray, List.set_cons_zero, List.set_cons_succ]
      kernel_rfl
    -- 12: move t2
    refine chainP_skip (d := (some 19)) rfl (fun w' hS' => ?_) ?_
    · simp only [lookP, allP, Act.put, List.getElem?_cons_zero, List.getElem?_cons_succ, List.setIfInBounds_toArray, List.set_cons_zero, List.set_cons_succ]
      kernel_rfl
    -- 13: call { callee := value (func 106), args := #[t16, t18, t19], argTypes := #[25, 3, 3] }
    refine chainP_skip (d := (some 20)) rfl (fun w' hS' => ?_) ?_
    · simp only [lookP, allP, Act.put, List.getElem?_cons_zero, List.getElem?_cons_succ, List.setIfInBounds_toArray, List.set_cons_zero, List.set_cons_succ]
      kernel_rfl
    -- 14: fieldAddr 51 t4 3
    refine chainP_skip (d := (some 21)) rfl (fun w' hS' => ?_) ?_
    · simp only [lookP, allP, Act.put, List.getElem?_cons_zero, List.getElem?_cons_succ, List.setIfInBounds_toArray, List.set_cons_zero, List.set_cons_succ]
      kernel_rfl
    -- 15: load 3 t21
    refine chainP_skip (d := (some 22)) rfl (fun w' hS' => ?_) ?_
    · simp only [lookP, allP, Act.put, List.getElem?_cons_zero, List.getElem?_cons_succ, List.setIfInBounds_toArray, List.set_cons_zero, List.set_cons_succ]
      kernel_rfl
    -- 16: binOp Bineql 3 t20 t22 3
    refine chainP_skip (d := (some 23)) rfl (fun w' hS' => ?_) ?_
    · simp only [lookP, allP, Act.put, List.getElem?_cons_zero, List.getElem?_cons_succ, List.setIfInBounds_toArray, List.set_cons_zero, List.set_cons_succ]
      kernel_rfl
    iterate 2 (refine' chainP_read _ rfl rfl (fun w' hS' => ?_) ?_; rotate_left; · (simp only [lookP, allP, Act.put, List.getElem?_cons_zero, List.getElem?_cons_succ, List.setIfInBounds_toArray, List.set_cons_zero, List.set_cons_succ]; (try dsimp only at hS'); go_simp; (try with_reducible rfl)))
    refine chainP_nil (fun u1 hS' => ?_)
    simp only [allP, Act.put, List.setIfInBounds_toArray, List.set_cons_zero, List.set_cons_succ]
    have hq1 := hS'.1
    clear hS'
    replace hc := Below.next hc hq1
    clear hq1 c0_0 c0_1 c0_2 c1_0 c1_1 c1_2 c1_3
    obtain ⟨c0_0, c0_1, c0_2, c1_0, c1_1, c1_2, c1_3⟩ := HCC.out _ hc
    go_wp2_with fail
    refine NoPanic.normal ?_
    go_wp2_with fail
    have HV : Hid ((.bool (eqTrue gr d s) : Value) = .bool false) := by unfold Hid; simp [eqTrue, hc1]
    go_ret
    exact ⟨congrArg Ending.returned HV.out.symm, HB.out.trans (hc.mono HB.out.size)⟩
  | true =>
    try (go_wp2_with fail)
    refine wp_region_noPanic ?_
    refine wp_region_P (fun w' => w'.cell? ⟨w.heap.size, 0, none⟩ = some (.int .i64 gr.p) ∧ w'.cell? ⟨w.heap.size, 1, none⟩ = some (.int .i64 gr.q) ∧ w'.cell? ⟨w.heap.size, 2, none⟩ = some (.int .i64 gr.g) ∧ w'.cell? ⟨w.heap.size + 1, 0, none⟩ = some (.int .i64 d.g1) ∧ w'.cell? ⟨w.heap.size + 1, 1, none⟩ = some (.int .i64 d.y1) ∧ w'.cell? ⟨w.heap.size + 1, 2, none⟩ = some (.int .i64 d.g2) ∧ w'.cell? ⟨w.heap.size + 1, 3, none⟩ = some (.int .i64 d.y2)) 21 [(0, []), (1, []), (2, [0]), (3, []), (4, [3, 1, 0]), (5, []), (6, [0]), (7, [2, 0]), (8, [0]), (9, [0]), (10, [1]), (11, [0, 2]), (12, [3]), (13, [3, 1, 0, 4]), (14, [5]), (15, [0, 6]), (16, [2, 0, 7]), (17, [8, 0]), (18, [0])] [] (by kernel_rfl) (by kernel_rfl) (by kernel_rfl) rfl (fun _ _ _ _ h => h) (fun w' h => ⟨box_at c0_0 h, box_at c0_1 h, box_at c0_2 h, box_at c1_0 h, box_at c1_1 h, box_at c1_2 h, box_at c1_3 h⟩) ?_
    simp only [pickP, pickN, List.getElem?_cons_zero, List.getElem?_cons_succ]
    iterate 4 (refine' chainP_read _ rfl rfl (fun w' hS' => ?_) ?_; rotate_left; · (simp only [lookP, allP, Act.put, List.getElem?_cons_zero, List.getElem?_cons_succ, List.setIfInBounds_toArray, List.set_cons_zero, List.set_cons_succ]; (try dsimp only at hS'); go_simp; (try with_reducible rfl)))
    -- 4: call { callee := value (func 106), args := #[t7, t9, t10], argTypes := #[25, 3, 3] }
    refine chainP_call (d := (some 11)) (.int .i64 (powE gr d.g1 s)) rfl rfl (fun w' hS' => ?_) ?_
    · simp only [lookP, allP, Act.put, List.getElem?_cons_zero, List.getElem?_cons_succ, List.setIfInBounds_toArray, List.set_cons_zero, List.set_cons_succ]
      intro K hK
      go_simp
      go_at_call 74
      refine (impl_pow gr d.g1 s _ HG.out s1 (small_64 hs)).mono ?_
      rintro e u ⟨rfl, hq⟩
      exact hK.out _ hq
    iterate 4 (refine' chainP_read _ rfl rfl (fun w' hS' => ?_) ?_; rotate_left; · (simp only [lookP, allP, Act.put, List.getElem?_cons_zero, List.getElem?_cons_succ, List.setIfInBounds_toArray, List.set_cons_zero, List.set_cons_succ]; (try dsimp only at hS'); go_simp; (try with_reducible rfl)))
    -- 9: load 25 t3
    refine' chainP_readG (d := (some 16)) _ rfl (fun w' hS' => ?_) ?_; rotate_left
    · simp only [lookP, allP, Act.put, List.getElem?_cons_zero, List.getElem?_cons_succ, List.setIfInBounds_toArray, List.set_cons_zero, List.set_cons_succ]
      refine ⟨by kernel_rfl, ?_⟩
      (try dsimp only at hS')
      go_simp
      (try with_reducible rfl)
    -- 10: fieldAddr 51 t4 2
    refine' chainP_readG (d := (some 17)) _ rfl (fun w' hS' => ?_) ?_; rotate_left
    · simp only [lookP, allP, Act.put, List.getElem?_cons_zero, List.getElem?_cons_succ, List.setIfInBounds_toArray, List.set_cons_zero, List.set_cons_succ]
      refine ⟨by kernel_rfl, ?_⟩
      (try dsimp only at hS')
      go_simp
      (try with_reducible rfl)
    -- 11: load 3 t17
    refine' chainP_readG (d := (some 18)) _ rfl (fun w' hS' => ?_) ?_; rotate_left
    · simp only [lookP, allP, Act.put, List.getElem?_cons_zero, List.getElem?_cons_succ, List.setIfInBounds_toArray, List.set_cons_zero, List.set_cons_succ]
      refine ⟨by kernel_rfl, ?_⟩
      (try dsimp only at hS')
      go_simp
      (try with_reducible rfl)
    -- 12: move t2
    refine' chainP_readG (d := (some 19)) _ rfl (fun w' hS' => ?_) ?_; rotate_left
    · simp only [lookP, allP, Act.put, List.getElem?_cons_zero, List.getElem?_cons_succ, List.setIfInBounds_toArray, List.set_cons_zero, List.set_cons_succ]
      refine ⟨by kernel_rfl, ?_⟩
      (try dsimp only at hS')
      go_simp
      (try with_reducible rfl)
    -- 13: call { callee := value (func 106), args := #[t16, t18, t19], argTypes := #[25, 3, 3] }
    refine chainP_callG (d := (some 20)) (.int .i64 (powE gr d.g2 s)) rfl (fun w' hS' => ?_) ?_
    · simp only [lookP, allP, Act.put, List.getElem?_cons_zero, List.getElem?_cons_succ, List.setIfInBounds_toArray, List.set_cons_zero, List.set_cons_succ]
      refine ⟨by kernel_rfl, ?_⟩
      intro K hK
      go_simp
      go_at_call 74
      refine (impl_pow gr d.g2 s _ HG.out s3 (small_64 hs)).mono ?_
      rintro e u ⟨rfl, hq⟩
      exact hK.out _ hq
    -- 14: fieldAddr 51 t4 3
    refine' chainP_readG (d := (some 21)) _ rfl (fun w' hS' => ?_) ?_; rotate_left
    · simp only [lookP, allP, Act.put, List.getElem?_cons_zero, List.getElem?_cons_succ, List.setIfInBounds_toArray, List.set_cons_zero, List.set_cons_succ]
      refine ⟨by kernel_rfl, ?_⟩
      (try dsimp only at hS')
      go_simp
      (try with_reducible rfl)
    -- 15: load 3 t21
    refine' chainP_readG (d := (some 22)) _ rfl (fun w' hS' => ?_) ?_; rotate_left
    · simp only [lookP, allP, Act.put, List.getElem?_cons_zero, List.getElem?_cons_succ, List.setIfInBounds_toArray, List.set_cons_zero, List.set_cons_succ]
      refine ⟨by kernel_rfl, ?_⟩
      (try dsimp only at hS')
      go_simp
      (try with_reducible rfl)
    -- 16: binOp Bineql 3 t20 t22 3
    refine' chainP_readG (d := (some 23)) _ rfl (fun w' hS' => ?_) ?_; rotate_left
    · simp only [lookP, allP, Act.put, List.getElem?_cons_zero, List.getElem?_cons_succ, List.setIfInBounds_toArray, List.set_cons_zero, List.set_cons_succ]
      refine ⟨by kernel_rfl, ?_⟩
      (try dsimp only at hS')
      go_simp
      (try with_reducible rfl)
    iterate 2 (refine' chainP_read _ rfl rfl (fun w' hS' => ?_) ?_; rotate_left; · (simp only [lookP, allP, Act.put, List.getElem?_cons_zero, List.getElem?_cons_succ, List.setIfInBounds_toArray, List.set_cons_zero, List.set_cons_succ]; (try dsimp only at hS'); go_simp; (try with_reducible rfl)))
    refine chainP_nil (fun u1 hS' => ?_)
    simp only [allP, Act.put, List.setIfInBounds_toArray, List.set_cons_zero, List.set_cons_succ]
    have hq1 := hS'.1
    clear hS'
    replace hc := Below.next hc hq1
    clear hq1 c0_0 c0_1 c0_2 c1_0 c1_1 c1_2 c1_3
    obtain ⟨c0_0, c0_1, c0_2, c1_0, c1_1, c1_2, c1_3⟩ := HCC.out _ hc
    go_wp2_with fail
    refine NoPanic.normal ?_
    cases hc2 : (powE gr d.g2 s == d.y2) with
    | false =>
      go_wp2_with fail
      have HV : Hid ((.bool (eqTrue gr d s) : Value) = .bool false) := by unfold Hid; simp [eqTrue, hc1, hc2]
      go_ret
      exact ⟨congrArg Ending.returned HV.out.symm, HB.out.trans (hc.mono HB.out.size)⟩
    | true =>
      go_wp2_with fail
      have HV : Hid ((.bool (eqTrue gr d s) : Value) = .bool true) := by unfold Hid; simp [eqTrue, hc1, hc2]
      go_ret
      exact ⟨congrArg Ending.returned HV.out.symm, HB.out.trans (hc.mono HB.out.size)⟩
set_option maxRecDepth 100000 in
set_option maxHeartbeats 2000000 in
theorem spec_sTrue (gr : GroupD) (d : EqualLogD) (s : Int) (w : World) (hg : OkG gr) (he : eqEl gr d = true) (hs : Small s) :
    Calls Try.prog 108 #[.agg #[.int .i64 gr.p, .int .i64 gr.q, .int .i64 gr.g], .agg #[.int .i64 d.g1, .int .i64 d.y1, .int .i64 d.g2, .int .i64 d.y2], .int .i64 s] w fun e w' => e = .returned (.bool (eqTrue gr d s)) ∧ Below w.heap.size w w' := by
  have HG := Lib.hid hg
  clear hg
  have HES := Lib.hid (eqEl_small HG.out he)
  obtain ⟨s1, s2, s3, s4⟩ := eqEl_small HG.out he
  clear he
  obtain ⟨W, hW⟩ : ∃ W, W = (w.alloc (.cells #[.int .i64 gr.p, .int .i64 gr.q, .int .i64 gr.g] 24)).alloc (.cells #[.int .i64 d.g1, .int .i64 d.y1, .int .i64 d.g2, .int .i64 d.y2] 31) := ⟨_, rfl⟩
  have HB : Hid (Below w.heap.size w W) := by unfold Hid; rw [hW]; (repeat (first | exact Below.refl _ _ | assumption | refine Below.drew ?_ | refine Below.alloc ?_ (by first | (simp; done) | (simp; omega)) _ | refine Below.setCell ?_ (by first | (simp; done) | (simp; omega)) _))
  have c0_0 : W.cell? ⟨w.heap.size, 0, none⟩ = some (.int .i64 gr.p) := by rw [hW]; simp [go_sem]
  have c0_1 : W.cell? ⟨w.heap.size, 1, none⟩ = some (.int .i64 gr.q) := by rw [hW]; simp [go_sem]
  have c0_2 : W.cell? ⟨w.heap.size, 2, none⟩ = some (.int .i64 gr.g) := by rw [hW]; simp [go_sem]
  have c1_0 : W.cell? ⟨w.heap.size + 1, 0, none⟩ = some (.int .i64 d.g1) := by rw [hW]; simp [go_sem]
  have c1_1 : W.cell? ⟨w.heap.size + 1, 1, none⟩ = some (.int .i64 d.y1) := by rw [hW]; simp [go_sem]
  have c1_2 : W.cell? ⟨w.heap.size + 1, 2, none⟩ = some (.int .i64 d.g2) := by rw [hW]; simp [go_sem]
  have c1_3 : W.cell? ⟨w.heap.size + 1, 3, none⟩ = some (.int .i64 d.y2) := by rw [hW]; simp [go_sem]
  have HSW : Hid (W.heap.size = w.heap.size + 2) := by unfold Hid; rw [hW]; simp
  go_enter Try.func108, Try.ntmps108
  go_wp2_with fail
  rw [← hW]
  have hse : w.heap.size + 1 + 1 = W.heap.size := by have := HSW.out; omega
  (try rw [hse])
  clear hse
  clear hW
  have hc : Below W.heap.size W W := Below.refl _ _
  have HCC : Hid (∀ u, Below W.heap.size W u → u.cell? ⟨w.heap.size, 0, none⟩ = some (.int .i64 gr.p) ∧ u.cell? ⟨w.heap.size, 1, none⟩ = some (.int .i64 gr.q) ∧ u.cell? ⟨w.heap.size, 2, none⟩ = some (.int .i64 gr.g) ∧ u.cell? ⟨w.heap.size + 1, 0, none⟩ = some (.int .i64 d.g1) ∧ u.cell? ⟨w.heap.size + 1, 1, none⟩ = some (.int .i64 d.y1) ∧ u.cell? ⟨w.heap.size + 1, 2, none⟩ = some (.int .i64 d.g2) ∧ u.cell? ⟨w.heap.size + 1, 3, none⟩ = some (.int .i64 d.y2)) := fun u h => ⟨box_at c0_0 h, box_at c0_1 h, box_at c0_2 h, box_at c1_0 h, box_at c1_1 h, box_at c1_2 h, box_at c1_3 h⟩
  cases hc1 : (powE gr d.g1 s == d.y1) with
  | false =>
    try (go_wp2_with fail)
    refine wp_region_noPanic ?_
    refine wp_region_P (fun w' => w'.cell? ⟨w.heap.size, 0, none⟩ = some (.int .i64 gr.p) ∧ w'.cell? ⟨w.heap.size, 1, none⟩ = some (.int .i64 gr.q) ∧ w'.cell? ⟨w.heap.size, 2, none⟩ = some (.int .i64 gr.g) ∧ w'.cell? ⟨w.heap.size + 1, 0, none⟩ = some (.int .i64 d.g1) ∧ w'.cell? ⟨w.heap.size + 1, 1, none⟩ = some (.int .i64 d.y1) ∧ w'.cell? ⟨w.heap.size + 1, 2, none⟩ = some (.int .i64 d.g2) ∧ w'.cell? ⟨w.heap.size + 1, 3, none⟩ = some (.int .i64 d.y2)) 21 [(0, []), (1, []), (2, [0]), (3, []), (4, [3, 1, 0]), (5, []), (6, [0]), (7, [2, 0]), (8, [0]), (9, [0]), (10, [1]), (11, [0, 2]), (12, [3]), (13, [3, 1, 0, 4]), (14, [5]), (15, [0, 6]), (16, [2, 0, 7]), (17, [8, 0]), (18, [0])] [] (by kernel_rfl) (by kernel_rfl) (by kernel_rfl) rfl (fun _ _ _ _ h => h) (fun w' h => ⟨box_at c0_0 h, box_at c0_1 h, box_at c0_2 h, box_at c1_0 h, box_at c1_1 h, box_at c1_2 h, box_at c1_3 h⟩) ?_
    simp only [pickP, pickN, List.getElem?_cons_zero, List.getElem?_cons_succ]
    iterate 4 (refine' chainP_read _ rfl rfl (fun w' hS' => ?_) ?_; rotate_left; · (simp only [lookP, allP, Act.put, List.getElem?_cons_zero, List.getElem?_cons_succ, List.setIfInBounds_toArray, List.set_cons_zero, List.set_cons_succ]; (try dsimp only at hS'); go_simp; (try with_reducible rfl)))
    -- 4: call { callee := value (func 117), args := #[t7, t9, t10], argTypes := #[25, 3, 3] }
    refine chainP_call (d := (some 11)) (.int .i64 (powE gr d.g1 s)) rfl rfl (fun w' hS' => ?_) ?_
    · simp only [lookP, allP, Act.put, List.getElem?_cons_zero, List.getElem?_cons_succ, List.setIfInBounds_toArray, List.set_cons_zero, List.set_cons_succ]
      intro K hK
      go_simp
      go_at_call 80
      refine (spec_gExp gr d.g1 s _ HG.out s1 (small_64 hs)).mono ?_
      rintro e u ⟨rfl, hq⟩
      exact hK.out _ hq
    iterate 4 (refine' chainP_read _ rfl rfl (fun w' hS' => ?_) ?_; rotate_left; · (simp only [lookP, allP, Act.put, List.getElem?_cons_zero, List.getElem?_cons_succ, List.setIfInBounds_toArray, List.set_cons_zero, List.set_cons_succ]; (try dsimp only at hS'); go_simp; (try with_reducible rfl)))
    -- 9: load 25 t3
    refine chainP_skip (d := (some 16)) rfl (fun w' hS' => ?_) ?_
    · simp only [lookP, allP, Act.put, List.getElem?_cons_zero, List.getElem?_cons_succ, List.setIfInBounds_toArray, List.set_cons_zero, List.set_cons_succ]
      kernel_rfl
    -- 10: fieldAddr 51 t4 2
    refine chainP_skip (d := (some 17)) rfl (fun w' hS' => ?_) ?_
    · simp only [lookP, allP, Act.put, List.getElem?_cons_zero, List.getElem?_cons_succ, List.setIfInBounds_toArray, List.set_cons_zero, List.set_cons_succ]
      kernel_rfl
    -- 11: load 3 t17
    refine chainP_skip (d := (some 18)) rfl (fun w' hS' => ?_) ?_
    · simp only [lookP, allP, Act.put, List.getElem?_cons_zero, List.getElem?_cons_succ, List.setIfInBounds_toArray, List.set_cons_zero, List.set_cons_succ]
      kernel_rfl
    -- 12: move t2
    refine chainP_skip (d := (some 19)) rfl (fun w' hS' => ?_) ?_
    · simp only [lookP, allP, Act.put, List.getElem?_cons_zero, List.getElem?_cons_succ, List.setIfInBounds_toArray, List.set_cons_zero, List.set_cons_succ]
      kernel_rfl
    -- 13: call { callee := value (func 117), args := #[t16, t18, t19], argTypes := #[25, 3, 3] }
    refine chainP_skip (d := (some 20)) rfl (fun w' hS' => ?_) ?_
    · simp only [lookP, allP, Act.put, List.getElem?_cons_zero, List.getElem?_cons_succ, List.setIfInBounds_toArray, List.set_cons_zero, List.set_cons_succ]
      kernel_rfl
    -- 14: fieldAddr 51 t4 3
    refine chainP_skip (d := (some 21)) rfl (fun w' hS' => ?_) ?_
    · simp only [lookP, allP, Act.put, List.getElem?_cons_zero, List.getElem?_cons_succ, List.setIfInBounds_toArray, List.set_cons_zero, List.set_cons_succ]
      kernel_rfl
    -- 15: load 3 t21
    refine chainP_skip (d := (some 22)) rfl (fun w' hS' => ?_) ?_
    · simp only [lookP, allP, Act.put, List.getElem?_cons_zero, List.getElem?_cons_succ, List.setIfInBounds_toArray, List.set_cons_zero, List.set_cons_succ]
      kernel_rfl
    -- 16: binOp Bineql 3 t20 t22 3
    refine chainP_skip (d := (some 23)) rfl (fun w' hS' => ?_) ?_
    · simp only [lookP, allP, Act.put, List.getElem?_cons_zero, List.getElem?_cons_succ, List.setIfInBounds_toArray, List.set_cons_zero, List.set_cons_succ]
      kernel_rfl
    iterate 2 (refine' chainP_read _ rfl rfl (fun w' hS' => ?_) ?_; rotate_left; · (simp only [lookP, allP, Act.put, List.getElem?_cons_zero, List.getElem?_cons_succ, List.setIfInBounds_toArray, List.set_cons_zero, List.set_cons_succ]; (try dsimp only at hS'); go_simp; (try with_reducible rfl)))
    refine chainP_nil (fun u1 hS' => ?_)
    simp only [allP, Act.put, List.setIfInBounds_toArray, List.set_cons_zero, List.set_cons_succ]
    have hq1 := hS'.1
    clear hS'
    replace hc := Below.next hc hq1
    clear hq1 c0_0 c0_1 c0_2 c1_0 c1_1 c1_2 c1_3
    obtain ⟨c0_0, c0_1, c0_2, c1_0, c1_1, c1_2, c1_3⟩ := HCC.out _ hc
    go_wp2_with fail
    refine NoPanic.normal ?_
    go_wp2_with fail
    have HV : Hid ((.bool (eqTrue gr d s) : Value) = .bool false) := by unfold Hid; simp [eqTrue, hc1]
    go_ret
    exact ⟨congrArg Ending.returned HV.out.symm, HB.out.trans (hc.mono HB.out.size)⟩
  | true =>
    try (go_wp2_with fail)
    refine wp_region_noPanic ?_
    refine wp_region_P (fun w' => w'.cell? ⟨w.heap.size, 0, none⟩ = some (.int .i64 gr.p) ∧ w'.cell? ⟨w.heap.size, 1, none⟩ = some (.int .i64 gr.q) ∧ w'.cell? ⟨w.heap.size, 2, none⟩ = some (.int .i64 gr.g) ∧ w'.cell? ⟨w.heap.size + 1, 0, none⟩ = some (.int .i64 d.g1) ∧ w'.cell? ⟨w.heap.size + 1, 1, none⟩ = some (.int .i64 d.y1) ∧ w'.cell? ⟨w.heap.size + 1, 2, none⟩ = some (.int .i64 d.g2) ∧ w'.cell? ⟨w.heap.size + 1, 3, none⟩ = some (.int .i64 d.y2)) 21 [(0, []), (1, []), (2, [0]), (3, []), (4, [3, 1, 0]), (5, []), (6, [0]), (7, [2, 0]), (8, [0]), (9, [0]), (10, [1]), (11, [0, 2]), (12, [3]), (13, [3, 1, 0, 4]), (14, [5]), (15, [0, 6]), (16, [2, 0, 7]), (17, [8, 0]), (18, [0])] [] (by kernel_rfl) (by kernel_rfl) (by kernel_rfl) rfl (fun _ _ _ _ h => h) (fun w' h => ⟨box_at c0_0 h, box_at c0_1 h, box_at c0_2 h, box_at c1_0 h, box_at c1_1 h, box_at c1_2 h, box_at c1_3 h⟩) ?_
    simp only [pickP, pickN, List.getElem?_cons_zero, List.getElem?_cons_succ]
    iterate 4 (refine' chainP_read _ rfl rfl (fun w' hS' => ?_) ?_; rotate_left; · (simp only [lookP, allP, Act.put, List.getElem?_cons_zero, List.getElem?_cons_succ, List.setIfInBounds_toArray, List.set_cons_zero, List.set_cons_succ]; (try dsimp only at hS'); go_simp; (try with_reducible rfl)))
    -- 4: call { callee := value (func 117), args := #[t7, t9, t10], argTypes := #[25, 3, 3] }
    refine chainP_call (d := (some 11)) (.int .i64 (powE gr d.g1 s)) rfl rfl (fun w' hS' => ?_) ?_
    · simp only [lookP, allP, Act.put, List.getElem?_cons_zero, List.getElem?_cons_succ, List.setIfInBounds_toArray, List.set_cons_zero, List.set_cons_succ]
      intro K hK
      go_simp
      go_at_call 80
      refine (spec_gExp gr d.g1 s _ HG.out s1 (small_64 hs)).mono ?_
      rintro e u ⟨rfl, hq⟩
      exact hK.out _ hq
    iterate 4 (refine' chainP_read _ rfl rfl (fun w' hS' => ?_) ?_; rotate_left; · (simp only [lookP, allP, Act.put, List.getElem?_cons_zero, List.getElem?_cons_succ, List.setIfInBounds_toArray, List.set_cons_zero, List.set_cons_succ]; (try dsimp only at hS'); go_simp; (try with_reducible rfl)))
    -- 9: load 25 t3
    refine' chainP_readG (d := (some 16)) _ rfl (fun w' hS' => ?_) ?_; rotate_left
    · simp only [lookP, allP, Act.put, List.getElem?_cons_zero, List.getElem?_cons_succ, List.setIfInBounds_toArray, List.set_cons_zero, List.set_cons_succ]
      refine ⟨by kernel_rfl, ?_⟩
      (try dsimp only at hS')
      go_simp
      (try with_reducible rfl)
    -- 10: fieldAddr 51 t4 2
    refine' chainP_readG (d := (some 17)) _ rfl (fun w' hS' => ?_) ?_; rotate_left
    · simp only [lookP, allP, Act.put, List.getElem?_cons_zero, List.getElem?_cons_succ, List.setIfInBounds_toArray, List.set_cons_zero, List.set_cons_succ]
      refine ⟨by kernel_rfl, ?_⟩
      (try dsimp only at hS')
      go_simp
      (try with_reducible rfl)
    -- 11: load 3 t17
    refine' chainP_readG (d := (some 18)) _ rfl (fun w' hS' => ?_) ?_; rotate_left
    · simp only [lookP, allP, Act.put, List.getElem?_cons_zero, List.getElem?_cons_succ, List.setIfInBounds_toArray, List.set_cons_zero, List.set_cons_succ]
      refine ⟨by kernel_rfl, ?_⟩
      (try dsimp only at hS')
      go_simp
      (try with_reducible rfl)
    -- 12: move t2
    refine' chainP_readG (d := (some 19)) _ rfl (fun w' hS' => ?_) ?_; rotate_left
    · simp only [lookP, allP, Act.put, List.getElem?_cons_zero, List.getElem?_cons_succ, List.setIfInBounds_toArray, List.set_cons_zero, List.set_cons_succ]
      refine ⟨by kernel_rfl, ?_⟩
      (try dsimp only at hS')
      go_simp
      (try with_reducible rfl)
    -- 13: call { callee := value (func 117), args := #[t16, t18, t19], argTypes := #[25, 3, 3] }
    refine chainP_callG (d := (some 20)) (.int .i64 (powE gr d.g2 s)) rfl (fun w' hS' => ?_) ?_
    · simp only [lookP, allP, Act.put, List.getElem?_cons_zero, List.getElem?_cons_succ, List.setIfInBounds_toArray, List.set_cons_zero, List.set_cons_succ]
      refine ⟨by kernel_rfl, ?_⟩
      intro K hK
      go_simp
      go_at_call 80
      refine (spec_gExp gr d.g2 s _ HG.out s3 (small_64 hs)).mono ?_
      rintro e u ⟨rfl, hq⟩
      exact hK.out _ hq
    -- 14: fieldAddr 51 t4 3
    refine' chainP_readG (d := (some 21)) _ rfl (fun w' hS' => ?_) ?_; rotate_left
    · simp only [lookP, allP, Act.put, List.getElem?_cons_zero, List.getElem?_cons_succ, List.setIfInBounds_toArray, List.set_cons_zero, List.set_cons_succ]
      refine ⟨by kernel_rfl, ?_⟩
      (try dsimp only at hS')
      go_simp
      (try with_reducible rfl)
    -- 15: load 3 t21
    refine' chainP_readG (d := (some 22)) _ rfl (fun w' hS' => ?_) ?_; rotate_left
    · simp only [lookP, allP, Act.put, List.getElem?_cons_zero, List.getElem?_cons_succ, List.setIfInBounds_toArray, List.set_cons_zero, List.set_cons_succ]
      refine ⟨by kernel_rfl, ?_⟩
      (try dsimp only at hS')
      go_simp
      (try with_reducible rfl)
    -- 16: binOp Bineql 3 t20 t22 3
    refine' chainP_readG (d := (some 23)) _ rfl (fun w' hS' => ?_) ?_; rotate_left
    · simp only [lookP, allP, Act.put, List.getElem?_cons_zero, List.getElem?_cons_succ, List.setIfInBounds_toArray, List.set_cons_zero, List.set_cons_succ]
      refine ⟨by kernel_rfl, ?_⟩
      (try dsimp only at hS')
      go_simp
      (try with_reducible rfl)
    iterate 2 (refine' chainP_read _ rfl rfl (fun w' hS' => ?_) ?_; rotate_left; · (simp only [lookP, allP, Act.put, List.getElem?_cons_zero, List.getElem?_cons_succ, List.setIfInBounds_toArray, List.set_cons_zero, List.set_cons_succ]; (try dsimp only at hS'); go_simp; (try with_reducible rfl)))
    refine chainP_nil (fun u1 hS' => ?_)
    simp only [allP, Act.put, List.setIfInBounds_toArray, List.set_cons_zero, List.set_cons_succ]
    have hq1 := hS'.1
    clear hS'
    replace hc := Below.next hc hq1
    clear hq1 c0_0 c0_1 c0_2 c1_0 c1_1 c1_2 c1_3
    obtain ⟨c0_0, c0_1, c0_2, c1_0, c1_1, c1_2, c1_3⟩ := HCC.out _ hc
    go_wp2_with fail
    refine NoPanic.normal ?_
    cases hc2 : (powE gr d.g2 s == d.y2) with
    | false =>
      go_wp2_with fail
      have HV : Hid ((.bool (eqTrue gr d s) : Value) = .bool false) := by unfold Hid; simp [eqTrue, hc1, hc2]
      go_ret
      exact ⟨congrArg Ending.returned HV.out.symm, HB.out.trans (hc.mono HB.out.size)⟩
    | true =>
      go_wp2_with fail
      have HV : Hid ((.bool (eqTrue gr d s) : Value) = .bool true) := by unfold Hid; simp [eqTrue, hc1, hc2]
      go_ret
      exact ⟨congrArg Ending.returned HV.out.symm, HB.out.trans (hc.mono HB.out.size)⟩
set_option maxRecDepth 100000 in
set_option maxHeartbeats 2000000 in
theorem impl_simulated (gr : GroupD) (d : EqualLogD) (c z : Int) (w : World) (hg : OkG gr) (he : eqEl gr d = true) (hc : Small c) (hz : Small z) :
    Calls Try.prog 88 #[.agg #[.int .i64 gr.p, .int .i64 gr.q, .int .i64 gr.g], .agg #[.int .i64 d.g1, .int .i64 d.y1, .int .i64 d.g2, .int .i64 d.y2], .int .i64 c, .int .i64 z] w fun e w' => e = .returned (.tuple #[.int .i64 (smX gr d.g1 d.y1 c z), .int .i64 (smX gr d.g2 d.y2 c z)]) ∧ Below w.heap.size w w' := by
  have HG := Lib.hid hg
  clear hg
  have HES := Lib.hid (eqEl_small HG.out he)
  obtain ⟨s1, s2, s3, s4⟩ := eqEl_small HG.out he
  clear he
  have ewc : IntKind.i64.wrap (-c) = -c := IntWalk.i64_in _ (by have := hc.1; have := hc.2; omega)
  have inc : I64 (-c) := ⟨by have := hc.2; omega, by have := hc.1; omega⟩
  obtain ⟨W, hW⟩ : ∃ W, W = (w.alloc (.cells #[.int .i64 gr.p, .int .i64 gr.q, .int .i64 gr.g] 24)).alloc (.cells #[.int .i64 d.g1, .int .i64 d.y1, .int .i64 d.g2, .int .i64 d.y2] 31) := ⟨_, rfl⟩
  have HB : Hid (Below w.heap.size w W) := by unfold Hid; rw [hW]; (repeat (first | exact Below.refl _ _ | assumption | refine Below.drew ?_ | refine Below.alloc ?_ (by first | (simp; done) | (simp; omega)) _ | refine Below.setCell ?_ (by first | (simp; done) | (simp; omega)) _))
  have c0_0 : W.cell? ⟨w.heap.size, 0, none⟩ = some (.int .i64 gr.p) := by rw [hW]; simp [go_sem]
  have c0_1 : W.cell? ⟨w.heap.size, 1, none⟩ = some (.int .i64 gr.q) := by rw [hW]; simp [go_sem]
  have c0_2 : W.cell? ⟨w.heap.size, 2, none⟩ = some (.int .i64 gr.g) := by rw [hW]; simp [go_sem]
  have c1_0 : W.cell? ⟨w.heap.size + 1, 0, none⟩ = some (.int .i64 d.g1) := by rw [hW]; simp [go_sem]
  have c1_1 : W.cell? ⟨w.heap.size + 1, 1, none⟩ = some (.int .i64 d.y1) := by rw [hW]; simp [go_sem]
  have c1_2 : W.cell? ⟨w.heap.size + 1, 2, none⟩ = some (.int .i64 d.g2) := by rw [hW]; simp [go_sem]
  have c1_3 : W.cell? ⟨w.heap.size + 1, 3, none⟩ = some (.int .i64 d.y2) := by rw [hW]; simp [go_sem]
  have HSW : Hid (W.heap.size = w.heap.size + 2) := by unfold Hid; rw [hW]; simp
  go_enter Try.func88, Try.ntmps88
  go_wp2_with fail
  rw [← hW]
  have hse : w.heap.size + 1 + 1 = W.heap.size := by have := HSW.out; omega
  (try rw [hse])
  clear hse
  clear hW
  have hc : Below W.heap.size W W := Below.refl _ _
  have HCC : Hid (∀ u, Below W.heap.size W u → u.cell? ⟨w.heap.size, 0, none⟩ = some (.int .i64 gr.p) ∧ u.cell? ⟨w.heap.size, 1, none⟩ = some (.int .i64 gr.q) ∧ u.cell? ⟨w.heap.size, 2, none⟩ = some (.int .i64 gr.g) ∧ u.cell? ⟨w.heap.size + 1, 0, none⟩ = some (.int .i64 d.g1) ∧ u.cell? ⟨w.heap.size + 1, 1, none⟩ = some (.int .i64 d.y1) ∧ u.cell? ⟨w.heap.size + 1, 2, none⟩ = some (.int .i64 d.g2) ∧ u.cell? ⟨w.heap.size + 1, 3, none⟩ = some (.int .i64 d.y2)) := fun u h => ⟨box_at c0_0 h, box_at c0_1 h, box_at c0_2 h, box_at c1_0 h, box_at c1_1 h, box_at c1_2 h, box_at c1_3 h⟩
  try (go_wp2_with fail)
  refine wp_region_noPanic ?_
  refine wp_region_P (fun w' => w'.cell? ⟨w.heap.size, 0, none⟩ = some (.int .i64 gr.p) ∧ w'.cell? ⟨w.heap.size, 1, none⟩ = some (.int .i64 gr.q) ∧ w'.cell? ⟨w.heap.size, 2, none⟩ = some (.int .i64 gr.g) ∧ w'.cell? ⟨w.heap.size + 1, 0, none⟩ = some (.int .i64 d.g1) ∧ w'.cell? ⟨w.heap.size + 1, 1, none⟩ = some (.int .i64 d.y1) ∧ w'.cell? ⟨w.heap.size + 1, 2, none⟩ = some (.int .i64 d.g2) ∧ w'.cell? ⟨w.heap.size + 1, 3, none⟩ = some (.int .i64 d.y2)) 32 [(0, []), (1, []), (2, []), (3, [0]), (4, []), (5, [3, 1, 0]), (6, []), (7, []), (8, [0]), (9, []), (10, [0]), (11, [4, 2, 0]), (12, [6, 0]), (13, [12, 0]), (14, []), (15, []), (16, []), (17, [0]), (18, []), (19, [3, 1, 0]), (20, []), (21, []), (22, [0]), (23, []), (24, [0]), (25, [4, 2, 0]), (26, [6, 0]), (27, [12, 0]), (28, [14]), (29, [1])] [] (by kernel_rfl) (by kernel_rfl) (by kernel_rfl) rfl (fun _ _ _ _ h => h) (fun w' h => ⟨box_at c0_0 h, box_at c0_1 h, box_at c0_2 h, box_at c1_0 h, box_at c1_1 h, box_at c1_2 h, box_at c1_3 h⟩) ?_
  simp only [pickP, pickN, List.getElem?_cons_zero, List.getElem?_cons_succ]
  iterate 5 (refine' chainP_read _ rfl rfl (fun w' hS' => ?_) ?_; rotate_left; · (simp only [lookP, allP, Act.put, List.getElem?_cons_zero, List.getElem?_cons_succ, List.setIfInBounds_toArray, List.set_cons_zero, List.set_cons_succ]; (try dsimp only at hS'); go_simp; (try with_reducible rfl)))
  -- 5: call { callee := value (func 106), args := #[t11, t13, t14], argTypes := #[25, 3, 3] }
  refine chainP_call (d := (some 15)) (.int .i64 (powE gr d.g1 z)) rfl rfl (fun w' hS' => ?_) ?_
  · simp only [lookP, allP, Act.put, List.getElem?_cons_zero, List.getElem?_cons_succ, List.setIfInBounds_toArray, List.set_cons_zero, List.set_cons_succ]
    intro K hK
    go_simp
    go_at_call 74
    refine (impl_pow gr d.g1 z _ HG.out s1 (small_64 hz)).mono ?_
    rintro e u ⟨rfl, hq⟩
    exact hK.out _ hq
  iterate 5 (refine' chainP_read _ rfl rfl (fun w' hS' => ?_) ?_; rotate_left; · (simp only [lookP, allP, Act.put, List.getElem?_cons_zero, List.getElem?_cons_succ, List.setIfInBounds_toArray, List.set_cons_zero, List.set_cons_succ]; (try dsimp only at hS'); go_simp; (try with_reducible rfl)))
  -- 11: call { callee := value (func 106), args := #[t16, t18, t20], argTypes := #[25, 3, 3] }
  refine chainP_call (d := (some 21)) (.int .i64 (powE gr d.y1 (-c))) rfl rfl (fun w' hS' => ?_) ?_
  · simp only [lookP, allP, Act.put, List.getElem?_cons_zero, List.getElem?_cons_succ, List.setIfInBounds_toArray, List.set_cons_zero, List.set_cons_succ]
    intro K hK
    go_simp
    go_at_call 74
    refine (impl_pow gr d.y1 (-c) _ HG.out s2 inc).mono ?_
    rintro e u ⟨rfl, hq⟩
    exact hK.out _ hq
  -- 12: buildSlice 26 2 #[(0, t15), (1, t21)]
  refine chainP_do (d := (some 22)) (fun v w => Ints w v [powE gr d.g1 z, powE gr d.y1 (-c)]) (fun v w w' hb h => Ints.below h hb) rfl rfl (fun w' hS' => ?_) ?_
  · simp only [lookP, allP, Act.put, List.getElem?_cons_zero, List.getElem?_cons_succ, List.setIfInBounds_toArray, List.set_cons_zero, List.set_cons_succ]
    intro K hK
    go_simp
    refine hK.out _ _ ((Below.refl _ _).alloc (Nat.le_refl _) _) ?_
    exact (OwnI.lit (B := w'.heap.size) w' (Nat.le_refl _) (l := [powE gr d.g1 z, powE gr d.y1 (-c)]) (AllI64.cons (small_64 (powE_small HG.out _ _)) (AllI64.cons (small_64 (powE_small HG.out _ _)) AllI64.nil)) rfl (by simp [maxLen]) 2 rfl).ints
  -- 13: call { callee := value (func 105), args := #[t10, t22], argTypes := #[25, 26] }
  refine chainP_call (d := (some 23)) (.int .i64 (mulL gr [powE gr d.g1 z, powE gr d.y1 (-c)])) rfl rfl (fun w' hS' => ?_) ?_
  · simp only [lookP, allP, Act.put, List.getElem?_cons_zero, List.getElem?_cons_succ, List.setIfInBounds_toArray, List.set_cons_zero, List.set_cons_succ]
    intro x12 hx12
    intro K hK
    go_simp
    go_at_call 155
    refine (impl_mul gr _ [powE gr d.g1 z, powE gr d.y1 (-c)] _ HG.out hx12 (AllSmall.cons (powE_small HG.out _ _) (AllSmall.cons (powE_small HG.out _ _) AllSmall.nil))).mono ?_
    rintro e u ⟨rfl, hq⟩
    exact hK.out _ hq
  iterate 5 (refine' chainP_read _ rfl rfl (fun w' hS' => ?_) ?_; rotate_left; · (simp only [lookP, allP, Act.put, List.getElem?_cons_zero, List.getElem?_cons_succ, List.setIfInBounds_toArray, List.set_cons_zero, List.set_cons_succ]; (try dsimp only at hS'); go_simp; (try with_reducible rfl)))
  -- 19: call { callee := value (func 106), args := #[t25, t27, t28], argTypes := #[25, 3, 3] }
  refine chainP_call (d := (some 29)) (.int .i64 (powE gr d.g2 z)) rfl rfl (fun w' hS' => ?_) ?_
  · simp only [lookP, allP, Act.put, List.getElem?_cons_zero, List.getElem?_cons_succ, List.setIfInBounds_toArray, List.set_cons_zero, List.set_cons_succ]
    intro K hK
    go_simp
    go_at_call 74
    refine (impl_pow gr d.g2 z _ HG.out s3 (small_64 hz)).mono ?_
    rintro e u ⟨rfl, hq⟩
    exact hK.out _ hq
  iterate 5 (refine' chainP_read _ rfl rfl (fun w' hS' => ?_) ?_; rotate_left; · (simp only [lookP, allP, Act.put, List.getElem?_cons_zero, List.getElem?_cons_succ, List.setIfInBounds_toArray, List.set_cons_zero, List.set_cons_succ]; (try dsimp only at hS'); go_simp; (try with_reducible rfl)))
  -- 25: call { callee := value (func 106), args := #[t30, t32, t34], argTypes := #[25, 3, 3] }
  refine chainP_call (d := (some 35)) (.int .i64 (powE gr d.y2 (-c))) rfl rfl (fun w' hS' => ?_) ?_
  · simp only [lookP, allP, Act.put, List.getElem?_cons_zero, List.getElem?_cons_succ, List.setIfInBounds_toArray, List.set_cons_zero, List.set_cons_succ]
    intro K hK
    go_simp
    go_at_call 74
    refine (impl_pow gr d.y2 (-c) _ HG.out s4 inc).mono ?_
    rintro e u ⟨rfl, hq⟩
    exact hK.out _ hq
  -- 26: buildSlice 26 2 #[(0, t29), (1, t35)]
  refine chainP_do (d := (some 36)) (fun v w => Ints w v [powE gr d.g2 z, powE gr d.y2 (-c)]) (fun v w w' hb h => Ints.below h hb) rfl rfl (fun w' hS' => ?_) ?_
  · simp only [lookP, allP, Act.put, List.getElem?_cons_zero, List.getElem?_cons_succ, List.setIfInBounds_toArray, List.set_cons_zero, List.set_cons_succ]
    intro K hK
    go_simp
    refine hK.out _ _ ((Below.refl _ _).alloc (Nat.le_refl _) _) ?_
    exact (OwnI.lit (B := w'.heap.size) w' (Nat.le_refl _) (l := [powE gr d.g2 z, powE gr d.y2 (-c)]) (AllI64.cons (small_64 (powE_small HG.out _ _)) (AllI64.cons (small_64 (powE_small HG.out _ _)) AllI64.nil)) rfl (by simp [maxLen]) 2 rfl).ints
  -- 27: call { callee := value (func 105), args := #[t24, t36], argTypes := #[25, 26] }
  refine chainP_call (d := (some 37)) (.int .i64 (mulL gr [powE gr d.g2 z, powE gr d.y2 (-c)])) rfl rfl (fun w' hS' => ?_) ?_
  · simp only [lookP, allP, Act.put, List.getElem?_cons_zero, List.getElem?_cons_succ, List.setIfInBounds_toArray, List.set_cons_zero, List.set_cons_succ]
    intro x26 hx26
    intro K hK
    go_simp
    go_at_call 155
    refine (impl_mul gr _ [powE gr d.g2 z, powE gr d.y2 (-c)] _ HG.out hx26 (AllSmall.cons (powE_small HG.out _ _) (AllSmall.cons (powE_small HG.out _ _) AllSmall.nil))).mono ?_
    rintro e u ⟨rfl, hq⟩
    exact hK.out _ hq
  iterate 2 (refine' chainP_read _ rfl rfl (fun w' hS' => ?_) ?_; rotate_left; · (simp only [lookP, allP, Act.put, List.getElem?_cons_zero, List.getElem?_cons_succ, List.setIfInBounds_toArray, List.set_cons_zero, List.set_cons_succ]; (try dsimp only at hS'); go_simp; (try with_reducible rfl)))
  refine chainP_nil (fun u1 hS' => ?_)
  simp only [allP, Act.put, List.setIfInBounds_toArray, List.set_cons_zero, List.set_cons_succ]
  intro x26 hx26
  intro x12 hx12
  have hq1 := hS'.1
  clear hS'
  replace hc := Below.next hc hq1
  clear hq1 c0_0 c0_1 c0_2 c1_0 c1_1 c1_2 c1_3
  obtain ⟨c0_0, c0_1, c0_2, c1_0, c1_1, c1_2, c1_3⟩ := HCC.out _ hc
  go_wp2_with fail
  refine NoPanic.normal ?_
  go_wp2_with fail
  have HV : Hid ((.tuple #[.int .i64 (smX gr d.g1 d.y1 c z), .int .i64 (smX gr d.g2 d.y2 c z)] : Value) = .tuple #[.int .i64 (mulL gr [powE gr d.g1 z, powE gr d.y1 (-c)]), .int .i64 (mulL gr [powE gr d.g2 z, powE gr d.y2 (-c)])]) := by unfold Hid; simp [smX]
  go_ret2
  exact ⟨congrArg Ending.returned HV.out.symm, HB.out.trans (hc.mono HB.out.size)⟩
set_option maxRecDepth 100000 in
set_option maxHeartbeats 2000000 in
theorem spec_xSimulate (gr : GroupD) (x y c z : Int) (w : World) (hg : OkG gr) (hx : Small x) (hy : Small y) (hc : Small c) (hz : Small z) :
    Calls Try.prog 121 #[.agg #[.int .i64 gr.p, .int .i64 gr.q, .int .i64 gr.g], .int .i64 x, .int .i64 y, .int .i64 c, .int .i64 z] w fun e w' => e = .returned (.agg #[.int .i64 (smX gr x y c z), .int .i64 c, .int .i64 z]) ∧ Below w.heap.size w w' := by
  have HG := Lib.hid hg
  clear hg
  have ewc : IntKind.i64.wrap (-c) = -c := IntWalk.i64_in _ (by have := hc.1; have := hc.2; omega)
  have inc : I64 (-c) := ⟨by have := hc.2; omega, by have := hc.1; omega⟩
  obtain ⟨W, hW⟩ : ∃ W, W = (w.alloc (.cells #[.int .i64 gr.p, .int .i64 gr.q, .int .i64 gr.g] 24)).alloc (.cells #[.int .i64 0, .int .i64 0, .int .i64 0] 40) := ⟨_, rfl⟩
  have HB : Hid (Below w.heap.size w W) := by unfold Hid; rw [hW]; (repeat (first | exact Below.refl _ _ | assumption | refine Below.drew ?_ | refine Below.alloc ?_ (by first | (simp; done) | (simp; omega)) _ | refine Below.setCell ?_ (by first | (simp; done) | (simp; omega)) _))
  have c0_0 : W.cell? ⟨w.heap.size, 0, none⟩ = some (.int .i64 gr.p) := by rw [hW]; simp [go_sem]
  have c0_1 : W.cell? ⟨w.heap.size, 1, none⟩ = some (.int .i64 gr.q) := by rw [hW]; simp [go_sem]
  have c0_2 : W.cell? ⟨w.heap.size, 2, none⟩ = some (.int .i64 gr.g) := by rw [hW]; simp [go_sem]
  have HR1 : Hid (BoxN W (w.heap.size + 1) 40 [.int .i64 0, .int .i64 0, .int .i64 0]) := by unfold Hid; rw [hW]; have h := (BoxN.new (w.alloc (.cells #[.int .i64 gr.p, .int .i64 gr.q, .int .i64 gr.g] 24)) [.int .i64 0, .int .i64 0, .int .i64 0] 40); simpa using h
  have HSW : Hid (W.heap.size = w.heap.size + 2) := by unfold Hid; rw [hW]; simp
  have lr1 : w.heap.size + 1 < W.heap.size := by have := HSW.out; omega
  go_enter Try.func121, Try.ntmps121
  go_wp2_with fail
  rw [← hW]
  have hse : w.heap.size + 1 + 1 = W.heap.size := by have := HSW.out; omega
  (try rw [hse])
  clear hse
  clear hW
  have hc : Below W.heap.size W W := Below.refl _ _
  have HCC : Hid (∀ u, Below W.heap.size W u → u.cell? ⟨w.heap.size, 0, none⟩ = some (.int .i64 gr.p) ∧ u.cell? ⟨w.heap.size, 1, none⟩ = some (.int .i64 gr.q) ∧ u.cell? ⟨w.heap.size, 2, none⟩ = some (.int .i64 gr.g)) := fun u h => ⟨box_at c0_0 h, box_at c0_1 h, box_at c0_2 h⟩
  try (go_wp2_with fail)
  refine wp_region_noPanic ?_
  refine wp_region_P (fun w' => w'.cell? ⟨w.heap.size, 0, none⟩ = some (.int .i64 gr.p) ∧ w'.cell? ⟨w.heap.size, 1, none⟩ = some (.int .i64 gr.q) ∧ w'.cell? ⟨w.heap.size, 2, none⟩ = some (.int .i64 gr.g)) 18 [(0, []), (1, []), (2, []), (3, []), (4, [2, 1, 0]), (5, []), (6, []), (7, []), (8, [0]), (9, [3, 2, 0]), (10, [5, 0]), (11, [10, 0]), (12, []), (13, []), (14, [2, 1, 0])] [15] (by kernel_rfl) (by kernel_rfl) (by kernel_rfl) rfl (fun _ _ _ _ h => h) (fun w' h => ⟨box_at c0_0 h, box_at c0_1 h, box_at c0_2 h⟩) ?_
  simp only [pickP, pickN, List.getElem?_cons_zero, List.getElem?_cons_succ]
  iterate 4 (refine' chainP_read _ rfl rfl (fun w' hS' => ?_) ?_; rotate_left; · (simp only [lookP, allP, Act.put, List.getElem?_cons_zero, List.getElem?_cons_succ, List.setIfInBounds_toArray, List.set_cons_zero, List.set_cons_succ]; (try dsimp only at hS'); go_simp; (try with_reducible rfl)))
  -- 4: call { callee := value (func 117), args := #[t12, t13, t14], argTypes := #[25, 3, 3] }
  refine chainP_call (d := (some 15)) (.int .i64 (powE gr x z)) rfl rfl (fun w' hS' => ?_) ?_
  · simp only [lookP, allP, Act.put, List.getElem?_cons_zero, List.getElem?_cons_succ, List.setIfInBounds_toArray, List.set_cons_zero, List.set_cons_succ]
    intro K hK
    go_simp
    go_at_call 80
    refine (spec_gExp gr x z _ HG.out hx (small_64 hz)).mono ?_
    rintro e u ⟨rfl, hq⟩
    exact hK.out _ hq
  iterate 4 (refine' chainP_read _ rfl rfl (fun w' hS' => ?_) ?_; rotate_left; · (simp only [lookP, allP, Act.put, List.getElem?_cons_zero, List.getElem?_cons_succ, List.setIfInBounds_toArray, List.set_cons_zero, List.set_cons_succ]; (try dsimp only at hS'); go_simp; (try with_reducible rfl)))
  -- 9: call { callee := value (func 117), args := #[t16, t17, t19], argTypes := #[25, 3, 3] }
  refine chainP_call (d := (some 20)) (.int .i64 (powE gr y (-c))) rfl rfl (fun w' hS' => ?_) ?_
  · simp only [lookP, allP, Act.put, List.getElem?_cons_zero, List.getElem?_cons_succ, List.setIfInBounds_toArray, List.set_cons_zero, List.set_cons_succ]
    intro K hK
    go_simp
    go_at_call 80
    refine (spec_gExp gr y (-c) _ HG.out hy inc).mono ?_
    rintro e u ⟨rfl, hq⟩
    exact hK.out _ hq
  -- 10: buildSlice 26 2 #[(0, t15), (1, t20)]
  refine chainP_do (d := (some 21)) (fun v w => Ints w v [powE gr x z, powE gr y (-c)]) (fun v w w' hb h => Ints.below h hb) rfl rfl (fun w' hS' => ?_) ?_
  · simp only [lookP, allP, Act.put, List.getElem?_cons_zero, List.getElem?_cons_succ, List.setIfInBounds_toArray, List.set_cons_zero, List.set_cons_succ]
    intro K hK
    go_simp
    refine hK.out _ _ ((Below.refl _ _).alloc (Nat.le_refl _) _) ?_
    exact (OwnI.lit (B := w'.heap.size) w' (Nat.le_refl _) (l := [powE gr x z, powE gr y (-c)]) (AllI64.cons (small_64 (powE_small HG.out _ _)) (AllI64.cons (small_64 (powE_small HG.out _ _)) AllI64.nil)) rfl (by simp [maxLen]) 2 rfl).ints
  -- 11: call { callee := value (func 125), args := #[t11, t21], argTypes := #[25, 26] }
  refine chainP_call (d := (some 22)) (.int .i64 (mulL gr [powE gr x z, powE gr y (-c)])) rfl rfl (fun w' hS' => ?_) ?_
  · simp only [lookP, allP, Act.put, List.getElem?_cons_zero, List.getElem?_cons_succ, List.setIfInBounds_toArray, List.set_cons_zero, List.set_cons_succ]
    intro x10 hx10
    intro K hK
    go_simp
    go_at_call 89
    refine (spec_gMul gr _ [powE gr x z, powE gr y (-c)] _ HG.out hx10 (AllSmall.cons (powE_small HG.out _ _) (AllSmall.cons (powE_small HG.out _ _) AllSmall.nil))).mono ?_
    rintro e u ⟨rfl, hq⟩
    exact hK.out _ hq
  iterate 3 (refine' chainP_read _ rfl rfl (fun w' hS' => ?_) ?_; rotate_left; · (simp only [lookP, allP, Act.put, List.getElem?_cons_zero, List.getElem?_cons_succ, List.setIfInBounds_toArray, List.set_cons_zero, List.set_cons_succ]; (try dsimp only at hS'); go_simp; (try with_reducible rfl)))
  refine chainP_nil (fun u1 hS' => ?_)
  simp only [allP, Act.put, List.setIfInBounds_toArray, List.set_cons_zero, List.set_cons_succ]
  intro x10 hx10
  have hq1 := hS'.1
  clear hS'
  replace hc := Below.next hc hq1
  clear hq1 c0_0 c0_1 c0_2
  obtain ⟨c0_0, c0_1, c0_2⟩ := HCC.out _ hc
  have HRE1 := Lib.hid (HR1.out.below hc)
  clear HR1
  have HBE := Lib.hid (HB.out.trans (hc.mono HB.out.size))
  have r1_0 := HRE1.out.cell (i := 0) rfl
  have r1_1 := HRE1.out.cell (i := 1) rfl
  have r1_2 := HRE1.out.cell (i := 2) rfl
  have fr1 := fun j => HRE1.out.frozen j
  go_wp2_with fail
  refine NoPanic.normal ?_
  have HRF := Lib.hid (((HRE1.out.set 0 (.int .i64 (mulL gr [powE gr x z, powE gr y (-c)]))).set 1 (.int .i64 c)).set 2 (.int .i64 z))
  have HBF := Lib.hid (((HBE.out.setCell (p := ⟨w.heap.size + 1, 0, none⟩) (by show w.heap.size ≤ w.heap.size + 1; omega) (.int .i64 (mulL gr [powE gr x z, powE gr y (-c)]))).setCell (p := ⟨w.heap.size + 1, 1, none⟩) (by show w.heap.size ≤ w.heap.size + 1; omega) (.int .i64 c)).setCell (p := ⟨w.heap.size + 1, 2, none⟩) (by show w.heap.size ≤ w.heap.size + 1; omega) (.int .i64 z))
  clear r1_0 r1_1 r1_2 fr1
  have r1_0 := HRF.out.cell (i := 0) rfl
  have r1_1 := HRF.out.cell (i := 1) rfl
  have r1_2 := HRF.out.cell (i := 2) rfl
  try (go_wp2_with fail)
  have HV : Hid ((.agg #[.int .i64 (smX gr x y c z), .int .i64 c, .int .i64 z] : Value) = .agg #[.int .i64 (mulL gr [powE gr x z, powE gr y (-c)]), .int .i64 c, .int .i64 z]) := by unfold Hid; simp [smX]
  refine bodyPost_ret (v := .agg #[.int .i64 (mulL gr [powE gr x z, powE gr y (-c)]), .int .i64 c, .int .i64 z]) (by simp [results, Try.results121, go_sem, r1_0, r1_1, r1_2]) rfl ⟨congrArg Ending.returned HV.out.symm, HBF.out⟩
theorem mul_boundX {a b : Int} (h1 : 0 ≤ a) (h2 : a ≤ 2000000000) (h3 : 0 ≤ b) (h4 : b ≤ 2000000000) : 0 ≤ a * b ∧ a * b ≤ 4000000000000000000 :=
  ⟨Int.mul_nonneg h1 h3, by have := Int.mul_le_mul h2 h4 h3 (by omega : (0 : Int) ≤ 2000000000); omega⟩
set_option maxRecDepth 100000 in
set_option maxHeartbeats 2000000 in
theorem impl_extracted (gr : GroupD) (c z k y : Int) (w : World) (hg : OkG gr) (hc : expB gr c = true) (hz : expB gr z = true) (hk : expB gr k = true) (hy : expB gr y = true) (hne : c ≠ k) :
    Calls Try.prog 117 #[.agg #[.int .i64 gr.p, .int .i64 gr.q, .int .i64 gr.g], .int .i64 c, .int .i64 z, .int .i64 k, .int .i64 y] w fun e w' => e = .returned (.int .i64 (exX gr.q c z k y)) ∧ Below w.heap.size w w' := by
  have HG := Lib.hid hg
  clear hg
  have HD := Lib.hid (diff_pos HG.out hc hk hne)
  obtain ⟨c1, c2⟩ := expB_bd hc
  obtain ⟨z1, z2⟩ := expB_bd hz
  obtain ⟨k1, k2⟩ := expB_bd hk
  obtain ⟨y1, y2⟩ := expB_bd hy
  have zq1 := HG.out.q1
  have zq2 := HG.out.q2
  have zp2 := HG.out.p2
  have zq3 : gr.q ≤ 2000000000 := by omega
  have zq0 : 0 < gr.q := by omega
  have zq4 : gr.q ≤ 4000000000 := by omega
  have ew1 : IntKind.i64.wrap (z - y) = z - y := IntWalk.i64_in _ (by omega)
  have ew2 : IntKind.i64.wrap (c - k) = c - k := IntWalk.i64_in _ (by omega)
  have i1 : I64 (z - y) := ⟨by omega, by omega⟩
  have i2 : I64 (c - k) := ⟨by omega, by omega⟩
  obtain ⟨V, hV⟩ : ∃ V, invQ ((c - k) % gr.q) gr.q = V := ⟨_, rfl⟩
  have hv := (invQ_is HG.out.qp HD.out.1 HD.out.2).1
  rw [hV] at hv
  obtain ⟨v1, v2⟩ := hv
  have HVV := Lib.hid hV
  obtain ⟨A, hA⟩ : ∃ A, (z - y) % gr.q = A := ⟨_, rfl⟩
  have a1 : 0 ≤ A := by rw [← hA]; exact Int.emod_nonneg _ (by omega)
  have a2 : A < gr.q := by rw [← hA]; exact Int.emod_lt_of_pos _ (by omega)
  have HA := Lib.hid hA
  obtain ⟨m1, m2⟩ := mul_boundX a1 (show A ≤ 2000000000 by omega) v1 (show V ≤ 2000000000 by omega)
  have ew3 : IntKind.i64.wrap (A * V) = A * V := IntWalk.i64_in _ (by omega)
  have i3 : I64 (A * V) := ⟨by omega, by omega⟩
  have HX : Hid (exX gr.q c z k y = A * V % gr.q) := by unfold Hid exX; rw [HA.out, HVV.out]
  rw [HX.out]
  have et1 : Int.tmod (A * V) gr.q = A * V % gr.q := Int.tmod_eq_emod_of_nonneg m1
  have ew4 : IntKind.i64.wrap (A * V % gr.q) = A * V % gr.q := IntWalk.i64_in _ (by have := Int.emod_nonneg (A * V) (show gr.q ≠ 0 by omega); have := Int.emod_lt_of_pos (A * V) zq0; omega)
  have hqz : ¬ gr.q = 0 := by omega
  have hqz2 : (gr.q == 0) = false := by rw [beq_eq_false_iff_ne]; omega
  clear hA hV hc hz hk hy hne m1 m2
  obtain ⟨W, hW⟩ : ∃ W, W = w.alloc (.cells #[.int .i64 gr.p, .int .i64 gr.q, .int .i64 gr.g] 24) := ⟨_, rfl⟩
  have HB : Hid (Below w.heap.size w W) := by unfold Hid; rw [hW]; (repeat (first | exact Below.refl _ _ | assumption | refine Below.drew ?_ | refine Below.alloc ?_ (by first | (simp; done) | (simp; omega)) _ | refine Below.setCell ?_ (by first | (simp; done) | (simp; omega)) _))
  have c0_0 : W.cell? ⟨w.heap.size, 0, none⟩ = some (.int .i64 gr.p) := by rw [hW]; simp [go_sem]
  have c0_1 : W.cell? ⟨w.heap.size, 1, none⟩ = some (.int .i64 gr.q) := by rw [hW]; simp [go_sem]
  have c0_2 : W.cell? ⟨w.heap.size, 2, none⟩ = some (.int .i64 gr.g) := by rw [hW]; simp [go_sem]
  have HSW : Hid (W.heap.size = w.heap.size + 1) := by unfold Hid; rw [hW]; simp
  go_enter Try.func117, Try.ntmps117
  go_wp2_with fail
  rw [← hW]
  have hse : w.heap.size + 1 = W.heap.size := by have := HSW.out; omega
  (try rw [hse])
  clear hse
  clear hW
  have hc : Below W.heap.size W W := Below.refl _ _
  have HCC : Hid (∀ u, Below W.heap.size W u → u.cell? ⟨w.heap.size, 0, none⟩ = some (.int .i64 gr.p) ∧ u.cell? ⟨w.heap.size, 1, none⟩ = some (.int .i64 gr.q) ∧ u.cell? ⟨w.heap.size, 2, none⟩ = some (.int .i64 gr.g)) := fun u h => ⟨box_at c0_0 h, box_at c0_1 h, box_at c0_2 h⟩
  try (go_wp2_with fail)
  refine wp_region_noPanic ?_
  refine wp_region_P (fun w' => w'.cell? ⟨w.heap.size, 0, none⟩ = some (.int .i64 gr.p) ∧ w'.cell? ⟨w.heap.size, 1, none⟩ = some (.int .i64 gr.q) ∧ w'.cell? ⟨w.heap.size, 2, none⟩ = some (.int .i64 gr.g)) 19 [(0, []), (1, []), (2, []), (3, []), (4, [1, 0]), (5, [3, 0]), (6, []), (7, []), (8, []), (9, [1, 0]), (10, [3, 0]), (11, []), (12, [0]), (13, [2, 0]), (14, [8, 0]), (15, [14, 0]), (16, [0])] [] (by kernel_rfl) (by kernel_rfl) (by kernel_rfl) rfl (fun _ _ _ _ h => h) (fun w' h => ⟨box_at c0_0 h, box_at c0_1 h, box_at c0_2 h⟩) ?_
  simp only [pickP, pickN, List.getElem?_cons_zero, List.getElem?_cons_succ]
  iterate 5 (refine' chainP_read _ rfl rfl (fun w' hS' => ?_) ?_; rotate_left; · (simp only [lookP, allP, Act.put, List.getElem?_cons_zero, List.getElem?_cons_succ, List.setIfInBounds_toArray, List.set_cons_zero, List.set_cons_succ]; (try dsimp only at hS'); go_simp; (try with_reducible rfl)))
  -- 5: call { callee := value (func 103), args := #[t12, t15], argTypes := #[25, 3] }
  refine chainP_call (d := (some 16)) (.int .i64 A) rfl rfl (fun w' hS' => ?_) ?_
  · simp only [lookP, allP, Act.put, List.getElem?_cons_zero, List.getElem?_cons_succ, List.setIfInBounds_toArray, List.set_cons_zero, List.set_cons_succ]
    intro K hK
    go_simp
    go_at_call 75
    refine (impl_exp gr (z - y) _ HG.out i1).mono ?_
    rintro e u ⟨rfl, hq⟩
    rw [HA.out]
    exact hK.out _ hq
  iterate 4 (refine' chainP_read _ rfl rfl (fun w' hS' => ?_) ?_; rotate_left; · (simp only [lookP, allP, Act.put, List.getElem?_cons_zero, List.getElem?_cons_succ, List.setIfInBounds_toArray, List.set_cons_zero, List.set_cons_succ]; (try dsimp only at hS'); go_simp; (try with_reducible rfl)))
  -- 10: call { callee := value (func 103), args := #[t17, t20], argTypes := #[25, 3] }
  refine chainP_call (d := (some 21)) (.int .i64 ((c - k) % gr.q)) rfl rfl (fun w' hS' => ?_) ?_
  · simp only [lookP, allP, Act.put, List.getElem?_cons_zero, List.getElem?_cons_succ, List.setIfInBounds_toArray, List.set_cons_zero, List.set_cons_succ]
    intro K hK
    go_simp
    go_at_call 75
    refine (impl_exp gr (c - k) _ HG.out i2).mono ?_
    rintro e u ⟨rfl, hq⟩
    exact hK.out _ hq
  iterate 2 (refine' chainP_read _ rfl rfl (fun w' hS' => ?_) ?_; rotate_left; · (simp only [lookP, allP, Act.put, List.getElem?_cons_zero, List.getElem?_cons_succ, List.setIfInBounds_toArray, List.set_cons_zero, List.set_cons_succ]; (try dsimp only at hS'); go_simp; (try with_reducible rfl)))
  -- 13: call { callee := value (func 251), args := #[t21, t23], argTypes := #[3, 3] }
  refine chainP_call (d := (some 24)) (.int .i64 V) rfl rfl (fun w' hS' => ?_) ?_
  · simp only [lookP, allP, Act.put, List.getElem?_cons_zero, List.getElem?_cons_succ, List.setIfInBounds_toArray, List.set_cons_zero, List.set_cons_succ]
    intro K hK
    go_simp
    go_at_call 200
    refine (impl_inverse ((c - k) % gr.q) gr.q _ HG.out.qp HD.out.1 HD.out.2 zq3).mono ?_
    rintro e u ⟨rfl, rfl⟩
    rw [HVV.out]
    exact hK.out _ (Below.refl _ _)
  -- 14: binOp Binmul 3 t16 t24 3
  refine' chainP_read (d := (some 25)) _ rfl rfl (fun w' hS' => ?_) ?_; rotate_left
  · simp only [lookP, allP, Act.put, List.getElem?_cons_zero, List.getElem?_cons_succ, List.setIfInBounds_toArray, List.set_cons_zero, List.set_cons_succ]
    (try dsimp only at hS')
    go_simp
    (try with_reducible rfl)
  -- 15: call { callee := value (func 103), args := #[t11, t25], argTypes := #[25, 3] }
  refine chainP_call (d := (some 26)) (.int .i64 (A * V % gr.q)) rfl rfl (fun w' hS' => ?_) ?_
  · simp only [lookP, allP, Act.put, List.getElem?_cons_zero, List.getElem?_cons_succ, List.setIfInBounds_toArray, List.set_cons_zero, List.set_cons_succ]
    intro K hK
    go_simp
    go_at_call 75
    refine (impl_exp gr (A * V) _ HG.out i3).mono ?_
    rintro e u ⟨rfl, hq⟩
    exact hK.out _ hq
  -- 16: assign t26
  refine' chainP_read (d := (some 10)) _ rfl rfl (fun w' hS' => ?_) ?_; rotate_left
  · simp only [lookP, allP, Act.put, List.getElem?_cons_zero, List.getElem?_cons_succ, List.setIfInBounds_toArray, List.set_cons_zero, List.set_cons_succ]
    (try dsimp only at hS')
    go_simp
    (try with_reducible rfl)
  refine chainP_nil (fun u1 hS' => ?_)
  simp only [allP, Act.put, List.setIfInBounds_toArray, List.set_cons_zero, List.set_cons_succ]
  have hq1 := hS'.1
  clear hS'
  replace hc := Below.next hc hq1
  clear hq1 c0_0 c0_1 c0_2
  obtain ⟨c0_0, c0_1, c0_2⟩ := HCC.out _ hc
  go_wp2_with fail
  refine NoPanic.normal ?_
  go_wp2_with fail
  go_ret
  exact ⟨rfl, HB.out.trans (hc.mono HB.out.size)⟩
set_option maxRecDepth 100000 in
set_option maxHeartbeats 2000000 in
theorem spec_xSlope (gr : GroupD) (c z k y : Int) (w : World) (hg : OkG gr) (hc : expB gr c = true) (hz : expB gr z = true) (hk : expB gr k = true) (hy : expB gr y = true) (hne : c ≠ k) :
    Calls Try.prog 120 #[.agg #[.int .i64 gr.p, .int .i64 gr.q, .int .i64 gr.g], .int .i64 z, .int .i64 y, .int .i64 c, .int .i64 k] w fun e w' => e = .returned (.int .i64 (exX gr.q c z k y)) ∧ Below w.heap.size w w' := by
  have HG := Lib.hid hg
  clear hg
  have HD := Lib.hid (diff_pos HG.out hc hk hne)
  obtain ⟨c1, c2⟩ := expB_bd hc
  obtain ⟨z1, z2⟩ := expB_bd hz
  obtain ⟨k1, k2⟩ := expB_bd hk
  obtain ⟨y1, y2⟩ := expB_bd hy
  have zq1 := HG.out.q1
  have zq2 := HG.out.q2
  have zp2 := HG.out.p2
  have zq3 : gr.q ≤ 2000000000 := by omega
  have zq0 : 0 < gr.q := by omega
  have zq4 : gr.q ≤ 4000000000 := by omega
  have ew1 : IntKind.i64.wrap (z - y) = z - y := IntWalk.i64_in _ (by omega)
  have ew2 : IntKind.i64.wrap (c - k) = c - k := IntWalk.i64_in _ (by omega)
  have i1 : I64 (z - y) := ⟨by omega, by omega⟩
  have i2 : I64 (c - k) := ⟨by omega, by omega⟩
  obtain ⟨V, hV⟩ : ∃ V, invQ ((c - k) % gr.q) gr.q = V := ⟨_, rfl⟩
  have hv := (invQ_is HG.out.qp HD.out.1 HD.out.2).1
  rw [hV] at hv
  obtain ⟨v1, v2⟩ := hv
  have HVV := Lib.hid hV
  obtain ⟨A, hA⟩ : ∃ A, (z - y) % gr.q = A := ⟨_, rfl⟩
  have a1 : 0 ≤ A := by rw [← hA]; exact Int.emod_nonneg _ (by omega)
  have a2 : A < gr.q := by rw [← hA]; exact Int.emod_lt_of_pos _ (by omega)
  have HA := Lib.hid hA
  obtain ⟨m1, m2⟩ := mul_boundX a1 (show A ≤ 2000000000 by omega) v1 (show V ≤ 2000000000 by omega)
  have ew3 : IntKind.i64.wrap (A * V) = A * V := IntWalk.i64_in _ (by omega)
  have i3 : I64 (A * V) := ⟨by omega, by omega⟩
  have HX : Hid (exX gr.q c z k y = A * V % gr.q) := by unfold Hid exX; rw [HA.out, HVV.out]
  rw [HX.out]
  have et1 : Int.tmod (A * V) gr.q = A * V % gr.q := Int.tmod_eq_emod_of_nonneg m1
  have ew4 : IntKind.i64.wrap (A * V % gr.q) = A * V % gr.q := IntWalk.i64_in _ (by have := Int.emod_nonneg (A * V) (show gr.q ≠ 0 by omega); have := Int.emod_lt_of_pos (A * V) zq0; omega)
  have hqz : ¬ gr.q = 0 := by omega
  have hqz2 : (gr.q == 0) = false := by rw [beq_eq_false_iff_ne]; omega
  clear hA hV hc hz hk hy hne m1 m2
  obtain ⟨W, hW⟩ : ∃ W, W = w.alloc (.cells #[.int .i64 gr.p, .int .i64 gr.q, .int .i64 gr.g] 24) := ⟨_, rfl⟩
  have HB : Hid (Below w.heap.size w W) := by unfold Hid; rw [hW]; (repeat (first | exact Below.refl _ _ | assumption | refine Below.drew ?_ | refine Below.alloc ?_ (by first | (simp; done) | (simp; omega)) _ | refine Below.setCell ?_ (by first | (simp; done) | (simp; omega)) _))
  have c0_0 : W.cell? ⟨w.heap.size, 0, none⟩ = some (.int .i64 gr.p) := by rw [hW]; simp [go_sem]
  have c0_1 : W.cell? ⟨w.heap.size, 1, none⟩ = some (.int .i64 gr.q) := by rw [hW]; simp [go_sem]
  have c0_2 : W.cell? ⟨w.heap.size, 2, none⟩ = some (.int .i64 gr.g) := by rw [hW]; simp [go_sem]
  have HSW : Hid (W.heap.size = w.heap.size + 1) := by unfold Hid; rw [hW]; simp
  go_enter Try.func120, Try.ntmps120
  go_wp2_with fail
  rw [← hW]
  have hse : w.heap.size + 1 = W.heap.size := by have := HSW.out; omega
  (try rw [hse])
  clear hse
  clear hW
  have hc : Below W.heap.size W W := Below.refl _ _
  have HCC : Hid (∀ u, Below W.heap.size W u → u.cell? ⟨w.heap.size, 0, none⟩ = some (.int .i64 gr.p) ∧ u.cell? ⟨w.heap.size, 1, none⟩ = some (.int .i64 gr.q) ∧ u.cell? ⟨w.heap.size, 2, none⟩ = some (.int .i64 gr.g)) := fun u h => ⟨box_at c0_0 h, box_at c0_1 h, box_at c0_2 h⟩
  go_wp2_with fail
  refine (spec_nInverse (c - k) gr.q _ HG.out.qp i2 HD.out.1 zq3).mono ?_
  rintro e u1 ⟨rfl, rfl⟩
  rw [HVV.out]
  try (go_wp2_with fail)
  refine wp_region_noPanic ?_
  refine wp_region_P (fun w' => w'.cell? ⟨w.heap.size, 0, none⟩ = some (.int .i64 gr.p) ∧ w'.cell? ⟨w.heap.size, 1, none⟩ = some (.int .i64 gr.q) ∧ w'.cell? ⟨w.heap.size, 2, none⟩ = some (.int .i64 gr.g)) 14 [(0, []), (1, []), (2, [1, 0]), (3, []), (4, [0]), (5, [2, 0]), (6, []), (7, [1, 0]), (8, []), (9, [0]), (10, [2, 0]), (11, [0])] [] (by kernel_rfl) (by kernel_rfl) (by kernel_rfl) rfl (fun _ _ _ _ h => h) (fun w' h => ⟨box_at c0_0 h, box_at c0_1 h, box_at c0_2 h⟩) ?_
  simp only [pickP, pickN, List.getElem?_cons_zero, List.getElem?_cons_succ]
  iterate 5 (refine' chainP_read _ rfl rfl (fun w' hS' => ?_) ?_; rotate_left; · (simp only [lookP, allP, Act.put, List.getElem?_cons_zero, List.getElem?_cons_succ, List.setIfInBounds_toArray, List.set_cons_zero, List.set_cons_succ]; (try dsimp only at hS'); go_simp; (try with_reducible rfl)))
  -- 5: call { callee := value (func 104), args := #[t24, t26], argTypes := #[3, 3] }
  refine chainP_call (d := (some 27)) (.int .i64 A) rfl rfl (fun w' hS' => ?_) ?_
  · simp only [lookP, allP, Act.put, List.getElem?_cons_zero, List.getElem?_cons_succ, List.setIfInBounds_toArray, List.set_cons_zero, List.set_cons_succ]
    intro K hK
    go_simp
    go_at_call 114
    refine (spec_nMod (z - y) gr.q _ i1 zq0 zq4).mono ?_
    rintro e u ⟨rfl, rfl⟩
    rw [HA.out]
    exact hK.out _ (Below.refl _ _)
  iterate 6 (refine' chainP_read _ rfl rfl (fun w' hS' => ?_) ?_; rotate_left; · (simp only [lookP, allP, Act.put, List.getElem?_cons_zero, List.getElem?_cons_succ, List.setIfInBounds_toArray, List.set_cons_zero, List.set_cons_succ]; (try dsimp only at hS'); go_simp; (try with_reducible rfl)))
  refine chainP_nil (fun u2 hS' => ?_)
  simp only [allP, Act.put, List.setIfInBounds_toArray, List.set_cons_zero, List.set_cons_succ]
  have hq2 := hS'.1
  clear hS'
  replace hc := Below.next hc hq2
  clear hq2 c0_0 c0_1 c0_2
  obtain ⟨c0_0, c0_1, c0_2⟩ := HCC.out _ hc
  go_wp2_with fail
  refine NoPanic.normal ?_
  go_wp2_with fail
  go_ret
  exact ⟨rfl, HB.out.trans (hc.mono HB.out.size)⟩
noncomputable def itB (gr : GroupD) (d : EqualLogD) (s : Int) : Bool := goodG gr && (eqEl gr d && expB gr s)
noncomputable def itR (gr : GroupD) (d : EqualLogD) (s : Int) : Bool := itB gr d s && eqTrue gr d s
noncomputable def seB (gr : GroupD) (d : EqualLogD) (c z : Int) : Bool := goodG gr && (eqEl gr d && (expB gr c && expB gr z))
noncomputable def seX (gr : GroupD) (d : EqualLogD) (c z : Int) : Int := if seB gr d c z = true then smX gr d.g1 d.y1 c z else 0
noncomputable def seY (gr : GroupD) (d : EqualLogD) (c z : Int) : Int := if seB gr d c z = true then smX gr d.g2 d.y2 c z else 0
theorem expB_small {gr : GroupD} (hg : OkG gr) {x : Int} (h : expB gr x = true) : Small x := by
  obtain ⟨h1, h2⟩ := expB_bd h
  have := hg.q2; have := hg.p2
  exact ⟨by omega, by omega⟩
set_option maxRecDepth 100000 in
set_option maxHeartbeats 2000000 in
theorem impl_IsTrueEqual (gr : GroupD) (d : EqualLogD) (s : Int) (w : World) (he : (I64 d.g1 ∧ I64 d.y1) ∧ (I64 d.g2 ∧ I64 d.y2)) (hs : I64 s) :
    Calls Try.prog 16 #[.agg #[.int .i64 gr.p, .int .i64 gr.q, .int .i64 gr.g], .agg #[.int .i64 d.g1, .int .i64 d.y1, .int .i64 d.g2, .int .i64 d.y2], .int .i64 s] w fun e w' => e = .returned (.tuple #[.bool (itR gr d s), .bool (itB gr d s)]) ∧ Below w.heap.size w w' := by
  have HI := Lib.hid he
  clear he
  obtain ⟨W, hW⟩ : ∃ W, W = (w.alloc (.cells #[.int .i64 gr.p, .int .i64 gr.q, .int .i64 gr.g] 24)).alloc (.cells #[.int .i64 d.g1, .int .i64 d.y1, .int .i64 d.g2, .int .i64 d.y2] 31) := ⟨_, rfl⟩
  have HB : Hid (Below w.heap.size w W) := by unfold Hid; rw [hW]; (repeat (first | exact Below.refl _ _ | assumption | refine Below.drew ?_ | refine Below.alloc ?_ (by first | (simp; done) | (simp; omega)) _ | refine Below.setCell ?_ (by first | (simp; done) | (simp; omega)) _))
  have c0_0 : W.cell? ⟨w.heap.size, 0, none⟩ = some (.int .i64 gr.p) := by rw [hW]; simp [go_sem]
  have c0_1 : W.cell? ⟨w.heap.size, 1, none⟩ = some (.int .i64 gr.q) := by rw [hW]; simp [go_sem]
  have c0_2 : W.cell? ⟨w.heap.size, 2, none⟩ = some (.int .i64 gr.g) := by rw [hW]; simp [go_sem]
  have c1_0 : W.cell? ⟨w.heap.size + 1, 0, none⟩ = some (.int .i64 d.g1) := by rw [hW]; simp [go_sem]
  have c1_1 : W.cell? ⟨w.heap.size + 1, 1, none⟩ = some (.int .i64 d.y1) := by rw [hW]; simp [go_sem]
  have c1_2 : W.cell? ⟨w.heap.size + 1, 2, none⟩ = some (.int .i64 d.g2) := by rw [hW]; simp [go_sem]
  have c1_3 : W.cell? ⟨w.heap.size + 1, 3, none⟩ = some (.int .i64 d.y2) := by rw [hW]; simp [go_sem]
  have HSW : Hid (W.heap.size = w.heap.size + 2) := by unfold Hid; rw [hW]; simp
  go_enter Try.func16, Try.ntmps16
  go_wp2_with fail
  rw [← hW]
  have hse : w.heap.size + 1 + 1 = W.heap.size := by have := HSW.out; omega
  (try rw [hse])
  clear hse
  clear hW
  have hc : Below W.heap.size W W := Below.refl _ _
  have HCC : Hid (∀ u, Below W.heap.size W u → u.cell? ⟨w.heap.size, 0, none⟩ = some (.int .i64 gr.p) ∧ u.cell? ⟨w.heap.size, 1, none⟩ = some (.int .i64 gr.q) ∧ u.cell? ⟨w.heap.size, 2, none⟩ = some (.int .i64 gr.g) ∧ u.cell? ⟨w.heap.size + 1, 0, none⟩ = some (.int .i64 d.g1) ∧ u.cell? ⟨w.heap.size + 1, 1, none⟩ = some (.int .i64 d.y1) ∧ u.cell? ⟨w.heap.size + 1, 2, none⟩ = some (.int .i64 d.g2) ∧ u.cell? ⟨w.heap.size + 1, 3, none⟩ = some (.int .i64 d.y2)) := fun u h => ⟨box_at c0_0 h, box_at c0_1 h, box_at c0_2 h, box_at c1_0 h, box_at c1_1 h, box_at c1_2 h, box_at c1_3 h⟩
  go_wp2_with fail
  refine (impl_IsValidGroup gr _).mono ?_
  rintro e u1 ⟨rfl, hq1⟩
  replace hc := Below.next hc hq1
  clear hq1 c0_0 c0_1 c0_2 c1_0 c1_1 c1_2 c1_3
  obtain ⟨c0_0, c0_1, c0_2, c1_0, c1_1, c1_2, c1_3⟩ := HCC.out _ hc
  cases hc1 : goodG gr with
  | false =>
    have Hhc1 := Lib.hid hc1
    clear hc1
    go_wp2_with fail
    have HV : Hid ((.tuple #[.bool (itR gr d s), .bool (itB gr d s)] : Value) = .tuple #[.bool false, .bool false]) := by unfold Hid; simp [itR, itB, Hhc1.out]
    go_ret2
    exact ⟨congrArg Ending.returned HV.out.symm, HB.out.trans (hc.mono HB.out.size)⟩
  | true =>
    have HG := Lib.hid (goodG_ok hc1)
    have Hhc1 := Lib.hid hc1
    clear hc1
    go_wp2_with fail
    refine (impl_hasEqual gr d _ HG.out HI.out).mono ?_
    rintro e u2 ⟨rfl, hq2⟩
    replace hc := Below.next hc hq2
    clear hq2 c0_0 c0_1 c0_2 c1_0 c1_1 c1_2 c1_3
    obtain ⟨c0_0, c0_1, c0_2, c1_0, c1_1, c1_2, c1_3⟩ := HCC.out _ hc
    cases hc2 : eqEl gr d with
    | false =>
      have Hhc2 := Lib.hid hc2
      clear hc2
      go_wp2_with fail
      have HV : Hid ((.tuple #[.bool (itR gr d s), .bool (itB gr d s)] : Value) = .tuple #[.bool false, .bool false]) := by unfold Hid; simp [itR, itB, Hhc1.out, Hhc2.out]
      go_ret2
      exact ⟨congrArg Ending.returned HV.out.symm, HB.out.trans (hc.mono HB.out.size)⟩
    | true =>
      have HEE : Hid (eqEl gr d = true) := hc2
      have Hhc2 := Lib.hid hc2
      clear hc2
      go_wp2_with fail
      refine (impl_isExp gr s _ HG.out).mono ?_
      rintro e u3 ⟨rfl, hq3⟩
      replace hc := Below.next hc hq3
      clear hq3 c0_0 c0_1 c0_2 c1_0 c1_1 c1_2 c1_3
      obtain ⟨c0_0, c0_1, c0_2, c1_0, c1_1, c1_2, c1_3⟩ := HCC.out _ hc
      cases hc3 : expB gr s with
      | false =>
        have Hhc3 := Lib.hid hc3
        clear hc3
        go_wp2_with fail
        have HV : Hid ((.tuple #[.bool (itR gr d s), .bool (itB gr d s)] : Value) = .tuple #[.bool false, .bool false]) := by unfold Hid; simp [itR, itB, Hhc1.out, Hhc2.out, Hhc3.out]
        go_ret2
        exact ⟨congrArg Ending.returned HV.out.symm, HB.out.trans (hc.mono HB.out.size)⟩
      | true =>
        have HSS := Lib.hid (expB_small HG.out hc3)
        have Hhc3 := Lib.hid hc3
        clear hc3
        go_wp2_with fail
        refine (impl_isTrue gr d s _ HG.out HEE.out HSS.out).mono ?_
        rintro e u4 ⟨rfl, hq4⟩
        replace hc := Below.next hc hq4
        clear hq4 c0_0 c0_1 c0_2 c1_0 c1_1 c1_2 c1_3
        obtain ⟨c0_0, c0_1, c0_2, c1_0, c1_1, c1_2, c1_3⟩ := HCC.out _ hc
        cases hc4 : eqTrue gr d s with
        | false =>
          have Hhc4 := Lib.hid hc4
          clear hc4
          go_wp2_with fail
          have HV : Hid ((.tuple #[.bool (itR gr d s), .bool (itB gr d s)] : Value) = .tuple #[.bool false, .bool true]) := by unfold Hid; simp [itR, itB, Hhc1.out, Hhc2.out, Hhc3.out, Hhc4.out]
          go_ret2
          exact ⟨congrArg Ending.returned HV.out.symm, HB.out.trans (hc.mono HB.out.size)⟩
        | true =>
          have Hhc4 := Lib.hid hc4
          clear hc4
          go_wp2_with fail
          have HV : Hid ((.tuple #[.bool (itR gr d s), .bool (itB gr d s)] : Value) = .tuple #[.bool true, .bool true]) := by unfold Hid; simp [itR, itB, Hhc1.out, Hhc2.out, Hhc3.out, Hhc4.out]
          go_ret2
          exact ⟨congrArg Ending.returned HV.out.symm, HB.out.trans (hc.mono HB.out.size)⟩
theorem field58 (a b c : Int) (u : World) : (Instr.field 40 (.agg #[.int .i64 a, .int .i64 b, .int .i64 c]) 0).run Try.prog u = .ok (.int .i64 a) u := by kernel_rfl
set_option maxRecDepth 100000 in
set_option maxHeartbeats 2000000 in
theorem impl_SimulateEqual (gr : GroupD) (d : EqualLogD) (c z : Int) (w : World) (he : (I64 d.g1 ∧ I64 d.y1) ∧ (I64 d.g2 ∧ I64 d.y2)) (ic : I64 c) (iz : I64 z) :
    Calls Try.prog 30 #[.agg #[.int .i64 gr.p, .int .i64 gr.q, .int .i64 gr.g], .agg #[.int .i64 d.g1, .int .i64 d.y1, .int .i64 d.g2, .int .i64 d.y2], .int .i64 c, .int .i64 z] w fun e w' => e = .returned (.tuple #[.int .i64 (seX gr d c z), .int .i64 (seY gr d c z), .bool (seB gr d c z)]) ∧ Below w.heap.size w w' := by
  have HI := Lib.hid he
  clear he
  obtain ⟨W, hW⟩ : ∃ W, W = (w.alloc (.cells #[.int .i64 gr.p, .int .i64 gr.q, .int .i64 gr.g] 24)).alloc (.cells #[.int .i64 d.g1, .int .i64 d.y1, .int .i64 d.g2, .int .i64 d.y2] 31) := ⟨_, rfl⟩
  have HB : Hid (Below w.heap.size w W) := by unfold Hid; rw [hW]; (repeat (first | exact Below.refl _ _ | assumption | refine Below.drew ?_ | refine Below.alloc ?_ (by first | (simp; done) | (simp; omega)) _ | refine Below.setCell ?_ (by first | (simp; done) | (simp; omega)) _))
  have c0_0 : W.cell? ⟨w.heap.size, 0, none⟩ = some (.int .i64 gr.p) := by rw [hW]; simp [go_sem]
  have c0_1 : W.cell? ⟨w.heap.size, 1, none⟩ = some (.int .i64 gr.q) := by rw [hW]; simp [go_sem]
  have c0_2 : W.cell? ⟨w.heap.size, 2, none⟩ = some (.int .i64 gr.g) := by rw [hW]; simp [go_sem]
  have c1_0 : W.cell? ⟨w.heap.size + 1, 0, none⟩ = some (.int .i64 d.g1) := by rw [hW]; simp [go_sem]
  have c1_1 : W.cell? ⟨w.heap.size + 1, 1, none⟩ = some (.int .i64 d.y1) := by rw [hW]; simp [go_sem]
  have c1_2 : W.cell? ⟨w.heap.size + 1, 2, none⟩ = some (.int .i64 d.g2) := by rw [hW]; simp [go_sem]
  have c1_3 : W.cell? ⟨w.heap.size + 1, 3, none⟩ = some (.int .i64 d.y2) := by rw [hW]; simp [go_sem]
  have HSW : Hid (W.heap.size = w.heap.size + 2) := by unfold Hid; rw [hW]; simp
  go_enter Try.func30, Try.ntmps30
  go_wp2_with fail
  rw [← hW]
  have hse : w.heap.size + 1 + 1 = W.heap.size := by have := HSW.out; omega
  (try rw [hse])
  clear hse
  clear hW
  have hc : Below W.heap.size W W := Below.refl _ _
  have HCC : Hid (∀ u, Below W.heap.size W u → u.cell? ⟨w.heap.size, 0, none⟩ = some (.int .i64 gr.p) ∧ u.cell? ⟨w.heap.size, 1, none⟩ = some (.int .i64 gr.q) ∧ u.cell? ⟨w.heap.size, 2, none⟩ = some (.int .i64 gr.g) ∧ u.cell? ⟨w.heap.size + 1, 0, none⟩ = some (.int .i64 d.g1) ∧ u.cell? ⟨w.heap.size + 1, 1, none⟩ = some (.int .i64 d.y1) ∧ u.cell? ⟨w.heap.size + 1, 2, none⟩ = some (.int .i64 d.g2) ∧ u.cell? ⟨w.heap.size + 1, 3, none⟩ = some (.int .i64 d.y2)) := fun u h => ⟨box_at c0_0 h, box_at c0_1 h, box_at c0_2 h, box_at c1_0 h, box_at c1_1 h, box_at c1_2 h, box_at c1_3 h⟩
  go_wp2_with fail
  refine (impl_IsValidGroup gr _).mono ?_
  rintro e u1 ⟨rfl, hq1⟩
  replace hc := Below.next hc hq1
  clear hq1 c0_0 c0_1 c0_2 c1_0 c1_1 c1_2 c1_3
  obtain ⟨c0_0, c0_1, c0_2, c1_0, c1_1, c1_2, c1_3⟩ := HCC.out _ hc
  cases hc1 : goodG gr with
  | false =>
    have Hhc1 := Lib.hid hc1
    clear hc1
    go_wp2_with fail
    have HVB : Hid (seB gr d c z = false) := by unfold Hid; simp [seB, Hhc1.out]
    have HPX : Hid (seX gr d c z = 0 ∧ seY gr d c z = 0) := by unfold Hid seX seY; rw [if_neg (by rw [HVB.out]; simp), if_neg (by rw [HVB.out]; simp)]; exact ⟨rfl, rfl⟩
    go_ret3
    exact ⟨by rw [HVB.out, HPX.out.1, HPX.out.2]; rfl, HB.out.trans (hc.mono HB.out.size)⟩
  | true =>
    have HG := Lib.hid (goodG_ok hc1)
    have HGD : Hid (goodG gr = true) := hc1
    have Hhc1 := Lib.hid hc1
    clear hc1
    go_wp2_with fail
    refine (impl_hasEqual gr d _ HG.out HI.out).mono ?_
    rintro e u2 ⟨rfl, hq2⟩
    replace hc := Below.next hc hq2
    clear hq2 c0_0 c0_1 c0_2 c1_0 c1_1 c1_2 c1_3
    obtain ⟨c0_0, c0_1, c0_2, c1_0, c1_1, c1_2, c1_3⟩ := HCC.out _ hc
    cases hc2 : eqEl gr d with
    | false =>
      have Hhc2 := Lib.hid hc2
      clear hc2
      go_wp2_with fail
      have HVB : Hid (seB gr d c z = false) := by unfold Hid; simp [seB, Hhc1.out, Hhc2.out]
      have HPX : Hid (seX gr d c z = 0 ∧ seY gr d c z = 0) := by unfold Hid seX seY; rw [if_neg (by rw [HVB.out]; simp), if_neg (by rw [HVB.out]; simp)]; exact ⟨rfl, rfl⟩
      go_ret3
      exact ⟨by rw [HVB.out, HPX.out.1, HPX.out.2]; rfl, HB.out.trans (hc.mono HB.out.size)⟩
    | true =>
      have HEE : Hid (eqEl gr d = true) := hc2
      have HEE4 := Lib.hid (eqEl_small HG.out HEE.out)
      have Hhc2 := Lib.hid hc2
      clear hc2
      go_wp2_with fail
      refine (impl_areExps gr _ [c, z] _ HG.out (OwnI.lit (B := 0) _ (Nat.zero_le _) (l := [c, z]) (AllI64.cons ic (AllI64.cons iz AllI64.nil)) rfl (by simp [maxLen]) 2 rfl).ints).mono ?_
      rintro e u3 ⟨rfl, hq3⟩
      replace hq3 := Below.next (keep_al (Below.refl _ _) _) hq3
      replace hc := Below.next hc hq3
      clear hq3 c0_0 c0_1 c0_2 c1_0 c1_1 c1_2 c1_3
      obtain ⟨c0_0, c0_1, c0_2, c1_0, c1_1, c1_2, c1_3⟩ := HCC.out _ hc
      cases hc3 : [c, z].all (expB gr) with
      | false =>
        have Hhc3 := Lib.hid hc3
        clear hc3
        go_wp2_with fail
        have HVB : Hid (seB gr d c z = false) := by unfold Hid; have qhc3 := Hhc3.out; simp only [List.all_cons, List.all_nil, Bool.and_true] at qhc3; simp [seB, Hhc1.out, Hhc2.out, qhc3]
        have HPX : Hid (seX gr d c z = 0 ∧ seY gr d c z = 0) := by unfold Hid seX seY; rw [if_neg (by rw [HVB.out]; simp), if_neg (by rw [HVB.out]; simp)]; exact ⟨rfl, rfl⟩
        go_ret3
        exact ⟨by rw [HVB.out, HPX.out.1, HPX.out.2]; rfl, HB.out.trans (hc.mono HB.out.size)⟩
      | true =>
        have HCZ : Hid (expB gr c = true ∧ expB gr z = true) := by have q := hc3; unfold Hid; simpa using q
        have HCC2 := Lib.hid (expB_small HG.out HCZ.out.1)
        have HZZ := Lib.hid (expB_small HG.out HCZ.out.2)
        have HSE : Hid (seB gr d c z = true) := by unfold Hid seB; rw [HGD.out, HEE.out, HCZ.out.1, HCZ.out.2]; rfl
        have Hhc3 := Lib.hid hc3
        clear hc3
        go_wp2_with fail
        refine (impl_simulated gr d c z _ HG.out HEE.out HCC2.out HZZ.out).mono ?_
        rintro e u4 ⟨rfl, hq4⟩
        replace hc := Below.next hc hq4
        clear hq4 c0_0 c0_1 c0_2 c1_0 c1_1 c1_2 c1_3
        obtain ⟨c0_0, c0_1, c0_2, c1_0, c1_1, c1_2, c1_3⟩ := HCC.out _ hc
        go_wp2_with fail
        have HVB : Hid (seB gr d c z = true) := by unfold Hid; have qhc3 := Hhc3.out; simp only [List.all_cons, List.all_nil, Bool.and_true] at qhc3; simp [seB, Hhc1.out, Hhc2.out, qhc3]
        have HPX : Hid (seX gr d c z = smX gr d.g1 d.y1 c z ∧ seY gr d c z = smX gr d.g2 d.y2 c z) := by unfold Hid seX seY; rw [if_pos HVB.out, if_pos HVB.out]; exact ⟨rfl, rfl⟩
        go_ret3
        exact ⟨by rw [HVB.out, HPX.out.1, HPX.out.2]; rfl, HB.out.trans (hc.mono HB.out.size)⟩
set_option maxRecDepth 100000 in
set_option maxHeartbeats 2000000 in
theorem spec_SimulateEqual (gr : GroupD) (d : EqualLogD) (c z : Int) (w : World) (he : (I64 d.g1 ∧ I64 d.y1) ∧ (I64 d.g2 ∧ I64 d.y2)) (ic : I64 c) (iz : I64 z) :
    Calls Try.prog 31 #[.agg #[.int .i64 gr.p, .int .i64 gr.q, .int .i64 gr.g], .agg #[.int .i64 d.g1, .int .i64 d.y1, .int .i64 d.g2, .int .i64 d.y2], .int .i64 c, .int .i64 z] w fun e w' => e = .returned (.tuple #[.int .i64 (seX gr d c z), .int .i64 (seY gr d c z), .bool (seB gr d c z)]) ∧ Below w.heap.size w w' := by
  have HI := Lib.hid he
  clear he
  have hfl : ∀ (a b c : Int) (u : World), (Instr.field 40 (.agg #[.int .i64 a, .int .i64 b, .int .i64 c]) 0).run Try.prog u = .ok (.int .i64 a) u := fun a b c u => field58 a b c u
  obtain ⟨W, hW⟩ : ∃ W, W = (w.alloc (.cells #[.int .i64 gr.p, .int .i64 gr.q, .int .i64 gr.g] 24)).alloc (.cells #[.int .i64 d.g1, .int .i64 d.y1, .int .i64 d.g2, .int .i64 d.y2] 31) := ⟨_, rfl⟩
  have HB : Hid (Below w.heap.size w W) := by unfold Hid; rw [hW]; (repeat (first | exact Below.refl _ _ | assumption | refine Below.drew ?_ | refine Below.alloc ?_ (by first | (simp; done) | (simp; omega)) _ | refine Below.setCell ?_ (by first | (simp; done) | (simp; omega)) _))
  have c0_0 : W.cell? ⟨w.heap.size, 0, none⟩ = some (.int .i64 gr.p) := by rw [hW]; simp [go_sem]
  have c0_1 : W.cell? ⟨w.heap.size, 1, none⟩ = some (.int .i64 gr.q) := by rw [hW]; simp [go_sem]
  have c0_2 : W.cell? ⟨w.heap.size, 2, none⟩ = some (.int .i64 gr.g) := by rw [hW]; simp [go_sem]
  have c1_0 : W.cell? ⟨w.heap.size + 1, 0, none⟩ = some (.int .i64 d.g1) := by rw [hW]; simp [go_sem]
  have c1_1 : W.cell? ⟨w.heap.size + 1, 1, none⟩ = some (.int .i64 d.y1) := by rw [hW]; simp [go_sem]
  have c1_2 : W.cell? ⟨w.heap.size + 1, 2, none⟩ = some (.int .i64 d.g2) := by rw [hW]; simp [go_sem]
  have c1_3 : W.cell? ⟨w.heap.size + 1, 3, none⟩ = some (.int .i64 d.y2) := by rw [hW]; simp [go_sem]
  have HSW : Hid (W.heap.size = w.heap.size + 2) := by unfold Hid; rw [hW]; simp
  go_enter Try.func31, Try.ntmps31
  go_wp2_with fail
  rw [← hW]
  have hse : w.heap.size + 1 + 1 = W.heap.size := by have := HSW.out; omega
  (try rw [hse])
  clear hse
  clear hW
  have hc : Below W.heap.size W W := Below.refl _ _
  have HCC : Hid (∀ u, Below W.heap.size W u → u.cell? ⟨w.heap.size, 0, none⟩ = some (.int .i64 gr.p) ∧ u.cell? ⟨w.heap.size, 1, none⟩ = some (.int .i64 gr.q) ∧ u.cell? ⟨w.heap.size, 2, none⟩ = some (.int .i64 gr.g) ∧ u.cell? ⟨w.heap.size + 1, 0, none⟩ = some (.int .i64 d.g1) ∧ u.cell? ⟨w.heap.size + 1, 1, none⟩ = some (.int .i64 d.y1) ∧ u.cell? ⟨w.heap.size + 1, 2, none⟩ = some (.int .i64 d.g2) ∧ u.cell? ⟨w.heap.size + 1, 3, none⟩ = some (.int .i64 d.y2)) := fun u h => ⟨box_at c0_0 h, box_at c0_1 h, box_at c0_2 h, box_at c1_0 h, box_at c1_1 h, box_at c1_2 h, box_at c1_3 h⟩
  go_wp2_with fail
  refine (spec_l2Good gr _).mono ?_
  rintro e u1 ⟨rfl, hq1⟩
  replace hc := Below.next hc hq1
  clear hq1 c0_0 c0_1 c0_2 c1_0 c1_1 c1_2 c1_3
  obtain ⟨c0_0, c0_1, c0_2, c1_0, c1_1, c1_2, c1_3⟩ := HCC.out _ hc
  cases hc1 : goodG gr with
  | false =>
    have Hhc1 := Lib.hid hc1
    clear hc1
    go_wp2_with fail
    have HVB : Hid (seB gr d c z = false) := by unfold Hid; simp [seB, Hhc1.out]
    have HPX : Hid (seX gr d c z = 0 ∧ seY gr d c z = 0) := by unfold Hid seX seY; rw [if_neg (by rw [HVB.out]; simp), if_neg (by rw [HVB.out]; simp)]; exact ⟨rfl, rfl⟩
    go_ret3
    exact ⟨by rw [HVB.out, HPX.out.1, HPX.out.2]; rfl, HB.out.trans (hc.mono HB.out.size)⟩
  | true =>
    have HG := Lib.hid (goodG_ok hc1)
    have HGD : Hid (goodG gr = true) := hc1
    have Hhc1 := Lib.hid hc1
    clear hc1
    go_wp2_with fail
    refine (spec_sElements gr d _ HG.out HI.out).mono ?_
    rintro e u2 ⟨rfl, hq2⟩
    replace hc := Below.next hc hq2
    clear hq2 c0_0 c0_1 c0_2 c1_0 c1_1 c1_2 c1_3
    obtain ⟨c0_0, c0_1, c0_2, c1_0, c1_1, c1_2, c1_3⟩ := HCC.out _ hc
    cases hc2 : eqEl gr d with
    | false =>
      have Hhc2 := Lib.hid hc2
      clear hc2
      go_wp2_with fail
      have HVB : Hid (seB gr d c z = false) := by unfold Hid; simp [seB, Hhc1.out, Hhc2.out]
      have HPX : Hid (seX gr d c z = 0 ∧ seY gr d c z = 0) := by unfold Hid seX seY; rw [if_neg (by rw [HVB.out]; simp), if_neg (by rw [HVB.out]; simp)]; exact ⟨rfl, rfl⟩
      go_ret3
      exact ⟨by rw [HVB.out, HPX.out.1, HPX.out.2]; rfl, HB.out.trans (hc.mono HB.out.size)⟩
    | true =>
      have HEE : Hid (eqEl gr d = true) := hc2
      have HEE4 := Lib.hid (eqEl_small HG.out HEE.out)
      have Hhc2 := Lib.hid hc2
      clear hc2
      go_wp2_with fail
      refine (spec_gExps gr _ [c, z] _ HG.out (OwnI.lit (B := 0) _ (Nat.zero_le _) (l := [c, z]) (AllI64.cons ic (AllI64.cons iz AllI64.nil)) rfl (by simp [maxLen]) 2 rfl).ints).mono ?_
      rintro e u3 ⟨rfl, hq3⟩
      replace hq3 := Below.next (keep_al (Below.refl _ _) _) hq3
      replace hc := Below.next hc hq3
      clear hq3 c0_0 c0_1 c0_2 c1_0 c1_1 c1_2 c1_3
      obtain ⟨c0_0, c0_1, c0_2, c1_0, c1_1, c1_2, c1_3⟩ := HCC.out _ hc
      cases hc3 : [c, z].all (expB gr) with
      | false =>
        have Hhc3 := Lib.hid hc3
        clear hc3
        go_wp2_with fail
        have HVB : Hid (seB gr d c z = false) := by unfold Hid; have qhc3 := Hhc3.out; simp only [List.all_cons, List.all_nil, Bool.and_true] at qhc3; simp [seB, Hhc1.out, Hhc2.out, qhc3]
        have HPX : Hid (seX gr d c z = 0 ∧ seY gr d c z = 0) := by unfold Hid seX seY; rw [if_neg (by rw [HVB.out]; simp), if_neg (by rw [HVB.out]; simp)]; exact ⟨rfl, rfl⟩
        go_ret3
        exact ⟨by rw [HVB.out, HPX.out.1, HPX.out.2]; rfl, HB.out.trans (hc.mono HB.out.size)⟩
      | true =>
        have HCZ : Hid (expB gr c = true ∧ expB gr z = true) := by have q := hc3; unfold Hid; simpa using q
        have HCC2 := Lib.hid (expB_small HG.out HCZ.out.1)
        have HZZ := Lib.hid (expB_small HG.out HCZ.out.2)
        have HSE : Hid (seB gr d c z = true) := by unfold Hid seB; rw [HGD.out, HEE.out, HCZ.out.1, HCZ.out.2]; rfl
        have Hhc3 := Lib.hid hc3
        clear hc3
        try (go_wp2_with fail)
        refine wp_region_noPanic ?_
        refine wp_region_P (fun w' => w'.cell? ⟨w.heap.size, 0, none⟩ = some (.int .i64 gr.p) ∧ w'.cell? ⟨w.heap.size, 1, none⟩ = some (.int .i64 gr.q) ∧ w'.cell? ⟨w.heap.size, 2, none⟩ = some (.int .i64 gr.g) ∧ w'.cell? ⟨w.heap.size + 1, 0, none⟩ = some (.int .i64 d.g1) ∧ w'.cell? ⟨w.heap.size + 1, 1, none⟩ = some (.int .i64 d.y1) ∧ w'.cell? ⟨w.heap.size + 1, 2, none⟩ = some (.int .i64 d.g2) ∧ w'.cell? ⟨w.heap.size + 1, 3, none⟩ = some (.int .i64 d.y2)) 23 [(0, []), (1, []), (2, [0]), (3, []), (4, [0]), (5, []), (6, []), (7, [6, 4, 2, 1, 0]), (8, [0]), (9, []), (10, []), (11, [0]), (12, []), (13, [0]), (14, []), (15, []), (16, [6, 4, 2, 1, 0]), (17, [0]), (18, [9]), (19, [1]), (20, [])] [] (by kernel_rfl) (by kernel_rfl) (by kernel_rfl) rfl (fun _ _ _ _ h => h) (fun w' h => ⟨box_at c0_0 h, box_at c0_1 h, box_at c0_2 h, box_at c1_0 h, box_at c1_1 h, box_at c1_2 h, box_at c1_3 h⟩) ?_
        simp only [pickP, pickN, List.getElem?_cons_zero, List.getElem?_cons_succ]
        iterate 7 (refine' chainP_read _ rfl rfl (fun w' hS' => ?_) ?_; rotate_left; · (simp only [lookP, allP, Act.put, List.getElem?_cons_zero, List.getElem?_cons_succ, List.setIfInBounds_toArray, List.set_cons_zero, List.set_cons_succ]; (try dsimp only at hS'); go_simp; (try with_reducible rfl)))
        -- 7: call { callee := value (func 160), args := #[t28, t30, t32, t33, t34], argTypes := #[25, 3, 3, 3, 3] }
        refine chainP_call (d := (some 35)) (.agg #[.int .i64 (smX gr d.g1 d.y1 c z), .int .i64 c, .int .i64 z]) rfl rfl (fun w' hS' => ?_) ?_
        · simp only [lookP, allP, Act.put, List.getElem?_cons_zero, List.getElem?_cons_succ, List.setIfInBounds_toArray, List.set_cons_zero, List.set_cons_succ]
          intro K hK
          go_simp
          go_at_call 121
          refine (spec_xSimulate gr d.g1 d.y1 c z _ HG.out HEE4.out.1 HEE4.out.2.1 HCC2.out HZZ.out).mono ?_
          rintro e u ⟨rfl, hq⟩
          exact hK.out _ hq
        iterate 8 (refine' chainP_read _ rfl rfl (fun w' hS' => ?_) ?_; rotate_left; · (simp only [lookP, allP, Act.put, List.getElem?_cons_zero, List.getElem?_cons_succ, List.setIfInBounds_toArray, List.set_cons_zero, List.set_cons_succ]; (try dsimp only at hS'); go_simp; (try with_reducible rfl)))
        -- 16: call { callee := value (func 160), args := #[t37, t39, t41, t42, t43], argTypes := #[25, 3, 3, 3, 3] }
        refine chainP_call (d := (some 44)) (.agg #[.int .i64 (smX gr d.g2 d.y2 c z), .int .i64 c, .int .i64 z]) rfl rfl (fun w' hS' => ?_) ?_
        · simp only [lookP, allP, Act.put, List.getElem?_cons_zero, List.getElem?_cons_succ, List.setIfInBounds_toArray, List.set_cons_zero, List.set_cons_succ]
          intro K hK
          go_simp
          go_at_call 121
          refine (spec_xSimulate gr d.g2 d.y2 c z _ HG.out HEE4.out.2.2.1 HEE4.out.2.2.2 HCC2.out HZZ.out).mono ?_
          rintro e u ⟨rfl, hq⟩
          exact hK.out _ hq
        iterate 4 (refine' chainP_read _ rfl rfl (fun w' hS' => ?_) ?_; rotate_left; · (simp only [lookP, allP, Act.put, List.getElem?_cons_zero, List.getElem?_cons_succ, List.setIfInBounds_toArray, List.set_cons_zero, List.set_cons_succ]; (try dsimp only at hS'); go_simp; (try with_reducible rfl)))
        refine chainP_nil (fun u4 hS' => ?_)
        simp only [allP, Act.put, List.setIfInBounds_toArray, List.set_cons_zero, List.set_cons_succ]
        have hq4 := hS'.1
        clear hS'
        replace hc := Below.next hc hq4
        clear hq4 c0_0 c0_1 c0_2 c1_0 c1_1 c1_2 c1_3
        obtain ⟨c0_0, c0_1, c0_2, c1_0, c1_1, c1_2, c1_3⟩ := HCC.out _ hc
        go_wp2_with fail
        refine NoPanic.normal ?_
        go_wp2_with fail
        have HVB : Hid (seB gr d c z = true) := by unfold Hid; have qhc3 := Hhc3.out; simp only [List.all_cons, List.all_nil, Bool.and_true] at qhc3; simp [seB, Hhc1.out, Hhc2.out, qhc3]
        have HPX : Hid (seX gr d c z = smX gr d.g1 d.y1 c z ∧ seY gr d c z = smX gr d.g2 d.y2 c z) := by unfold Hid seX seY; rw [if_pos HVB.out, if_pos HVB.out]; exact ⟨rfl, rfl⟩
        go_ret3
        exact ⟨by rw [HVB.out, HPX.out.1, HPX.out.2]; rfl, HB.out.trans (hc.mono HB.out.size)⟩
theorem stB_any (gr : GroupD) (l : List EqualLogD) : (l.any fun e => !eqEl gr e) = !(l.all (eqEl gr)) := by
  induction l with
  | nil => rfl
  | cons a l ih => simp only [List.any_cons, List.all_cons, ih, Bool.not_and]
set_option maxHeartbeats 1000000 in
theorem impl_areStatements1 (gr : GroupD) (v : Value) (d : EqualLogD) (b : Nat) (w : World) (hg : OkG gr) (h : (kS rEqualLog).rd w v d) (hx : BoxN w b 24 [.int .i64 gr.p, .int .i64 gr.q, .int .i64 gr.g]) :
    Calls Try.prog 197 #[v, .pointer (some ⟨b, 0, none⟩)] w fun e w' => e = .returned (.bool (!eqEl gr d)) ∧ Below w.heap.size w w' := by
  obtain ⟨q, hq⟩ : ∃ q, eqEl gr d = q := ⟨_, rfl⟩
  have HQ := Lib.hid hq
  have HG := Lib.hid hg
  rw [hq]; clear hq hg
  obtain ⟨rfl, j0, j1, j2, j3⟩ := rdEqualLog.1 h
  have HJ : Hid ((I64 d.g1 ∧ I64 d.y1) ∧ (I64 d.g2 ∧ I64 d.y2)) := ⟨⟨j0, j1⟩, ⟨j2, j3⟩⟩
  clear h j0 j1 j2 j3
  obtain ⟨W, hW⟩ : ∃ W, W = w.alloc (.cells #[.int .i64 d.g1, .int .i64 d.y1, .int .i64 d.g2, .int .i64 d.y2] 31) := ⟨_, rfl⟩
  have HB : Hid (Below w.heap.size w W) := by unfold Hid; rw [hW]; (repeat (first | exact Below.refl _ _ | assumption | refine Below.drew ?_ | refine Below.alloc ?_ (by first | (simp; done) | (simp; omega)) _ | refine Below.setCell ?_ (by first | (simp; done) | (simp; omega)) _))
  have c0 := box_at (hx.cell (i := 0) rfl) HB.out
  have c1 := box_at (hx.cell (i := 1) rfl) HB.out
  have c2 := box_at (hx.cell (i := 2) rfl) HB.out
  have hlt := hx.lt
  have e0 := hx.cell (i := 0) rfl
  have e1 := hx.cell (i := 1) rfl
  have e2 := hx.cell (i := 2) rfl
  clear hx
  have d0 : W.cell? ⟨w.heap.size, 0, none⟩ = some (.int .i64 d.g1) := by rw [hW]; simp [go_sem]
  have d1 : W.cell? ⟨w.heap.size, 1, none⟩ = some (.int .i64 d.y1) := by rw [hW]; simp [go_sem]
  have d2 : W.cell? ⟨w.heap.size, 2, none⟩ = some (.int .i64 d.g2) := by rw [hW]; simp [go_sem]
  have d3 : W.cell? ⟨w.heap.size, 3, none⟩ = some (.int .i64 d.y2) := by rw [hW]; simp [go_sem]
  go_enter Try.func197, Try.ntmps197
  go_wp2_with fail
  rw [← hW]
  clear hW
  (try (go_wp2_with fail))
  refine (impl_hasEqual gr d _ HG.out HJ.out).mono ?_
  rintro e w1 ⟨rfl, hb1⟩
  rw [HQ.out]
  go_wp2_with fail
  go_ret
  exact ⟨rfl, HB.out.trans (hb1.mono HB.out.size)⟩
set_option maxHeartbeats 1000000 in
theorem impl_areStatements (gr : GroupD) (v : Value) (l : List EqualLogD) (w : World) (hg : OkG gr) (h : RdR rEqualLog w v l) :
    Calls Try.prog 100 #[.agg #[.int .i64 gr.p, .int .i64 gr.q, .int .i64 gr.g], v] w fun e w' => e = .returned (.bool (stB gr l)) ∧ Below w.heap.size w w' := by
  obtain ⟨a, n, c, rfl⟩ := h.shape
  have e := h.len
  have HG := Lib.hid hg
  obtain ⟨W, hW⟩ : ∃ W, W = w.alloc (.cells #[.int .i64 gr.p, .int .i64 gr.q, .int .i64 gr.g] 24) := ⟨_, rfl⟩
  have HB : Hid (Below w.heap.size w W) := by unfold Hid; rw [hW]; (repeat (first | exact Below.refl _ _ | assumption | refine Below.drew ?_ | refine Below.alloc ?_ (by first | (simp; done) | (simp; omega)) _ | refine Below.setCell ?_ (by first | (simp; done) | (simp; omega)) _))
  have HX : Hid (BoxN W w.heap.size 24 [.int .i64 gr.p, .int .i64 gr.q, .int .i64 gr.g]) := by unfold Hid; rw [hW]; exact BoxN.new w _ _
  have H : Hid (RdR rEqualLog W (.slice a n c) l) := h.below HB.out
  clear h
  have HD : Hid (DecidesS rEqualLog W 197 #[.pointer (some ⟨w.heap.size, 0, none⟩)] (fun d => !eqEl gr d)) :=
    ⟨Try.call197, fun v d wr hx hb => impl_areStatements1 gr v d _ wr HG.out hx (HX.out.below hb)⟩
  by_cases hn : 1 ≤ n ∧ n ≤ 8
  · have HR : Hid (stB gr l = !(l.any fun d => !eqEl gr d)) := by unfold Hid stB; rw [stB_any, decide_eq_true (by omega)]; simp
    have H1 : Hid (decide ((1 : Int) ≤ (n : Int) ∧ (n : Int) ≤ 8) = true) := decide_eq_true (by omega)
    obtain ⟨q, hq⟩ : ∃ q, (l.any fun d => !eqEl gr d) = q := ⟨_, rfl⟩
    have HQ := Lib.hid hq
    rw [hq] at HR; clear hq e hg
    go_enter Try.func100, Try.ntmps100
    go_wp2_with fail
    rw [← hW]
    clear hW
    refine (impl_within _ _ _ _).mono ?_
    rintro e w1 ⟨rfl, rfl⟩
    rw [H1.out]
    go_wp2_with fail
    refine (slices_ContainsFuncEqualLog _ l _ _ (fun d => !eqEl gr d) _ H.out HD.out).mono ?_
    rintro e w1 ⟨rfl, hb⟩
    rw [HQ.out]
    go_wp2_with fail
    go_ret
    exact ⟨ret_bool (by first | (rw [HR.out]; done) | (rw [HR.out]; rfl) | exact HR.out.symm), HB.out.trans (hb.mono HB.out.size)⟩
  · have HR : Hid (stB gr l = false) := by unfold Hid stB; rw [decide_eq_false (by omega)]; rfl
    have H1 : Hid (decide ((1 : Int) ≤ (n : Int) ∧ (n : Int) ≤ 8) = false) := decide_eq_false (by omega)
    clear e hg
    go_enter Try.func100, Try.ntmps100
    go_wp2_with fail
    rw [← hW]
    clear hW
    refine (impl_within _ _ _ _).mono ?_
    rintro e w1 ⟨rfl, rfl⟩
    rw [H1.out]
    go_wp2_with fail
    go_ret
    exact ⟨ret_bool (by first | (rw [HR.out]; done) | (rw [HR.out]; rfl) | exact HR.out.symm), HB.out⟩
set_option maxRecDepth 100000 in
set_option maxHeartbeats 2000000 in
theorem spec_sAll (gr : GroupD) (v : Value) (l : List EqualLogD) (w : World) (hg : OkG gr) (h : RdR rEqualLog w v l) :
    Calls Try.prog 106 #[.agg #[.int .i64 gr.p, .int .i64 gr.q, .int .i64 gr.g], v] w fun e w' => e = .returned (.bool (stB gr l)) ∧ Below w.heap.size w w' := by
  have HG := Lib.hid hg; clear hg
  obtain ⟨a, n, c, rfl⟩ := h.shape
  have e := h.len
  obtain ⟨k1, k2⟩ := h.capMax
  unfold maxLen at k2
  have HE := Lib.hid e
  have H := Lib.hid h; clear h e
  obtain ⟨W, hW⟩ : ∃ W, W = w.alloc (.cells #[.int .i64 gr.p, .int .i64 gr.q, .int .i64 gr.g] 24) := ⟨_, rfl⟩
  have HB : Hid (Below w.heap.size w W) := by unfold Hid; rw [hW]; (repeat (first | exact Below.refl _ _ | assumption | refine Below.drew ?_ | refine Below.alloc ?_ (by first | (simp; done) | (simp; omega)) _ | refine Below.setCell ?_ (by first | (simp; done) | (simp; omega)) _))
  have HX : Hid (BoxN W w.heap.size 24 [.int .i64 gr.p, .int .i64 gr.q, .int .i64 gr.g]) := by unfold Hid; rw [hW]; exact BoxN.new w _ _
  go_enter Try.func106, Try.ntmps106
  go_wp2_with fail
  rw [← hW]
  clear hW
  (try (go_wp2_with fail))
  go_loopg [9] n (fun gk iv wr => ∃ k : Nat, k + gk = n ∧ iv = .int .i64 (k : Int) ∧ Hid ((l.take k).all (eqEl gr) = true) ∧ Below W.heap.size W wr)
  case atStart => exact ⟨0, by omega, rfl, rfl, Below.refl _ _⟩
  case round =>
    obtain ⟨k, hkg, rfl, HALL, hbr⟩ := hrel
    have hb := HB.out.trans (hbr.mono HB.out.size)
    have HBR := Lib.hid hbr
    have hgl : k < n → n - (k + 1) < gk := by omega
    have HKG := Lib.hid hkg
    clear hkg
    by_cases hlt : k < n
    · have HK : Hid (k < l.length) := by unfold Hid; rw [HE.out]; exact hlt
      have HT := Lib.hid (List.take_succ_eq_append_getElem HK.out)
      have HM := Lib.hid (List.getElem_mem HK.out)
      obtain ⟨b_d, o_d, rfl, hcx⟩ := H.out.at_ (by omega)
      obtain ⟨us, hcell, hrd⟩ := hcx k HK.out
      clear hcx
      generalize l[k]'HK.out = d at hrd HT HM
      obtain ⟨ers, jd_0, jd_1, jd_2, jd_3⟩ := rdEqualLog.1 ⟨us, rfl, hrd⟩
      obtain rfl : us = [.int .i64 d.g1, .int .i64 d.y1, .int .i64 d.g2, .int .i64 d.y2] := by have h := Value.agg.inj ers; simpa using congrArg Array.toList h
      clear ers hrd
      have y_d_0 : wr.cell? ⟨b_d, o_d + k * 4, none⟩ = some (.int .i64 d.g1) := box_at (hcell 0 (by decide)) hb
      have y_d_1 : wr.cell? ⟨b_d, o_d + k * 4 + 1, none⟩ = some (.int .i64 d.y1) := box_at (hcell 1 (by decide)) hb
      have y_d_2 : wr.cell? ⟨b_d, o_d + k * 4 + 2, none⟩ = some (.int .i64 d.g2) := box_at (hcell 2 (by decide)) hb
      have y_d_3 : wr.cell? ⟨b_d, o_d + k * 4 + 3, none⟩ = some (.int .i64 d.y2) := box_at (hcell 3 (by decide)) hb
      clear hcell
      have HR_d := Lib.hid ((kS rEqualLog).rd_below (rdEqualLog.2 ⟨rfl, jd_0, jd_1, jd_2, jd_3⟩ : (kS rEqualLog).rd w (.agg #[.int .i64 d.g1, .int .i64 d.y1, .int .i64 d.g2, .int .i64 d.y2]) d) hb)
      have J_d_0 := Lib.hid jd_0
      have J_d_1 := Lib.hid jd_1
      have J_d_2 := Lib.hid jd_2
      have J_d_3 := Lib.hid jd_3
      clear jd_0 jd_1 jd_2 jd_3
      have x0 := (HX.out.below HBR.out).cell (i := 0) rfl
      have x1 := (HX.out.below HBR.out).cell (i := 1) rfl
      have x2 := (HX.out.below HBR.out).cell (i := 2) rfl
      have hlx := (HX.out.below HBR.out).lt
      have hly := World.block_lt_of_cell? wr _ y_d_0
      go_wp2_with fail
      obtain ⟨V, hV⟩ : ∃ V, V = wr.alloc (.cells #[.int .i64 d.g1, .int .i64 d.y1, .int .i64 d.g2, .int .i64 d.y2] 31) := ⟨_, rfl⟩
      rw [← hV]
      have HV : Hid (Below wr.heap.size wr V) := by unfold Hid; rw [hV]; exact (Below.refl _ _).alloc (Nat.le_refl _) _
      have hsV : V.heap.size = wr.heap.size + 1 := by rw [hV]; simp
      have x_d_0 : V.cell? ⟨wr.heap.size, 0, none⟩ = some (.int .i64 d.g1) := by rw [hV]; simp [go_sem]
      have x_d_1 : V.cell? ⟨wr.heap.size, 1, none⟩ = some (.int .i64 d.y1) := by rw [hV]; simp [go_sem]
      have x_d_2 : V.cell? ⟨wr.heap.size, 2, none⟩ = some (.int .i64 d.g2) := by rw [hV]; simp [go_sem]
      have x_d_3 : V.cell? ⟨wr.heap.size, 3, none⟩ = some (.int .i64 d.y2) := by rw [hV]; simp [go_sem]
      have HRV_d := Lib.hid ((kS rEqualLog).rd_below HR_d.out HV.out)
      clear hV
      have z0 := box_at x0 HV.out
      have z1 := box_at x1 HV.out
      have z2 := box_at x2 HV.out
      clear x0 x1 x2 y_d_0 y_d_1 y_d_2 y_d_3
      go_wp2_with fail
      refine (spec_sElements gr d _ HG.out ⟨⟨J_d_0.out, J_d_1.out⟩, ⟨J_d_2.out, J_d_3.out⟩⟩).mono ?_
      rintro ee w1 ⟨rfl, hb1⟩
      have HB1 := Lib.hid (Below.next (Below.next HBR.out HV.out) hb1)
      clear hb1
      cases hq : eqEl gr d with
      | false =>
        have HN : Hid (stB gr l = false) := by
          unfold Hid stB
          have : l.all (eqEl gr) = false := by rw [List.all_eq_false]; exact ⟨d, HM.out, by rw [hq]; simp⟩
          rw [this, Bool.and_false]
        clear hq
        go_wp2_with fail
        go_ret
        exact ⟨ret_bool HN.out.symm, HB.out.trans (HB1.out.mono HB.out.size)⟩
      | true =>
        have HQ := Lib.hid hq
        clear hq
        go_wp2_with fail
        go_roundg (n - (k + 1))
        case measure => exact hgl hlt
        case rel => exact ⟨k + 1, by have := HKG.out; omega, by go_num, by unfold Hid; rw [HT.out, List.all_append, HALL.out]; simp [HQ.out], HB1.out⟩
    · have HAL : Hid (l.all (eqEl gr) = true) := by
        unfold Hid
        have := HALL.out
        rwa [List.take_of_length_le (by have := HE.out; omega)] at this
      obtain ⟨q, hq⟩ : ∃ q, decide ((1 : Int) ≤ (n : Int) ∧ (n : Int) ≤ 8) = q := ⟨_, rfl⟩
      have HQ := Lib.hid hq
      have HN : Hid (stB gr l = q) := by
        unfold Hid stB
        rw [HAL.out, Bool.and_true, ← hq, decide_eq_decide]
        have := HE.out; omega
      clear hq
      go_wp2_with fail
      refine (spec_l1In _ _ _ _).mono ?_
      rintro ee w1 ⟨rfl, rfl⟩
      rw [HQ.out]
      go_wp2_with fail
      go_ret
      exact ⟨ret_bool HN.out.symm, hb⟩
theorem ooL_succ {l : List EqualLogD} {k : Nat} (h : k < l.length) : ooL (l.take (k + 1)) = ooL (l.take k) ++ [l[k].g1, l[k].y1, l[k].g2, l[k].y2] := by
  unfold ooL; rw [List.take_succ_eq_append_getElem h, List.flatMap_append]; simp
theorem ooL_len (l : List EqualLogD) : (ooL l).length = 4 * l.length := by
  induction l with
  | nil => rfl
  | cons a l ih => unfold ooL at ih ⊢; rw [List.flatMap_cons, List.length_append, ih]; simp; omega
theorem ooL_small {gr : GroupD} (hg : OkG gr) {l : List EqualLogD} (h : l.all (eqEl gr) = true) : AllSmall (ooL l) := fun x hx => by
  unfold ooL at hx
  obtain ⟨e, he, hx⟩ := List.mem_flatMap.1 hx
  obtain ⟨h1, h2, h3, h4⟩ := eqEl_small hg (List.all_eq_true.1 h e he)
  simp only [List.mem_cons, List.not_mem_nil, or_false] at hx
  rcases hx with rfl | rfl | rfl | rfl <;> assumption
theorem do_append_intsH {o : Oper} {a : Act} {w : World} {K : Act → World → Prop} {Q : Exit → Act → World → Prop} (s x : Operand)
    (ho : o.op = .call { callee := .builtin .append, args := #[s, x], argTypes := #[43, 43] })
    (B : Nat) (v y : Value) (l m : List Int) (hs : a.eval s = v) (hown : OwnI w B v l) (hx : a.eval x = y) (hy : Ints w y m) (hlen : l.length + m.length ≤ 1000000000000) (hB : B ≤ w.heap.size)
    (hK : ∀ v' w', OwnI w' B v' (l ++ m) → w.grownBy w' v.ownBlock → K (a.put o.dst v') w') : Oper.wp Try.prog o a w K Q := by
  obtain ⟨v', w', hr, h1, h2⟩ := run_append_ints (t := 43) rfl hown hy hlen hB o.type
  unfold Oper.wp execOp
  simp only [ho, resolve, invoke, builtin, Sem.run_bind, Sem.run_pure, Result.andThen_ok, List.map_toArray, List.map_cons, List.map_nil, hs, hx, hr]
  exact hK v' w' h1 h2
set_option maxRecDepth 100000 in
set_option maxHeartbeats 4000000 in
theorem spec_sJoint (gr : GroupD) (s : ByteArray) (v : Value) (l : List EqualLogD) (v2 : Value) (cs : List Int) (w : World) (hg : OkG gr) (hs : s.size ≤ 40) (h : RdR rEqualLog w v l) (h2 : Ints w v2 cs) (hl : l.length ≤ 8) (hsm : AllSmall (ooL l)) (hcl : cs.length ≤ 60) (hcm : AllSmall cs) :
    Calls Try.prog 198 #[.agg #[.int .i64 gr.p, .int .i64 gr.q, .int .i64 gr.g], .string s, v, v2] w fun e w' => e = .returned (.int .i64 (ooE gr s l cs)) ∧ Below w.heap.size w w' := by
  have HG := Lib.hid hg; clear hg
  obtain ⟨a, n, c, rfl⟩ := h.shape
  have e := h.len
  obtain ⟨k1, k2⟩ := h.capMax
  unfold maxLen at k2
  have hn8 : n ≤ 8 := by omega
  have HE := Lib.hid e
  have H := Lib.hid h; clear h e
  obtain ⟨a2, n2, c2, rfl⟩ := h2.shape
  have HE2 := Lib.hid h2.len
  have H2 := Lib.hid h2
  have HS := Lib.hid hs
  have HSM := Lib.hid hsm
  have HCM := Lib.hid hcm
  have HCL := Lib.hid hcl
  clear h2 hs hsm hcm hcl
  obtain ⟨W, hW⟩ : ∃ W, W = w.alloc (.cells #[.int .i64 gr.p, .int .i64 gr.q, .int .i64 gr.g] 24) := ⟨_, rfl⟩
  have HB : Hid (Below w.heap.size w W) := by unfold Hid; rw [hW]; (repeat (first | exact Below.refl _ _ | assumption | refine Below.drew ?_ | refine Below.alloc ?_ (by first | (simp; done) | (simp; omega)) _ | refine Below.setCell ?_ (by first | (simp; done) | (simp; omega)) _))
  have HX : Hid (BoxN W w.heap.size 24 [.int .i64 gr.p, .int .i64 gr.q, .int .i64 gr.g]) := by unfold Hid; rw [hW]; exact BoxN.new w _ _
  have hlW : w.heap.size < W.heap.size := HX.out.lt
  go_enter Try.func198, Try.ntmps198
  go_wp2_with fail
  rw [← hW]
  clear hW
  (try (go_wp2_with fail))
  go_loopg [9, 14] n (fun gk ov iv wr => ∃ k : Nat, k + gk = n ∧ iv = .int .i64 (k : Int) ∧ OwnI wr W.heap.size ov (ooL (l.take k)) ∧ Below W.heap.size W wr)
  case atStart => exact ⟨0, by omega, rfl, OwnI.nil _ _, Below.refl _ _⟩
  case round =>
    obtain ⟨k, hkg, rfl, hO, hbr⟩ := hrel
    have hb := HB.out.trans (hbr.mono HB.out.size)
    have HBR := Lib.hid hbr
    have hgl : k < n → n - (k + 1) < gk := by omega
    have HKG := Lib.hid hkg
    clear hkg
    have hLK : (ooL (l.take k)).length ≤ 32 := by rw [ooL_len, List.length_take]; have := HE.out; omega
    obtain ⟨ao, co, rfl⟩ := hO.shape
    obtain ⟨L, hL⟩ : ∃ L, ooL (l.take k) = L := ⟨_, rfl⟩
    rw [hL] at hO hLK ⊢
    have HL := Lib.hid hL
    clear hL
    obtain ⟨m, hm⟩ : ∃ m, L.length = m := ⟨_, rfl⟩
    rw [hm] at hO hLK ⊢
    have HML := Lib.hid hm
    have HO := Lib.hid hO
    clear hO hm
    have x0 := (HX.out.below HBR.out).cell (i := 0) rfl
    have x1 := (HX.out.below HBR.out).cell (i := 1) rfl
    have x2 := (HX.out.below HBR.out).cell (i := 2) rfl
    by_cases hlt : k < n
    · have HK : Hid (k < l.length) := by unfold Hid; rw [HE.out]; exact hlt
      have HT := Lib.hid (ooL_succ HK.out)
      obtain ⟨b_d, o_d, rfl, hcx⟩ := H.out.at_ (by omega)
      obtain ⟨us, hcell, hrd⟩ := hcx k HK.out
      clear hcx
      generalize l[k]'HK.out = d at hrd HT
      obtain ⟨ers, jd_0, jd_1, jd_2, jd_3⟩ := rdEqualLog.1 ⟨us, rfl, hrd⟩
      obtain rfl : us = [.int .i64 d.g1, .int .i64 d.y1, .int .i64 d.g2, .int .i64 d.y2] := by have h := Value.agg.inj ers; simpa using congrArg Array.toList h
      clear ers hrd
      have y_d_0 : wr.cell? ⟨b_d, o_d + k * 4, none⟩ = some (.int .i64 d.g1) := box_at (hcell 0 (by decide)) hb
      have y_d_1 : wr.cell? ⟨b_d, o_d + k * 4 + 1, none⟩ = some (.int .i64 d.y1) := box_at (hcell 1 (by decide)) hb
      have y_d_2 : wr.cell? ⟨b_d, o_d + k * 4 + 2, none⟩ = some (.int .i64 d.g2) := box_at (hcell 2 (by decide)) hb
      have y_d_3 : wr.cell? ⟨b_d, o_d + k * 4 + 3, none⟩ = some (.int .i64 d.y2) := box_at (hcell 3 (by decide)) hb
      clear hcell
      have HR_d := Lib.hid ((kS rEqualLog).rd_below (rdEqualLog.2 ⟨rfl, jd_0, jd_1, jd_2, jd_3⟩ : (kS rEqualLog).rd w (.agg #[.int .i64 d.g1, .int .i64 d.y1, .int .i64 d.g2, .int .i64 d.y2]) d) hb)
      have J_d_0 := Lib.hid jd_0
      have J_d_1 := Lib.hid jd_1
      have J_d_2 := Lib.hid jd_2
      have J_d_3 := Lib.hid jd_3
      clear jd_0 jd_1 jd_2 jd_3
      have hly := World.block_lt_of_cell? wr _ y_d_0
      obtain ⟨V, hV⟩ : ∃ V, V = (wr.alloc (.cells #[.int .i64 d.g1, .int .i64 d.y1, .int .i64 d.g2, .int .i64 d.y2] 31)).alloc (.cells #[.int .i64 d.g1, .int .i64 d.y1, .int .i64 d.g2, .int .i64 d.y2] 3) := ⟨_, rfl⟩
      have HBV : Hid (Below wr.heap.size wr V) := by unfold Hid; rw [hV]; (repeat (first | exact Below.refl _ _ | assumption | refine Below.drew ?_ | refine Below.alloc ?_ (by first | (simp; done) | (simp; omega)) _ | refine Below.setCell ?_ (by first | (simp; done) | (simp; omega)) _))
      have HLT : Hid (Ints V (.slice (some ⟨wr.heap.size + 1, 0, none⟩) 4 4) [d.g1, d.y1, d.g2, d.y2]) := by
        unfold Hid
        rw [hV]
        have h := (OwnI.lit (B := 0) (wr.alloc (.cells #[.int .i64 d.g1, .int .i64 d.y1, .int .i64 d.g2, .int .i64 d.y2] 31)) (Nat.zero_le _) (l := [d.g1, d.y1, d.g2, d.y2]) (AllI64.cons J_d_0.out (AllI64.cons J_d_1.out (AllI64.cons J_d_2.out (AllI64.cons J_d_3.out AllI64.nil)))) rfl (by simp [maxLen]) 4 rfl).ints
        simpa using h
      go_wp2_with (at_builtin; (try rw [← hV]); refine wpList_append_ints rfl _ _ rfl W.heap.size _ _ L [d.g1, d.y1, d.g2, d.y2] rfl (HO.out.below HBV.out) rfl HLT.out (by rw [HML.out]; simp; omega) (by have := HBR.out.size; have := HBV.out.size; omega) ?_; intro v4 w4 hown4 hgr4)
      have hb4 := (HO.out.below HBV.out).grown hgr4 (by have := HBR.out.size; have := HBV.out.size; omega)
      go_roundg (n - (k + 1))
      case measure => exact hgl hlt
      case rel => exact ⟨k + 1, by have := HKG.out; omega, by go_num, by rw [HT.out, HL.out]; exact hown4, (Below.next HBR.out HBV.out).trans hb4⟩
    · have HLL : Hid (L = ooL l) := by
        unfold Hid
        rw [← HL.out, List.take_of_length_le (by have := HE.out; omega)]
      go_wp2_with fail
      refine wp_region_noPanic ?_
      refine wp_region_V (fun w' => w'.cell? ⟨w.heap.size, 0, none⟩ = some (.int .i64 gr.p) ∧ w'.cell? ⟨w.heap.size, 1, none⟩ = some (.int .i64 gr.q) ∧ w'.cell? ⟨w.heap.size, 2, none⟩ = some (.int .i64 gr.g)) 12 6 (.rd 0 (.rd 1 (.rd 2 (.rd 3 (.alt 4 (.alt 5 .done .nil) .nil))))) [6] (by kernel_rfl) (by kernel_rfl) rfl (fun _ _ _ _ _ h => h) ⟨box_at x0 (Below.refl _ _).drew, box_at x1 (Below.refl _ _).drew, box_at x2 (Below.refl _ _).drew⟩ ?_
      simp only [pickV, pickN, List.getElem?_cons_zero, List.getElem?_cons_succ]
      repeat (refine' wpV_read _ (by kernel_rfl) (fun w' hS' => ?_) ?_; rotate_left; · ((try dsimp only at hS'); go_simp; (try with_reducible rfl)); (try simp only [Act.put, List.setIfInBounds_toArray, List.set_cons_zero, List.set_cons_succ]))
      have hbd : Below wr.heap.size wr wr.drew := (Below.refl _ _).drew
      have HBU := Lib.hid (Below.next HBR.out hbd)
      have HO1 := Lib.hid (HO.out.below hbd)
      have HI2 := Lib.hid (H2.out.below (HB.out.trans (HBU.out.mono HB.out.size)))
      have HSS : Hid (∀ u, Below W.heap.size W u → u.cell? ⟨w.heap.size, 0, none⟩ = some (.int .i64 gr.p) ∧ u.cell? ⟨w.heap.size, 1, none⟩ = some (.int .i64 gr.q) ∧ u.cell? ⟨w.heap.size, 2, none⟩ = some (.int .i64 gr.g)) := fun u h => ⟨(HX.out.below h).cell (i := 0) rfl, (HX.out.below h).cell (i := 1) rfl, (HX.out.below h).cell (i := 2) rfl⟩
      clear hbd x0 x1 x2 HO
      refine wpV_do (by kernel_rfl) (fun K hK => ?_)
      refine do_append_intsH _ _ rfl W.heap.size _ _ L cs rfl HO1.out rfl HI2.out (by rw [HML.out]; have := HCL.out; omega) HBU.out.size ?_
      intro v5 w5 hown5 hgr5
      have hb5 := HO1.out.grown hgr5 HBU.out.size
      have HOC := Lib.hid hown5
      have HB5 := Lib.hid (HBU.out.trans hb5)
      clear hgr5 hb5 hown5
      refine hK.out _ _ (HSS.out _ HB5.out) (fun _ => ?_)
      clear hK K
      (try simp only [Act.put, List.setIfInBounds_toArray, List.set_cons_zero, List.set_cons_succ])
      have HDG : Hid ((L ++ cs).all digestB = true) := by unfold Hid; rw [HLL.out]; exact digests_small (HSM.out.append HCM.out)
      have HDL : Hid ((L ++ cs).length ≤ 100) := by unfold Hid; rw [List.length_append, HML.out]; have := HCL.out; omega
      refine wpV_do (by kernel_rfl) (fun K hK => ?_)
      go_simp
      go_at_call 217
      refine (spec_hChallenge gr s _ (L ++ cs) _ HG.out HOC.out.ints (by have := HS.out; omega) (by have := HDL.out; omega) HDG.out).mono ?_
      rintro ee w6 ⟨rfl, hb6⟩
      refine hK.out _ _ (HSS.out _ (HB5.out.trans (hb6.mono HB5.out.size))) (fun _ => ?_)
      clear hK K
      (try simp only [Act.put, List.setIfInBounds_toArray, List.set_cons_zero, List.set_cons_succ])
      refine wpV_done ?_
      go_wp2_with fail
      refine NoPanic.normal ?_
      go_wp2_with fail
      go_ret
      exact ⟨by rw [HLL.out]; rfl, HB.out.trans ((HB5.out.trans (hb6.mono HB5.out.size)).mono HB.out.size)⟩
end Go.Proofs.Ytegomgnlhcbmfaa

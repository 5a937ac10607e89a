/- Statements of equal logarithms: walks (printed by gen_one1.py). -/
import Derived.Test.YtacpnphfopmofaaDrG1SM
import Derived.Test.YtacpnphfopmofaaRegVSM
import Derived.Deep.Cut
import Derived.Test.YtacpnphfopmofaaSim1SM
namespace Go.Proofs.Ytacpnphfopmofaa
open Go.RowKit
set_option linter.unusedSimpArgs false
set_option linter.unusedVariables false

theorem eqEl_small {gr : GroupD} (hg : OkG gr) {e : EqualLogD} (h : eqEl gr e = true) : Small e.g1 ∧ Small e.y1 ∧ Small e.g2 ∧ Small e.y2 := by
  obtain ⟨h1, h2, h3, h4⟩ := eqEl_parts h
  exact ⟨elB_small hg h1, elB_small hg h2, elB_small hg h3, elB_small hg h4⟩
set_option maxRecDepth 100000 in
set_option maxHeartbeats 2000000 in
theorem impl_hasEqual (gr : GroupD) (d : EqualLogD) (w : World) (hg : OkG gr) (he : (I64 d.g1 ∧ I64 d.y1) ∧ (I64 d.g2 ∧ I64 d.y2)) :
    Calls Try.prog 63 #[.agg #[.int .i64 gr.p, .int .i64 gr.q, .int .i64 gr.g], .agg #[.int .i64 d.g1, .int .i64 d.y1, .int .i64 d.g2, .int .i64 d.y2]] w fun e w' => e = .returned (.bool (eqEl gr d)) ∧ Below w.heap.size w w' := by
  have HG := Lib.hid hg
  clear hg
  obtain ⟨⟨i1, i2⟩, ⟨i3, i4⟩⟩ := he
  obtain ⟨W, hW⟩ : ∃ W, W = (w.alloc (.cells #[.int .i64 gr.p, .int .i64 gr.q, .int .i64 gr.g] 24)).alloc (.cells #[.int .i64 d.g1, .int .i64 d.y1, .int .i64 d.g2, .int .i64 d.y2] 31) := ⟨_, rfl⟩
  have HB : Hid (Below w.heap.size w W) := by unfold Hid; rw [hW]; (repeat (first | exact Below.refl _ _ | assumption | refine Below.drew ?_ | refine Below.alloc ?_ (by first | (simp; done) | (simp; omega)) _ | refine Below.setCell ?_ (by first | (simp; done) | (simp; omega)) _))
  have c0_0 : W.cell? ⟨w.heap.size, 0, none⟩ = some (.int .i64 gr.p) := by rw [hW]; simp [go_sem]
  have c0_1 : W.cell? ⟨w.heap.size, 1, none⟩ = some (.int .i64 gr.q) := by rw [hW]; simp [go_sem]
  have c0_2 : W.cell? ⟨w.heap.size, 2, none⟩ = some (.int .i64 gr.g) := by rw [hW]; simp [go_sem]
  have c1_0 : W.cell? ⟨w.heap.size + 1, 0, none⟩ = some (.int .i64 d.g1) := by rw [hW]; simp [go_sem]
  have c1_1 : W.cell? ⟨w.heap.size + 1, 1, none⟩ = some (.int .i64 d.y1) := by rw [hW]; simp [go_sem]
  have c1_2 : W.cell? ⟨w.heap.size + 1, 2, none⟩ = some (.int .i64 d.g2) := by rw [hW]; simp [go_sem]
  have c1_3 : W.cell? ⟨w.heap.size + 1, 3, none⟩ = some (.int .i64 d.y2) := by rw [hW]; simp [go_sem]
  have HSW : Hid (W.heap.size = w.heap.size + 2) := by unfold Hid; rw [hW]; simp
  go_enter Try.func63, Try.ntmps63
  go_wp2_with fail
  rw [← hW]
  have hse : w.heap.size + 1 + 1 = W.heap.size := by have := HSW.out; omega
  (try rw [hse])
  clear hse
  clear hW
  have hc : Below W.heap.size W W := Below.refl _ _
  have HCC : Hid (∀ u, Below W.heap.size W u → u.cell? ⟨w.heap.size, 0, none⟩ = some (.int .i64 gr.p) ∧ u.cell? ⟨w.heap.size, 1, none⟩ = some (.int .i64 gr.q) ∧ u.cell? ⟨w.heap.size, 2, none⟩ = some (.int .i64 gr.g) ∧ u.cell? ⟨w.heap.size + 1, 0, none⟩ = some (.int .i64 d.g1) ∧ u.cell? ⟨w.heap.size + 1, 1, none⟩ = some (.int .i64 d.y1) ∧ u.cell? ⟨w.heap.size + 1, 2, none⟩ = some (.int .i64 d.g2) ∧ u.cell? ⟨w.heap.size + 1, 3, none⟩ = some (.int .i64 d.y2)) := fun u h => ⟨box_at c0_0 h, box_at c0_1 h, box_at c0_2 h, box_at c1_0 h, box_at c1_1 h, box_at c1_2 h, box_at c1_3 h⟩
  go_wp2_with fail
  refine (impl_hasAll gr _ [d.g1, d.y1, d.g2, d.y2] _ HG.out (OwnI.lit (B := 0) _ (Nat.zero_le _) (l := [d.g1, d.y1, d.g2, d.y2]) (AllI64.cons i1 (AllI64.cons i2 (AllI64.cons i3 (AllI64.cons i4 AllI64.nil)))) rfl (by simp [maxLen]) 4 rfl).ints).mono ?_
  rintro e u1 ⟨rfl, hq1⟩
  replace hq1 := Below.next (keep_al (Below.refl _ _) _) hq1
  replace hc := Below.next hc hq1
  clear hq1 c0_0 c0_1 c0_2 c1_0 c1_1 c1_2 c1_3
  obtain ⟨c0_0, c0_1, c0_2, c1_0, c1_1, c1_2, c1_3⟩ := HCC.out _ hc
  cases hc1 : [d.g1, d.y1, d.g2, d.y2].all (elB gr) with
  | false =>
    have Hhc1 := Lib.hid hc1
    clear hc1
    go_wp2_with fail
    have HV : Hid ((.bool (eqEl gr d) : Value) = .bool false) := by unfold Hid; have qhc1 := Hhc1.out; simp only [List.all_cons, List.all_nil, Bool.and_true] at qhc1; simp [eqEl, qhc1]
    go_ret
    exact ⟨congrArg Ending.returned HV.out.symm, HB.out.trans (hc.mono HB.out.size)⟩
  | true =>
    have Hhc1 := Lib.hid hc1
    clear hc1
    go_wp2_with fail
    have HV : Hid ((.bool (eqEl gr d) : Value) = .bool true) := by unfold Hid; have qhc1 := Hhc1.out; simp only [List.all_cons, List.all_nil, Bool.and_true] at qhc1; simp [eqEl, qhc1]
    go_ret
    exact ⟨congrArg Ending.returned HV.out.symm, HB.out.trans (hc.mono HB.out.size)⟩
set_option maxRecDepth 100000 in
set_option maxHeartbeats 2000000 in
theorem spec_sElements (gr : GroupD) (d : EqualLogD) (w : World) (hg : OkG gr) (he : (I64 d.g1 ∧ I64 d.y1) ∧ (I64 d.g2 ∧ I64 d.y2)) :
    Calls Try.prog 61 #[.agg #[.int .i64 gr.p, .int .i64 gr.q, .int .i64 gr.g], .agg #[.int .i64 d.g1, .int .i64 d.y1, .int .i64 d.g2, .int .i64 d.y2]] w fun e w' => e = .returned (.bool (eqEl gr d)) ∧ Below w.heap.size w w' := by
  have HG := Lib.hid hg
  clear hg
  obtain ⟨⟨i1, i2⟩, ⟨i3, i4⟩⟩ := he
  obtain ⟨W, hW⟩ : ∃ W, W = (w.alloc (.cells #[.int .i64 gr.p, .int .i64 gr.q, .int .i64 gr.g] 24)).alloc (.cells #[.int .i64 d.g1, .int .i64 d.y1, .int .i64 d.g2, .int .i64 d.y2] 31) := ⟨_, rfl⟩
  have HB : Hid (Below w.heap.size w W) := by unfold Hid; rw [hW]; (repeat (first | exact Below.refl _ _ | assumption | refine Below.drew ?_ | refine Below.alloc ?_ (by first | (simp; done) | (simp; omega)) _ | refine Below.setCell ?_ (by first | (simp; done) | (simp; omega)) _))
  have c0_0 : W.cell? ⟨w.heap.size, 0, none⟩ = some (.int .i64 gr.p) := by rw [hW]; simp [go_sem]
  have c0_1 : W.cell? ⟨w.heap.size, 1, none⟩ = some (.int .i64 gr.q) := by rw [hW]; simp [go_sem]
  have c0_2 : W.cell? ⟨w.heap.size, 2, none⟩ = some (.int .i64 gr.g) := by rw [hW]; simp [go_sem]
  have c1_0 : W.cell? ⟨w.heap.size + 1, 0, none⟩ = some (.int .i64 d.g1) := by rw [hW]; simp [go_sem]
  have c1_1 : W.cell? ⟨w.heap.size + 1, 1, none⟩ = some (.int .i64 d.y1) := by rw [hW]; simp [go_sem]
  have c1_2 : W.cell? ⟨w.heap.size + 1, 2, none⟩ = some (.int .i64 d.g2) := by rw [hW]; simp [go_sem]
  have c1_3 : W.cell? ⟨w.heap.size + 1, 3, none⟩ = some (.int .i64 d.y2) := by rw [hW]; simp [go_sem]
  have HSW : Hid (W.heap.size = w.heap.size + 2) := by unfold Hid; rw [hW]; simp
  go_enter Try.func61, Try.ntmps61
  go_wp2_with fail
  rw [← hW]
  have hse : w.heap.size + 1 + 1 = W.heap.size := by have := HSW.out; omega
  (try rw [hse])
  clear hse
  clear hW
  have hc : Below W.heap.size W W := Below.refl _ _
  have HCC : Hid (∀ u, Below W.heap.size W u → u.cell? ⟨w.heap.size, 0, none⟩ = some (.int .i64 gr.p) ∧ u.cell? ⟨w.heap.size, 1, none⟩ = some (.int .i64 gr.q) ∧ u.cell? ⟨w.heap.size, 2, none⟩ = some (.int .i64 gr.g) ∧ u.cell? ⟨w.heap.size + 1, 0, none⟩ = some (.int .i64 d.g1) ∧ u.cell? ⟨w.heap.size + 1, 1, none⟩ = some (.int .i64 d.y1) ∧ u.cell? ⟨w.heap.size + 1, 2, none⟩ = some (.int .i64 d.g2) ∧ u.cell? ⟨w.heap.size + 1, 3, none⟩ = some (.int .i64 d.y2)) := fun u h => ⟨box_at c0_0 h, box_at c0_1 h, box_at c0_2 h, box_at c1_0 h, box_at c1_1 h, box_at c1_2 h, box_at c1_3 h⟩
  go_wp2_with fail
  refine (spec_gIs gr _ [d.g1, d.y1, d.g2, d.y2] _ HG.out (OwnI.lit (B := 0) _ (Nat.zero_le _) (l := [d.g1, d.y1, d.g2, d.y2]) (AllI64.cons i1 (AllI64.cons i2 (AllI64.cons i3 (AllI64.cons i4 AllI64.nil)))) rfl (by simp [maxLen]) 4 rfl).ints).mono ?_
  rintro e u1 ⟨rfl, hq1⟩
  replace hq1 := Below.next (keep_al (Below.refl _ _) _) hq1
  replace hc := Below.next hc hq1
  clear hq1 c0_0 c0_1 c0_2 c1_0 c1_1 c1_2 c1_3
  obtain ⟨c0_0, c0_1, c0_2, c1_0, c1_1, c1_2, c1_3⟩ := HCC.out _ hc
  cases hc1 : [d.g1, d.y1, d.g2, d.y2].all (elB gr) with
  | false =>
    have Hhc1 := Lib.hid hc1
    clear hc1
    go_wp2_with fail
    have HV : Hid ((.bool (eqEl gr d) : Value) = .bool false) := by unfold Hid; have qhc1 := Hhc1.out; simp only [List.all_cons, List.all_nil, Bool.and_true] at qhc1; simp [eqEl, qhc1]
    go_ret
    exact ⟨congrArg Ending.returned HV.out.symm, HB.out.trans (hc.mono HB.out.size)⟩
  | true =>
    have Hhc1 := Lib.hid hc1
    clear hc1
    go_wp2_with fail
    have HV : Hid ((.bool (eqEl gr d) : Value) = .bool true) := by unfold Hid; have qhc1 := Hhc1.out; simp only [List.all_cons, List.all_nil, Bool.and_true] at qhc1; simp [eqEl, qhc1]
    go_ret
    exact ⟨congrArg Ending.returned HV.out.symm, HB.out.trans (hc.mono HB.out.size)⟩
set_option maxRecDepth 100000 in
set_option maxHeartbeats 2000000 in
theorem impl_isTrue (gr : GroupD) (d : EqualLogD) (s : Int) (w : World) (hg : OkG gr) (he : eqEl gr d = true) (hs : Small s) :
    Calls Try.prog 68 #[.agg #[.int .i64 gr.p, .int .i64 gr.q, .int .i64 gr.g], .agg #[.int .i64 d.g1, .int .i64 d.y1, .int .i64 d.g2, .int .i64 d.y2], .int .i64 s] w fun e w' => e = .returned (.bool (eqTrue gr d s)) ∧ Below w.heap.size w w' := by
  have HG := Lib.hid hg
  clear hg
  have HES := Lib.hid (eqEl_small HG.out he)
  obtain ⟨s1, s2, s3, s4⟩ := eqEl_small HG.out he
  clear he
  obtain ⟨W, hW⟩ : ∃ W, W = (w.alloc (.cells #[.int .i64 gr.p, .int .i64 gr.q, .int .i64 gr.g] 24)).alloc (.cells #[.int .i64 d.g1, .int .i64 d.y1, .int .i64 d.g2, .int .i64 d.y2] 31) := ⟨_, rfl⟩
  have HB : Hid (Below w.heap.size w W) := by unfold Hid; rw [hW]; (repeat (first | exact Below.refl _ _ | assumption | refine Below.drew ?_ | refine Below.alloc ?_ (by first | (simp; done) | (simp; omega)) _ | refine Below.setCell ?_ (by first | (simp; done) | (simp; omega)) _))
  have c0_0 : W.cell? ⟨w.heap.size, 0, none⟩ = some (.int .i64 gr.p) := by rw [hW]; simp [go_sem]
  have c0_1 : W.cell? ⟨w.heap.size, 1, none⟩ = some (.int .i64 gr.q) := by rw [hW]; simp [go_sem]
  have c0_2 : W.cell? ⟨w.heap.size, 2, none⟩ = some (.int .i64 gr.g) := by rw [hW]; simp [go_sem]
  have c1_0 : W.cell? ⟨w.heap.size + 1, 0, none⟩ = some (.int .i64 d.g1) := by rw [hW]; simp [go_sem]
  have c1_1 : W.cell? ⟨w.heap.size + 1, 1, none⟩ = some (.int .i64 d.y1) := by rw [hW]; simp [go_sem]
  have c1_2 : W.cell? ⟨w.heap.size + 1, 2, none⟩ = some (.int .i64 d.g2) := by rw [hW]; simp [go_sem]
  have c1_3 : W.cell? ⟨w.heap.size + 1, 3, none⟩ = some (.int .i64 d.y2) := by rw [hW]; simp [go_sem]
  have HSW : Hid (W.heap.size = w.heap.size + 2) := by unfold Hid; rw [hW]; simp
  go_enter Try.func68, Try.ntmps68
  go_wp2_with fail
  rw [← hW]
  have hse : w.heap.size + 1 + 1 = W.heap.size := by have := HSW.out; omega
  (try rw [hse])
  clear hse
  clear hW
  have hc : Below W.heap.size W W := Below.refl _ _
  have HCC : Hid (∀ u, Below W.heap.size W u → u.cell? ⟨w.heap.size, 0, none⟩ = some (.int .i64 gr.p) ∧ u.cell? ⟨w.heap.size, 1, none⟩ = some (.int .i64 gr.q) ∧ u.cell? ⟨w.heap.size, 2, none⟩ = some (.int .i64 gr.g) ∧ u.cell? ⟨w.heap.size + 1, 0, none⟩ = some (.int .i64 d.g1) ∧ u.cell? ⟨w.heap.size + 1, 1, none⟩ = some (.int .i64 d.y1) ∧ u.cell? ⟨w.heap.size + 1, 2, none⟩ = some (.int .i64 d.g2) ∧ u.cell? ⟨w.heap.size + 1, 3, none⟩ = some (.int .i64 d.y2)) := fun u h => ⟨box_at c0_0 h, box_at c0_1 h, box_at c0_2 h, box_at c1_0 h, box_at c1_1 h, box_at c1_2 h, box_at c1_3 h⟩
  cases hc1 : (powE gr d.g1 s == d.y1) with
  | false =>
    try (go_wp2_with fail)
    refine wp_region_noPanic ?_
    refine wp_region_P (fun w' => w'.cell? ⟨w.heap.size, 0, none⟩ = some (.int .i64 gr.p) ∧ w'.cell? ⟨w.heap.size, 1, none⟩ = some (.int .i64 gr.q) ∧ w'.cell? ⟨w.heap.size, 2, none⟩ = some (.int .i64 gr.g) ∧ w'.cell? ⟨w.heap.size + 1, 0, none⟩ = some (.int .i64 d.g1) ∧ w'.cell? ⟨w.heap.size + 1, 1, none⟩ = some (.int .i64 d.y1) ∧ w'.cell? ⟨w.heap.size + 1, 2, none⟩ = some (.int .i64 d.g2) ∧ w'.cell? ⟨w.heap.size + 1, 3, none⟩ = some (.int .i64 d.y2)) 21 [(0, []), (1, []), (2, [0]), (3, []), (4, [3, 1, 0]), (5, []), (6, [0]), (7, [2, 0]), (8, [0]), (9, [0]), (10, [1]), (11, [0, 2]), (12, [3]), (13, [3, 1, 0, 4]), (14, [5]), (15, [0, 6]), (16, [2, 0, 7]), (17, [8, 0]), (18, [0])] [] (by kernel_rfl) (by kernel_rfl) (by kernel_rfl) rfl (fun _ _ _ _ h => h) (fun w' h => ⟨box_at c0_0 h, box_at c0_1 h, box_at c0_2 h, box_at c1_0 h, box_at c1_1 h, box_at c1_2 h, box_at c1_3 h⟩) ?_
    simp only [pickP, pickN, List.getElem?_cons_zero, List.getElem?_cons_succ]
    iterate 4 (refine' chainP_read _ rfl rfl (fun w' hS' => ?_) ?_; rotate_left; · (simp only [lookP, allP, Act.put, List.getElem?_cons_zero, List.getElem?_cons_succ, List.setIfInBounds_toArray, List.set_cons_zero, List.set_cons_succ]; (try dsimp only at hS'); go_simp; (try with_reducible rfl)))
    -- 4: call { callee := value (func 106), args := #[t7, t9, t10], argTypes := #[25, 3, 3] }
    refine chainP_call (d := (some 11)) (.int .i64 (powE gr d.g1 s)) rfl rfl (fun w' hS' => ?_) ?_
    · simp only [lookP, allP, Act.put, List.getElem?_cons_zero, List.getElem?_cons_succ, List.setIfInBounds_toArray, List.set_cons_zero, List.set_cons_succ]
      intro K hK
      go_simp
      go_at_call 51
      refine (impl_pow gr d.g1 s _ HG.out s1 (small_64 hs)).mono ?_
      rintro e u ⟨rfl, hq⟩
      exact hK.out _ hq
    iterate 4 (refine' chainP_read _ rfl rfl (fun w' hS' => ?_) ?_; rotate_left; · (simp only [lookP, allP, Act.put, List.getElem?_cons_zero, List.getElem?_cons_succ, List.setIfInBounds_toArray, List.set_cons_zero, List.set_cons_succ]; (try dsimp only at hS'); go_simp; (try with_reducible rfl)))
    -- 9: load 25 t3
    refine chainP_skip (d := (some 16)) rfl (fun w' hS' => ?_) ?_
    · simp only [lookP, allP, Act.put, List.getElem?_cons_zero, List.getElem?_cons_succ, List.setIfInBounds_toArray, List.set_cons_zero, List.set_cons_succ]
      kernel_rfl
    -- 10: fieldAddr 51 t4 2
    refine chainP_skip (d := (some 17)) rfl (fun w' hS' => ?_) ?_
    · simp only [lookP, allP, Act.put, List.getElem?_cons_zero, List.getElem?_cons_succ, List.setIfInBounds_toArray, List.set_cons_zero, List.set_cons_succ]
      kernel_rfl
    -- 11: load 3 t17
    refine chainP_skip (d := (some 18)) rfl (fun w' hS' => ?_) ?_
    · simp only [lookP, allP, Act.put, List.getElem?_cons_zero, List.getElem?_cons_succ, List.setIfInBounds_toArray, List.set_cons_zero, List.set_cons_succ]
      kernel_rfl
    -- 12: move t2
    refine chainP_skip (d := (some 19)) rfl (fun w' hS' => ?_) ?_
    · simp only [lookP, allP, Act.put, List.getElem?_cons_zero, List.getElem?_cons_succ, List.setIfInBounds_toArray, List.set_cons_zero, List.set_cons_succ]
      kernel_rfl
    -- 13: call { callee := value (func 106), args := #[t16, t18, t19], argTypes := #[25, 3, 3] }
    refine chainP_skip (d := (some 20)) rfl (fun w' hS' => ?_) ?_
    · simp only [lookP, allP, Act.put, List.getElem?_cons_zero, List.getElem?_cons_succ, List.setIfInBounds_toArray, List.set_cons_zero, List.set_cons_succ]
      kernel_rfl
    -- 14: fieldAddr 51 t4 3
    refine chainP_skip (d := (some 21)) rfl (fun w' hS' => ?_) ?_
    · simp only [lookP, allP, Act.put, List.getElem?_cons_zero, List.getElem?_cons_succ, List.setIfInBounds_toArray, List.set_cons_zero, List.set_cons_succ]
      kernel_rfl
    -- 15: load 3 t21
    refine chainP_skip (d := (some 22)) rfl (fun w' hS' => ?_) ?_
    · simp only [lookP, allP, Act.put, List.getElem?_cons_zero, List.getElem?_cons_succ, List.setIfInBounds_toArray, List.set_cons_zero, List.set_cons_succ]
      kernel_rfl
    -- 16: binOp Bineql 3 t20 t22 3
    refine chainP_skip (d := (some 23)) rfl (fun w' hS' => ?_) ?_
    · simp only [lookP, allP, Act.put, List.getElem?_cons_zero, List.getElem?_cons_succ, List.setIfInBounds_toArray, List.set_cons_zero, List.set_cons_succ]
      kernel_rfl
    iterate 2 (refine' chainP_read _ rfl rfl (fun w' hS' => ?_) ?_; rotate_left; · (simp only [lookP, allP, Act.put, List.getElem?_cons_zero, List.getElem?_cons_succ, List.setIfInBounds_toArray, List.set_cons_zero, List.set_cons_succ]; (try dsimp only at hS'); go_simp; (try with_reducible rfl)))
    refine chainP_nil (fun u1 hS' => ?_)
    simp only [allP, Act.put, List.setIfInBounds_toArray, List.set_cons_zero, List.set_cons_succ]
    have hq1 := hS'.1
    clear hS'
    replace hc := Below.next hc hq1
    clear hq1 c0_0 c0_1 c0_2 c1_0 c1_1 c1_2 c1_3
    obtain ⟨c0_0, c0_1, c0_2, c1_0, c1_1, c1_2, c1_3⟩ := HCC.out _ hc
    go_wp2_with fail
    refine NoPanic.normal ?_
    go_wp2_with fail
    have HV : Hid ((.bool (eqTrue gr d s) : Value) = .bool false) := by unfold Hid; simp [eqTrue, hc1]
    go_ret
    exact ⟨congrArg Ending.returned HV.out.symm, HB.out.trans (hc.mono HB.out.size)⟩
  | true =>
    try (go_wp2_with fail)
    refine wp_region_noPanic ?_
    refine wp_region_P (fun w' => w'.cell? ⟨w.heap.size, 0, none⟩ = some (.int .i64 gr.p) ∧ w'.cell? ⟨w.heap.size, 1, none⟩ = some (.int .i64 gr.q) ∧ w'.cell? ⟨w.heap.size, 2, none⟩ = some (.int .i64 gr.g) ∧ w'.cell? ⟨w.heap.size + 1, 0, none⟩ = some (.int .i64 d.g1) ∧ w'.cell? ⟨w.heap.size + 1, 1, none⟩ = some (.int .i64 d.y1) ∧ w'.cell? ⟨w.heap.size + 1, 2, none⟩ = some (.int .i64 d.g2) ∧ w'.cell? ⟨w.heap.size + 1, 3, none⟩ = some (.int .i64 d.y2)) 21 [(0, []), (1, []), (2, [0]), (3, []), (4, [3, 1, 0]), (5, []), (6, [0]), (7, [2, 0]), (8, [0]), (9, [0]), (10, [1]), (11, [0, 2]), (12, [3]), (13, [3, 1, 0, 4]), (14, [5]), (15, [0, 6]), (16, [2, 0, 7]), (17, [8, 0]), (18, [0])] [] (by kernel_rfl) (by kernel_rfl) (by kernel_rfl) rfl (fun _ _ _ _ h => h) (fun w' h => ⟨box_at c0_0 h, box_at c0_1 h, box_at c0_2 h, box_at c1_0 h, box_at c1_1 h, box_at c1_2 h, box_at c1_3 h⟩) ?_
    simp only [pickP, pickN, List.getElem?_cons_zero, List.getElem?_cons_succ]
    iterate 4 (refine' chainP_read _ rfl rfl (fun w' hS' => ?_) ?_; rotate_left; · (simp only [lookP, allP, Act.put, List.getElem?_cons_zero, List.getElem?_cons_succ, List.setIfInBounds_toArray, List.set_cons_zero, List.set_cons_succ]; (try dsimp only at hS'); go_simp; (try with_reducible rfl)))
    -- 4: call { callee := value (func 106), args := #[t7, t9, t10], argTypes := #[25, 3, 3] }
    refine chainP_call (d := (some 11)) (.int .i64 (powE gr d.g1 s)) rfl rfl (fun w' hS' => ?_) ?_
    · simp only [lookP, allP, Act.put, List.getElem?_cons_zero, List.getElem?_cons_succ, List.setIfInBounds_toArray, List.set_cons_zero, List.set_cons_succ]
      intro K hK
      go_simp
      go_at_call 51
      refine (impl_pow gr d.g1 s _ HG.out s1 (small_64 hs)).mono ?_
      rintro e u ⟨rfl, hq⟩
      exact hK.out _ hq
    iterate 4 (refine' chainP_read _ rfl rfl (fun w' hS' => ?_) ?_; rotate_left; · (simp only [lookP, allP, Act.put, List.getElem?_cons_zero, List.getElem?_cons_succ, List.setIfInBounds_toArray, List.set_cons_zero, List.set_cons_succ]; (try dsimp only at hS'); go_simp; (try with_reducible rfl)))
    -- 9: load 25 t3
    refine' chainP_readG (d := (some 16)) _ rfl (fun w' hS' => ?_) ?_; rotate_left
    · simp only [lookP, allP, Act.put, List.getElem?_cons_zero, List.getElem?_cons_succ, List.setIfInBounds_toArray, List.set_cons_zero, List.set_cons_succ]
      refine ⟨by kernel_rfl, ?_⟩
      (try dsimp only at hS')
      go_simp
      (try with_reducible rfl)
    -- 10: fieldAddr 51 t4 2
    refine' chainP_readG (d := (some 17)) _ rfl (fun w' hS' => ?_) ?_; rotate_left
    · simp only [lookP, allP, Act.put, List.getElem?_cons_zero, List.getElem?_cons_succ, List.setIfInBounds_toArray, List.set_cons_zero, List.set_cons_succ]
      refine ⟨by kernel_rfl, ?_⟩
      (try dsimp only at hS')
      go_simp
      (try with_reducible rfl)
    -- 11: load 3 t17
    refine' chainP_readG (d := (some 18)) _ rfl (fun w' hS' => ?_) ?_; rotate_left
    · simp only [lookP, allP, Act.put, List.getElem?_cons_zero, List.getElem?_cons_succ, List.setIfInBounds_toArray, List.set_cons_zero, List.set_cons_succ]
      refine ⟨by kernel_rfl, ?_⟩
      (try dsimp only at hS')
      go_simp
      (try with_reducible rfl)
    -- 12: move t2
    refine' chainP_readG (d := (some 19)) _ rfl (fun w' hS' => ?_) ?_; rotate_left
    · simp only [lookP, allP, Act.put, List.getElem?_cons_zero, List.getElem?_cons_succ, List.setIfInBounds_toArray, List.set_cons_zero, List.set_cons_succ]
      refine ⟨by kernel_rfl, ?_⟩
      (try dsimp only at hS')
      go_simp
      (try with_reducible rfl)
    -- 13: call { callee := value (func 106), args := #[t16, t18, t19], argTypes := #[25, 3, 3] }
    refine chainP_callG (d := (some 20)) (.int .i64 (powE gr d.g2 s)) rfl (fun w' hS' => ?_) ?_
    · simp only [lookP, allP, Act.put, List.getElem?_cons_zero, List.getElem?_cons_succ, List.setIfInBounds_toArray, List.set_cons_zero, List.set_cons_succ]
      refine ⟨by kernel_rfl, ?_⟩
      intro K hK
      go_simp
      go_at_call 51
      refine (impl_pow gr d.g2 s _ HG.out s3 (small_64 hs)).mono ?_
      rintro e u ⟨rfl, hq⟩
      exact hK.out _ hq
    -- 14: fieldAddr 51 t4 3
    refine' chainP_readG (d := (some 21)) _ rfl (fun w' hS' => ?_) ?_; rotate_left
    · simp only [lookP, allP, Act.put, List.getElem?_cons_zero, List.getElem?_cons_succ, List.setIfInBounds_toArray, List.set_cons_zero, List.set_cons_succ]
      refine ⟨by kernel_rfl, ?_⟩
      (try dsimp only at hS')
      go_simp
      (try with_reducible rfl)
    -- 15: load 3 t21
    refine' chainP_readG (d := (some 22)) _ rfl (fun w' hS' => ?_) ?_; rotate_left
    · simp only [lookP, allP, Act.put, List.getElem?_cons_zero, List.getElem?_cons_succ, List.setIfInBounds_toArray, List.set_cons_zero, List.set_cons_succ]
      refine ⟨by kernel_rfl, ?_⟩
      (try dsimp only at hS')
      go_simp
      (try with_reducible rfl)
    -- 16: binOp Bineql 3 t20 t22 3
    refine' chainP_readG (d := (some 23)) _ rfl (fun w' hS' => ?_) ?_; rotate_left
    · simp only [lookP, allP, Act.put, List.getElem?_cons_zero, List.getElem?_cons_succ, List.setIfInBounds_toArray, List.set_cons_zero, List.set_cons_succ]
      refine ⟨by kernel_rfl, ?_⟩
      (try dsimp only at hS')
      go_simp
      (try with_reducible rfl)
    iterate 2 (refine' chainP_read _ rfl rfl (fun w' hS' => ?_) ?_; rotate_left; · (simp only [lookP, allP, Act.put, List.getElem?_cons_zero, List.getElem?_cons_succ, List.setIfInBounds_toArray, List.set_cons_zero, List.set_cons_succ]; (try dsimp only at hS'); go_simp; (try with_reducible rfl)))
    refine chainP_nil (fun u1 hS' => ?_)
    simp only [allP, Act.put, List.setIfInBounds_toArray, List.set_cons_zero, List.set_cons_succ]
    have hq1 := hS'.1
    clear hS'
    replace hc := Below.next hc hq1
    clear hq1 c0_0 c0_1 c0_2 c1_0 c1_1 c1_2 c1_3
    obtain ⟨c0_0, c0_1, c0_2, c1_0, c1_1, c1_2, c1_3⟩ := HCC.out _ hc
    go_wp2_with fail
    refine NoPanic.normal ?_
    cases hc2 : (powE gr d.g2 s == d.y2) with
    | false =>
      go_wp2_with fail
      have HV : Hid ((.bool (eqTrue gr d s) : Value) = .bool false) := by unfold Hid; simp [eqTrue, hc1, hc2]
      go_ret
      exact ⟨congrArg Ending.returned HV.out.symm, HB.out.trans (hc.mono HB.out.size)⟩
    | true =>
      go_wp2_with fail
      have HV : Hid ((.bool (eqTrue gr d s) : Value) = .bool true) := by unfold Hid; simp [eqTrue, hc1, hc2]
      go_ret
      exact ⟨congrArg Ending.returned HV.out.symm, HB.out.trans (hc.mono HB.out.size)⟩
set_option maxRecDepth 100000 in
set_option maxHeartbeats 2000000 in
theorem impl_simulated (gr : GroupD) (d : EqualLogD) (c z : Int) (w : World) (hg : OkG gr) (he : eqEl gr d = true) (hc : Small c) (hz : Small z) :
    Calls Try.prog 65 #[.agg #[.int .i64 gr.p, .int .i64 gr.q, .int .i64 gr.g], .agg #[.int .i64 d.g1, .int .i64 d.y1, .int .i64 d.g2, .int .i64 d.y2], .int .i64 c, .int .i64 z] w fun e w' => e = .returned (.tuple #[.int .i64 (smX gr d.g1 d.y1 c z), .int .i64 (smX gr d.g2 d.y2 c z)]) ∧ Below w.heap.size w w' := by
  have HG := Lib.hid hg
  clear hg
  have HES := Lib.hid (eqEl_small HG.out he)
  obtain ⟨s1, s2, s3, s4⟩ := eqEl_small HG.out he
  clear he
  have ewc : IntKind.i64.wrap (-c) = -c := IntWalk.i64_in _ (by have := hc.1; have := hc.2; omega)
  have inc : I64 (-c) := ⟨by have := hc.2; omega, by have := hc.1; omega⟩
  obtain ⟨W, hW⟩ : ∃ W, W = (w.alloc (.cells #[.int .i64 gr.p, .int .i64 gr.q, .int .i64 gr.g] 24)).alloc (.cells #[.int .i64 d.g1, .int .i64 d.y1, .int .i64 d.g2, .int .i64 d.y2] 31) := ⟨_, rfl⟩
  have HB : Hid (Below w.heap.size w W) := by unfold Hid; rw [hW]; (repeat (first | exact Below.refl _ _ | assumption | refine Below.drew ?_ | refine Below.alloc ?_ (by first | (simp; done) | (simp; omega)) _ | refine Below.setCell ?_ (by first | (simp; done) | (simp; omega)) _))
  have c0_0 : W.cell? ⟨w.heap.size, 0, none⟩ = some (.int .i64 gr.p) := by rw [hW]; simp [go_sem]
  have c0_1 : W.cell? ⟨w.heap.size, 1, none⟩ = some (.int .i64 gr.q) := by rw [hW]; simp [go_sem]
  have c0_2 : W.cell? ⟨w.heap.size, 2, none⟩ = some (.int .i64 gr.g) := by rw [hW]; simp [go_sem]
  have c1_0 : W.cell? ⟨w.heap.size + 1, 0, none⟩ = some (.int .i64 d.g1) := by rw [hW]; simp [go_sem]
  have c1_1 : W.cell? ⟨w.heap.size + 1, 1, none⟩ = some (.int .i64 d.y1) := by rw [hW]; simp [go_sem]
  have c1_2 : W.cell? ⟨w.heap.size + 1, 2, none⟩ = some (.int .i64 d.g2) := by rw [hW]; simp [go_sem]
  have c1_3 : W.cell? ⟨w.heap.size + 1, 3, none⟩ = some (.int .i64 d.y2) := by rw [hW]; simp [go_sem]
  have HSW : Hid (W.heap.size = w.heap.size + 2) := by unfold Hid; rw [hW]; simp
  go_enter Try.func65, Try.ntmps65
  go_wp2_with fail
  rw [← hW]
  have hse : w.heap.size + 1 + 1 = W.heap.size := by have := HSW.out; omega
  (try rw [hse])
  clear hse
  clear hW
  have hc : Below W.heap.size W W := Below.refl _ _
  have HCC : Hid (∀ u, Below W.heap.size W u → u.cell? ⟨w.heap.size, 0, none⟩ = some (.int .i64 gr.p) ∧ u.cell? ⟨w.heap.size, 1, none⟩ = some (.int .i64 gr.q) ∧ u.cell? ⟨w.heap.size, 2, none⟩ = some (.int .i64 gr.g) ∧ u.cell? ⟨w.heap.size + 1, 0, none⟩ = some (.int .i64 d.g1) ∧ u.cell? ⟨w.heap.size + 1, 1, none⟩ = some (.int .i64 d.y1) ∧ u.cell? ⟨w.heap.size + 1, 2, none⟩ = some (.int .i64 d.g2) ∧ u.cell? ⟨w.heap.size + 1, 3, none⟩ = some (.int .i64 d.y2)) := fun u h => ⟨box_at c0_0 h, box_at c0_1 h, box_at c0_2 h, box_at c1_0 h, box_at c1_1 h, box_at c1_2 h, box_at c1_3 h⟩
  try (go_wp2_with fail)
  refine wp_region_noPanic ?_
  refine wp_region_P (fun w' => w'.cell? ⟨w.heap.size, 0, none⟩ = some (.int .i64 gr.p) ∧ w'.cell? ⟨w.heap.size, 1, none⟩ = some (.int .i64 gr.q) ∧ w'.cell? ⟨w.heap.size, 2, none⟩ = some (.int .i64 gr.g) ∧ w'.cell? ⟨w.heap.size + 1, 0, none⟩ = some (.int .i64 d.g1) ∧ w'.cell? ⟨w.heap.size + 1, 1, none⟩ = some (.int .i64 d.y1) ∧ w'.cell? ⟨w.heap.size + 1, 2, none⟩ = some (.int .i64 d.g2) ∧ w'.cell? ⟨w.heap.size + 1, 3, none⟩ = some (.int .i64 d.y2)) 32 [(0, []), (1, []), (2, []), (3, [0]), (4, []), (5, [3, 1, 0]), (6, []), (7, []), (8, [0]), (9, []), (10, [0]), (11, [4, 2, 0]), (12, [6, 0]), (13, [12, 0]), (14, []), (15, []), (16, []), (17, [0]), (18, []), (19, [3, 1, 0]), (20, []), (21, []), (22, [0]), (23, []), (24, [0]), (25, [4, 2, 0]), (26, [6, 0]), (27, [12, 0]), (28, [14]), (29, [1])] [] (by kernel_rfl) (by kernel_rfl) (by kernel_rfl) rfl (fun _ _ _ _ h => h) (fun w' h => ⟨box_at c0_0 h, box_at c0_1 h, box_at c0_2 h, box_at c1_0 h, box_at c1_1 h, box_at c1_2 h, box_at c1_3 h⟩) ?_
  simp only [pickP, pickN, List.getElem?_cons_zero, List.getElem?_cons_succ]
  iterate 5 (refine' chainP_read _ rfl rfl (fun w' hS' => ?_) ?_; rotate_left; · (simp only [lookP, allP, Act.put, List.getElem?_cons_zero, List.getElem?_cons_succ, List.setIfInBounds_toArray, List.set_cons_zero, List.set_cons_succ]; (try dsimp only at hS'); go_simp; (try with_reducible rfl)))
  -- 5: call { callee := value (func 106), args := #[t11, t13, t14], argTypes := #[25, 3, 3] }
  refine chainP_call (d := (some 15)) (.int .i64 (powE gr d.g1 z)) rfl rfl (fun w' hS' => ?_) ?_
  · simp only [lookP, allP, Act.put, List.getElem?_cons_zero, List.getElem?_cons_succ, List.setIfInBounds_toArray, List.set_cons_zero, List.set_cons_succ]
    intro K hK
    go_simp
    go_at_call 51
    refine (impl_pow gr d.g1 z _ HG.out s1 (small_64 hz)).mono ?_
    rintro e u ⟨rfl, hq⟩
    exact hK.out _ hq
  iterate 5 (refine' chainP_read _ rfl rfl (fun w' hS' => ?_) ?_; rotate_left; · (simp only [lookP, allP, Act.put, List.getElem?_cons_zero, List.getElem?_cons_succ, List.setIfInBounds_toArray, List.set_cons_zero, List.set_cons_succ]; (try dsimp only at hS'); go_simp; (try with_reducible rfl)))
  -- 11: call { callee := value (func 106), args := #[t16, t18, t20], argTypes := #[25, 3, 3] }
  refine chainP_call (d := (some 21)) (.int .i64 (powE gr d.y1 (-c))) rfl rfl (fun w' hS' => ?_) ?_
  · simp only [lookP, allP, Act.put, List.getElem?_cons_zero, List.getElem?_cons_succ, List.setIfInBounds_toArray, List.set_cons_zero, List.set_cons_succ]
    intro K hK
    go_simp
    go_at_call 51
    refine (impl_pow gr d.y1 (-c) _ HG.out s2 inc).mono ?_
    rintro e u ⟨rfl, hq⟩
    exact hK.out _ hq
  -- 12: buildSlice 26 2 #[(0, t15), (1, t21)]
  refine chainP_do (d := (some 22)) (fun v w => Ints w v [powE gr d.g1 z, powE gr d.y1 (-c)]) (fun v w w' hb h => Ints.below h hb) rfl rfl (fun w' hS' => ?_) ?_
  · simp only [lookP, allP, Act.put, List.getElem?_cons_zero, List.getElem?_cons_succ, List.setIfInBounds_toArray, List.set_cons_zero, List.set_cons_succ]
    intro K hK
    go_simp
    refine hK.out _ _ ((Below.refl _ _).alloc (Nat.le_refl _) _) ?_
    exact (OwnI.lit (B := w'.heap.size) w' (Nat.le_refl _) (l := [powE gr d.g1 z, powE gr d.y1 (-c)]) (AllI64.cons (small_64 (powE_small HG.out _ _)) (AllI64.cons (small_64 (powE_small HG.out _ _)) AllI64.nil)) rfl (by simp [maxLen]) 2 rfl).ints
  -- 13: call { callee := value (func 105), args := #[t10, t22], argTypes := #[25, 26] }
  refine chainP_call (d := (some 23)) (.int .i64 (mulL gr [powE gr d.g1 z, powE gr d.y1 (-c)])) rfl rfl (fun w' hS' => ?_) ?_
  · simp only [lookP, allP, Act.put, List.getElem?_cons_zero, List.getElem?_cons_succ, List.setIfInBounds_toArray, List.set_cons_zero, List.set_cons_succ]
    intro x12 hx12
    intro K hK
    go_simp
    go_at_call 90
    refine (impl_mul gr _ [powE gr d.g1 z, powE gr d.y1 (-c)] _ HG.out hx12 (AllSmall.cons (powE_small HG.out _ _) (AllSmall.cons (powE_small HG.out _ _) AllSmall.nil))).mono ?_
    rintro e u ⟨rfl, hq⟩
    exact hK.out _ hq
  iterate 5 (refine' chainP_read _ rfl rfl (fun w' hS' => ?_) ?_; rotate_left; · (simp only [lookP, allP, Act.put, List.getElem?_cons_zero, List.getElem?_cons_succ, List.setIfInBounds_toArray, List.set_cons_zero, List.set_cons_succ]; (try dsimp only at hS'); go_simp; (try with_reducible rfl)))
  -- 19: call { callee := value (func 106), args := #[t25, t27, t28], argTypes := #[25, 3, 3] }
  refine chainP_call (d := (some 29)) (.int .i64 (powE gr d.g2 z)) rfl rfl (fun w' hS' => ?_) ?_
  · simp only [lookP, allP, Act.put, List.getElem?_cons_zero, List.getElem?_cons_succ, List.setIfInBounds_toArray, List.set_cons_zero, List.set_cons_succ]
    intro K hK
    go_simp
    go_at_call 51
    refine (impl_pow gr d.g2 z _ HG.out s3 (small_64 hz)).mono ?_
    rintro e u ⟨rfl, hq⟩
    exact hK.out _ hq
  iterate 5 (refine' chainP_read _ rfl rfl (fun w' hS' => ?_) ?_; rotate_left; · (simp only [lookP, allP, Act.put, List.getElem?_cons_zero, List.getElem?_cons_succ, List.setIfInBounds_toArray, List.set_cons_zero, List.set_cons_succ]; (try dsimp only at hS'); go_simp; (try with_reducible rfl)))
  -- 25: call { callee := value (func 106), args := #[t30, t32, t34], argTypes := #[25, 3, 3] }
  refine chainP_call (d := (some 35)) (.int .i64 (powE gr d.y2 (-c))) rfl rfl (fun w' hS' => ?_) ?_
  · simp only [lookP, allP, Act.put, List.getElem?_cons_zero, List.getElem?_cons_succ, List.setIfInBounds_toArray, List.set_cons_zero, List.set_cons_succ]
    intro K hK
    go_simp
    go_at_call 51
    refine (impl_pow gr d.y2 (-c) _ HG.out s4 inc).mono ?_
    rintro e u ⟨rfl, hq⟩
    exact hK.out _ hq
  -- 26: buildSlice 26 2 #[(0, t29), (1, t35)]
  refine chainP_do (d := (some 36)) (fun v w => Ints w v [powE gr d.g2 z, powE gr d.y2 (-c)]) (fun v w w' hb h => Ints.below h hb) rfl rfl (fun w' hS' => ?_) ?_
  · simp only [lookP, allP, Act.put, List.getElem?_cons_zero, List.getElem?_cons_succ, List.setIfInBounds_toArray, List.set_cons_zero, List.set_cons_succ]
    intro K hK
    go_simp
    refine hK.out _ _ ((Below.refl _ _).alloc (Nat.le_refl _) _) ?_
    exact (OwnI.lit (B := w'.heap.size) w' (Nat.le_refl _) (l := [powE gr d.g2 z, powE gr d.y2 (-c)]) (AllI64.cons (small_64 (powE_small HG.out _ _)) (AllI64.cons (small_64 (powE_small HG.out _ _)) AllI64.nil)) rfl (by simp [maxLen]) 2 rfl).ints
  -- 27: call { callee := value (func 105), args := #[t24, t36], argTypes := #[25, 26] }
  refine chainP_call (d := (some 37)) (.int .i64 (mulL gr [powE gr d.g2 z, powE gr d.y2 (-c)])) rfl rfl (fun w' hS' => ?_) ?_
  · simp only [lookP, allP, Act.put, List.getElem?_cons_zero, List.getElem?_cons_succ, List.setIfInBounds_toArray, List.set_cons_zero, List.set_cons_succ]
    intro x26 hx26
    intro K hK
    go_simp
    go_at_call 90
    refine (impl_mul gr _ [powE gr d.g2 z, powE gr d.y2 (-c)] _ HG.out hx26 (AllSmall.cons (powE_small HG.out _ _) (AllSmall.cons (powE_small HG.out _ _) AllSmall.nil))).mono ?_
    rintro e u ⟨rfl, hq⟩
    exact hK.out _ hq
  iterate 2 (refine' chainP_read _ rfl rfl (fun w' hS' => ?_) ?_; rotate_left; · (simp only [lookP, allP, Act.put, List.getElem?_cons_zero, List.getElem?_cons_succ, List.setIfInBounds_toArray, List.set_cons_zero, List.set_cons_succ]; (try dsimp only at hS'); go_simp; (try with_reducible rfl)))
  refine chainP_nil (fun u1 hS' => ?_)
  simp only [allP, Act.put, List.setIfInBounds_toArray, List.set_cons_zero, List.set_cons_succ]
  intro x26 hx26
  intro x12 hx12
  have hq1 := hS'.1
  clear hS'
  replace hc := Below.next hc hq1
  clear hq1 c0_0 c0_1 c0_2 c1_0 c1_1 c1_2 c1_3
  obtain ⟨c0_0, c0_1, c0_2, c1_0, c1_1, c1_2, c1_3⟩ := HCC.out _ hc
  go_wp2_with fail
  refine NoPanic.normal ?_
  go_wp2_with fail
  have HV : Hid ((.tuple #[.int .i64 (smX gr d.g1 d.y1 c z), .int .i64 (smX gr d.g2 d.y2 c z)] : Value) = .tuple #[.int .i64 (mulL gr [powE gr d.g1 z, powE gr d.y1 (-c)]), .int .i64 (mulL gr [powE gr d.g2 z, powE gr d.y2 (-c)])]) := by unfold Hid; simp [smX]
  go_ret2
  exact ⟨congrArg Ending.returned HV.out.symm, HB.out.trans (hc.mono HB.out.size)⟩
noncomputable def itB (gr : GroupD) (d : EqualLogD) (s : Int) : Bool := goodG gr && (eqEl gr d && expB gr s)
noncomputable def itR (gr : GroupD) (d : EqualLogD) (s : Int) : Bool := itB gr d s && eqTrue gr d s
theorem expB_small {gr : GroupD} (hg : OkG gr) {x : Int} (h : expB gr x = true) : Small x := by
  obtain ⟨h1, h2⟩ := expB_bd h
  have := hg.q2; have := hg.p2
  exact ⟨by omega, by omega⟩
set_option maxRecDepth 100000 in
set_option maxHeartbeats 2000000 in
theorem impl_IsTrueEqual (gr : GroupD) (d : EqualLogD) (s : Int) (w : World) (he : (I64 d.g1 ∧ I64 d.y1) ∧ (I64 d.g2 ∧ I64 d.y2)) (hs : I64 s) :
    Calls Try.prog 13 #[.agg #[.int .i64 gr.p, .int .i64 gr.q, .int .i64 gr.g], .agg #[.int .i64 d.g1, .int .i64 d.y1, .int .i64 d.g2, .int .i64 d.y2], .int .i64 s] w fun e w' => e = .returned (.tuple #[.bool (itR gr d s), .bool (itB gr d s)]) ∧ Below w.heap.size w w' := by
  have HI := Lib.hid he
  clear he
  obtain ⟨W, hW⟩ : ∃ W, W = (w.alloc (.cells #[.int .i64 gr.p, .int .i64 gr.q, .int .i64 gr.g] 24)).alloc (.cells #[.int .i64 d.g1, .int .i64 d.y1, .int .i64 d.g2, .int .i64 d.y2] 31) := ⟨_, rfl⟩
  have HB : Hid (Below w.heap.size w W) := by unfold Hid; rw [hW]; (repeat (first | exact Below.refl _ _ | assumption | refine Below.drew ?_ | refine Below.alloc ?_ (by first | (simp; done) | (simp; omega)) _ | refine Below.setCell ?_ (by first | (simp; done) | (simp; omega)) _))
  have c0_0 : W.cell? ⟨w.heap.size, 0, none⟩ = some (.int .i64 gr.p) := by rw [hW]; simp [go_sem]
  have c0_1 : W.cell? ⟨w.heap.size, 1, none⟩ = some (.int .i64 gr.q) := by rw [hW]; simp [go_sem]
  have c0_2 : W.cell? ⟨w.heap.size, 2, none⟩ = some (.int .i64 gr.g) := by rw [hW]; simp [go_sem]
  have c1_0 : W.cell? ⟨w.heap.size + 1, 0, none⟩ = some (.int .i64 d.g1) := by rw [hW]; simp [go_sem]
  have c1_1 : W.cell? ⟨w.heap.size + 1, 1, none⟩ = some (.int .i64 d.y1) := by rw [hW]; simp [go_sem]
  have c1_2 : W.cell? ⟨w.heap.size + 1, 2, none⟩ = some (.int .i64 d.g2) := by rw [hW]; simp [go_sem]
  have c1_3 : W.cell? ⟨w.heap.size + 1, 3, none⟩ = some (.int .i64 d.y2) := by rw [hW]; simp [go_sem]
  have HSW : Hid (W.heap.size = w.heap.size + 2) := by unfold Hid; rw [hW]; simp
  go_enter Try.func13, Try.ntmps13
  go_wp2_with fail
  rw [← hW]
  have hse : w.heap.size + 1 + 1 = W.heap.size := by have := HSW.out; omega
  (try rw [hse])
  clear hse
  clear hW
  have hc : Below W.heap.size W W := Below.refl _ _
  have HCC : Hid (∀ u, Below W.heap.size W u → u.cell? ⟨w.heap.size, 0, none⟩ = some (.int .i64 gr.p) ∧ u.cell? ⟨w.heap.size, 1, none⟩ = some (.int .i64 gr.q) ∧ u.cell? ⟨w.heap.size, 2, none⟩ = some (.int .i64 gr.g) ∧ u.cell? ⟨w.heap.size + 1, 0, none⟩ = some (.int .i64 d.g1) ∧ u.cell? ⟨w.heap.size + 1, 1, none⟩ = some (.int .i64 d.y1) ∧ u.cell? ⟨w.heap.size + 1, 2, none⟩ = some (.int .i64 d.g2) ∧ u.cell? ⟨w.heap.size + 1, 3, none⟩ = some (.int .i64 d.y2)) := fun u h => ⟨box_at c0_0 h, box_at c0_1 h, box_at c0_2 h, box_at c1_0 h, box_at c1_1 h, box_at c1_2 h, box_at c1_3 h⟩
  go_wp2_with fail
  refine (impl_IsValidGroup gr _).mono ?_
  rintro e u1 ⟨rfl, hq1⟩
  replace hc := Below.next hc hq1
  clear hq1 c0_0 c0_1 c0_2 c1_0 c1_1 c1_2 c1_3
  obtain ⟨c0_0, c0_1, c0_2, c1_0, c1_1, c1_2, c1_3⟩ := HCC.out _ hc
  cases hc1 : goodG gr with
  | false =>
    have Hhc1 := Lib.hid hc1
    clear hc1
    go_wp2_with fail
    have HV : Hid ((.tuple #[.bool (itR gr d s), .bool (itB gr d s)] : Value) = .tuple #[.bool false, .bool false]) := by unfold Hid; simp [itR, itB, Hhc1.out]
    go_ret2
    exact ⟨congrArg Ending.returned HV.out.symm, HB.out.trans (hc.mono HB.out.size)⟩
  | true =>
    have HG := Lib.hid (goodG_ok hc1)
    have Hhc1 := Lib.hid hc1
    clear hc1
    go_wp2_with fail
    refine (impl_hasEqual gr d _ HG.out HI.out).mono ?_
    rintro e u2 ⟨rfl, hq2⟩
    replace hc := Below.next hc hq2
    clear hq2 c0_0 c0_1 c0_2 c1_0 c1_1 c1_2 c1_3
    obtain ⟨c0_0, c0_1, c0_2, c1_0, c1_1, c1_2, c1_3⟩ := HCC.out _ hc
    cases hc2 : eqEl gr d with
    | false =>
      have Hhc2 := Lib.hid hc2
      clear hc2
      go_wp2_with fail
      have HV : Hid ((.tuple #[.bool (itR gr d s), .bool (itB gr d s)] : Value) = .tuple #[.bool false, .bool false]) := by unfold Hid; simp [itR, itB, Hhc1.out, Hhc2.out]
      go_ret2
      exact ⟨congrArg Ending.returned HV.out.symm, HB.out.trans (hc.mono HB.out.size)⟩
    | true =>
      have HEE : Hid (eqEl gr d = true) := hc2
      have Hhc2 := Lib.hid hc2
      clear hc2
      go_wp2_with fail
      refine (impl_isExp gr s _ HG.out).mono ?_
      rintro e u3 ⟨rfl, hq3⟩
      replace hc := Below.next hc hq3
      clear hq3 c0_0 c0_1 c0_2 c1_0 c1_1 c1_2 c1_3
      obtain ⟨c0_0, c0_1, c0_2, c1_0, c1_1, c1_2, c1_3⟩ := HCC.out _ hc
      cases hc3 : expB gr s with
      | false =>
        have Hhc3 := Lib.hid hc3
        clear hc3
        go_wp2_with fail
        have HV : Hid ((.tuple #[.bool (itR gr d s), .bool (itB gr d s)] : Value) = .tuple #[.bool false, .bool false]) := by unfold Hid; simp [itR, itB, Hhc1.out, Hhc2.out, Hhc3.out]
        go_ret2
        exact ⟨congrArg Ending.returned HV.out.symm, HB.out.trans (hc.mono HB.out.size)⟩
      | true =>
        have HSS := Lib.hid (expB_small HG.out hc3)
        have Hhc3 := Lib.hid hc3
        clear hc3
        go_wp2_with fail
        refine (impl_isTrue gr d s _ HG.out HEE.out HSS.out).mono ?_
        rintro e u4 ⟨rfl, hq4⟩
        replace hc := Below.next hc hq4
        clear hq4 c0_0 c0_1 c0_2 c1_0 c1_1 c1_2 c1_3
        obtain ⟨c0_0, c0_1, c0_2, c1_0, c1_1, c1_2, c1_3⟩ := HCC.out _ hc
        cases hc4 : eqTrue gr d s with
        | false =>
          have Hhc4 := Lib.hid hc4
          clear hc4
          go_wp2_with fail
          have HV : Hid ((.tuple #[.bool (itR gr d s), .bool (itB gr d s)] : Value) = .tuple #[.bool false, .bool true]) := by unfold Hid; simp [itR, itB, Hhc1.out, Hhc2.out, Hhc3.out, Hhc4.out]
          go_ret2
          exact ⟨congrArg Ending.returned HV.out.symm, HB.out.trans (hc.mono HB.out.size)⟩
        | true =>
          have Hhc4 := Lib.hid hc4
          clear hc4
          go_wp2_with fail
          have HV : Hid ((.tuple #[.bool (itR gr d s), .bool (itB gr d s)] : Value) = .tuple #[.bool true, .bool true]) := by unfold Hid; simp [itR, itB, Hhc1.out, Hhc2.out, Hhc3.out, Hhc4.out]
          go_ret2
          exact ⟨congrArg Ending.returned HV.out.symm, HB.out.trans (hc.mono HB.out.size)⟩
end Go.Proofs.Ytacpnphfopmofaa
namespace Go.Proofs.Ytacpnphfopmofaa
open Go.RowKit
set_option linter.unusedSimpArgs false
set_option linter.unusedVariables false

noncomputable def ansB (gr : GroupD) (e : EqualLogD) (a b : Int) : Bool := cntB gr && (eqEl gr e && ([a, b].all (elB gr) && (!decide (e.g1 = 1) && !decide (e.g2 = 1))))
noncomputable def ansR (gr : GroupD) (e : EqualLogD) (a b : Int) : Int := if ansB gr e a b = true then (acS gr e a b gr.q.toNat gr.q.toNat : Int) else 0
theorem ansB_parts {gr : GroupD} {e : EqualLogD} {a b : Int} (h : ansB gr e a b = true) : (cntB gr = true ∧ eqEl gr e = true) ∧ (elB gr a = true ∧ elB gr b = true) ∧ e.g1 ≠ 1 ∧ e.g2 ≠ 1 := by
  unfold ansB at h
  simp only [Bool.and_eq_true, List.all_cons, List.all_nil, Bool.and_true, Bool.not_eq_true', decide_eq_false_iff_not] at h
  exact ⟨⟨h.1, h.2.1⟩, h.2.2.1, h.2.2.2.1, h.2.2.2.2⟩
theorem cntB_parts {gr : GroupD} (h : cntB gr = true) : gr.q ≤ 23 ∧ OkG gr := by
  unfold cntB at h
  rw [Bool.and_eq_true, decide_eq_true_iff] at h
  exact ⟨h.1, goodG_ok h.2⟩
theorem acP_sim {gr : GroupD} (hg : OkG gr) {e : EqualLogD} (he : eqEl gr e = true) {a b : Int} (ha : elB gr a = true) (hb : elB gr b = true) (c z : Nat) : acP gr e a b c z = ((smX gr e.g1 e.y1 c z == a) && (smX gr e.g2 e.y2 c z == b)) := by
  obtain ⟨g1, y1, g2, y2⟩ := eqEl_parts he
  unfold acP
  rw [← sm_iff hg g1 y1 ha, ← sm_iff hg g2 y2 hb]
set_option maxRecDepth 100000 in
set_option maxHeartbeats 4000000 in
theorem impl_AnswerableChallenges (gr : GroupD) (d : EqualLogD) (a b : Int) (w : World) (he : (I64 d.g1 ∧ I64 d.y1) ∧ (I64 d.g2 ∧ I64 d.y2)) (ha : I64 a) (hb : I64 b) :
    Calls Try.prog 11 #[.agg #[.int .i64 gr.p, .int .i64 gr.q, .int .i64 gr.g], .agg #[.int .i64 d.g1, .int .i64 d.y1, .int .i64 d.g2, .int .i64 d.y2], .int .i64 a, .int .i64 b] w fun e w' => e = .returned (.tuple #[.int .i64 (ansR gr d a b), .bool (ansB gr d a b)]) ∧ Below w.heap.size w w' := by
  have HE := Lib.hid he
  have HA := Lib.hid ha
  have HBB := Lib.hid hb
  clear he ha hb
  obtain ⟨DB, hDB⟩ : ∃ z, z = w.heap.size + 1 := ⟨_, rfl⟩
  obtain ⟨W, hW⟩ : ∃ W, W = (w.alloc (.cells #[.int .i64 gr.p, .int .i64 gr.q, .int .i64 gr.g] 24)).alloc (.cells #[.int .i64 d.g1, .int .i64 d.y1, .int .i64 d.g2, .int .i64 d.y2] 31) := ⟨_, rfl⟩
  have HB : Hid (Below w.heap.size w W) := by unfold Hid; rw [hW]; (repeat (first | exact Below.refl _ _ | assumption | refine Below.drew ?_ | refine Below.alloc ?_ (by first | (simp; done) | (simp; omega)) _ | refine Below.setCell ?_ (by first | (simp; done) | (simp; omega)) _))
  have HGB : Hid (BoxN W w.heap.size 24 [.int .i64 gr.p, .int .i64 gr.q, .int .i64 gr.g]) := by unfold Hid; rw [hW]; exact (BoxN.new w [.int .i64 gr.p, .int .i64 gr.q, .int .i64 gr.g] _).alloc _
  have HDB : Hid (BoxN W DB 31 [.int .i64 d.g1, .int .i64 d.y1, .int .i64 d.g2, .int .i64 d.y2]) := by
    unfold Hid; rw [hW, hDB]
    have h9 := BoxN.new (w.alloc (.cells #[.int .i64 gr.p, .int .i64 gr.q, .int .i64 gr.g] 24)) [.int .i64 d.g1, .int .i64 d.y1, .int .i64 d.g2, .int .i64 d.y2] 31
    rw [show (w.alloc (.cells #[.int .i64 gr.p, .int .i64 gr.q, .int .i64 gr.g] 24)).heap.size = w.heap.size + 1 by simp] at h9
    exact h9
  have hsW : DB < W.heap.size := by rw [hW, hDB]; simp
  have hrb1 : w.heap.size < DB := by omega
  go_enter Try.func11, Try.ntmps11
  go_wp2_with fail
  rw [← hW]
  (try rw [← hDB])
  clear hW hDB
  have g0 := HGB.out.cell (i := 0) rfl
  have g1 := HGB.out.cell (i := 1) rfl
  have g2 := HGB.out.cell (i := 2) rfl
  try (go_wp2_with fail)
  clear g0 g1 g2
  refine (impl_isCounted gr W).mono ?_
  rintro e w1 ⟨rfl, hb1⟩
  have hs1 := hb1.size
  have HB1 := Lib.hid (HB.out.trans (hb1.mono HB.out.size))
  have HG1 := Lib.hid (HGB.out.below hb1)
  have HD1 := Lib.hid (HDB.out.below hb1)
  clear hb1 HGB HDB
  obtain ⟨q, hq⟩ : ∃ q, cntB gr = q := ⟨_, rfl⟩
  rw [hq]
  have HQ := Lib.hid hq
  clear hq
  cases q with
  | false =>
    have HN : Hid (ansB gr d a b = false) := by unfold Hid ansB; rw [HQ.out]; rfl
    have HR : Hid (ansR gr d a b = 0) := by unfold Hid ansR; rw [HN.out]; rfl
    go_wp2_with fail
    go_ret2
    exact ⟨by rw [HN.out, HR.out]; rfl, HB1.out⟩
  | true =>
  have HCN := Lib.hid (cntB_parts HQ.out)
  have HG : Hid (OkG gr) := HCN.out.2
  have g0 := HG1.out.cell (i := 0) rfl
  have g1 := HG1.out.cell (i := 1) rfl
  have g2 := HG1.out.cell (i := 2) rfl
  have e0 := HD1.out.cell (i := 0) rfl
  have e1 := HD1.out.cell (i := 1) rfl
  have e2 := HD1.out.cell (i := 2) rfl
  have e3 := HD1.out.cell (i := 3) rfl
  go_wp2_with fail
  clear g0 g1 g2 e0 e1 e2 e3
  refine (impl_hasEqual gr d w1 HG.out HE.out).mono ?_
  rintro e w2 ⟨rfl, hb2⟩
  have hs2 := hb2.size
  have HB2 := Lib.hid (HB1.out.trans (hb2.mono HB1.out.size))
  have HG2 := Lib.hid (HG1.out.below hb2)
  have HD2 := Lib.hid (HD1.out.below hb2)
  clear hb2 HG1 HD1
  obtain ⟨q, hq⟩ : ∃ q, eqEl gr d = q := ⟨_, rfl⟩
  rw [hq]
  have HQ2 := Lib.hid hq
  clear hq
  cases q with
  | false =>
    have HN : Hid (ansB gr d a b = false) := by unfold Hid ansB; rw [HQ.out, HQ2.out]; rfl
    have HR : Hid (ansR gr d a b = 0) := by unfold Hid ansR; rw [HN.out]; rfl
    go_wp2_with fail
    go_ret2
    exact ⟨by rw [HN.out, HR.out]; rfl, HB2.out⟩
  | true =>
  obtain ⟨w3, hw3⟩ : ∃ V, V = w2.alloc (.cells #[.int .i64 a, .int .i64 b] 3) := ⟨_, rfl⟩
  have hb3 : Below w2.heap.size w2 w3 := by rw [hw3]; exact (Below.refl _ _).alloc (Nat.le_refl _) _
  have HL3 : Hid (Ints w3 (.slice (some ⟨w2.heap.size, 0, none⟩) 2 2) [a, b]) := by
    unfold Hid; rw [hw3]
    exact (OwnI.lit (l := [a, b]) w2 (Nat.le_refl _) (by intro x hx; rcases List.mem_cons.1 hx with rfl | hx; exact HA.out; rw [List.mem_singleton.1 hx]; exact HBB.out) rfl (by simp [maxLen]) 2 rfl).ints
  have HG3 := Lib.hid (HG2.out.below hb3)
  have HD3 := Lib.hid (HD2.out.below hb3)
  have HB3 := Lib.hid (HB2.out.trans (hb3.mono HB2.out.size))
  have hs3 := hb3.size
  have g0 := HG2.out.cell (i := 0) rfl
  have g1 := HG2.out.cell (i := 1) rfl
  have g2 := HG2.out.cell (i := 2) rfl
  go_wp2_with fail
  rw [← hw3]
  clear hw3 hb3 g0 g1 g2 HG2 HD2
  refine (impl_hasAll gr _ [a, b] w3 HG.out HL3.out).mono ?_
  rintro e w4 ⟨rfl, hb4⟩
  have hs4 := hb4.size
  have HB4 := Lib.hid (HB3.out.trans (hb4.mono HB3.out.size))
  have HG4 := Lib.hid (HG3.out.below hb4)
  have HD4 := Lib.hid (HD3.out.below hb4)
  clear hb4 HG3 HD3 HL3
  obtain ⟨q, hq⟩ : ∃ q, [a, b].all (elB gr) = q := ⟨_, rfl⟩
  rw [hq]
  have HQ3 := Lib.hid hq
  clear hq
  cases q with
  | false =>
    have HN : Hid (ansB gr d a b = false) := by unfold Hid ansB; rw [HQ.out, HQ2.out, HQ3.out]; rfl
    have HR : Hid (ansR gr d a b = 0) := by unfold Hid ansR; rw [HN.out]; rfl
    go_wp2_with fail
    go_ret2
    exact ⟨by rw [HN.out, HR.out]; rfl, HB4.out⟩
  | true =>
  have e0 := HD4.out.cell (i := 0) rfl
  have e2 := HD4.out.cell (i := 2) rfl
  by_cases h1 : d.g1 = 1
  · have HN : Hid (ansB gr d a b = false) := by unfold Hid ansB; rw [HQ.out, HQ2.out, HQ3.out, decide_eq_true h1]; rfl
    have HR : Hid (ansR gr d a b = 0) := by unfold Hid ansR; rw [HN.out]; rfl
    have t1 : (d.g1 == 1) = true := by rw [beq_iff_eq]; exact h1
    go_wp2_with fail
    go_ret2
    exact ⟨by rw [HN.out, HR.out]; rfl, HB4.out⟩
  have t1 : (d.g1 == 1) = false := by rw [beq_eq_false_iff_ne]; exact h1
  by_cases h2 : d.g2 = 1
  · have HN : Hid (ansB gr d a b = false) := by unfold Hid ansB; rw [HQ.out, HQ2.out, HQ3.out, decide_eq_true h2, Bool.not_true, Bool.and_false]; rfl
    have HR : Hid (ansR gr d a b = 0) := by unfold Hid ansR; rw [HN.out]; rfl
    have t2 : (d.g2 == 1) = true := by rw [beq_iff_eq]; exact h2
    go_wp2_with fail
    go_ret2
    exact ⟨by rw [HN.out, HR.out]; rfl, HB4.out⟩
  have t2 : (d.g2 == 1) = false := by rw [beq_eq_false_iff_ne]; exact h2
  have HN : Hid (ansB gr d a b = true) := by unfold Hid ansB; rw [HQ.out, HQ2.out, HQ3.out, decide_eq_false h1, decide_eq_false h2]; rfl
  obtain ⟨Q, hQ⟩ : ∃ Q : Nat, (Q : Int) = gr.q := ⟨gr.q.toNat, by have := HG.out.q1; omega⟩
  have HQQ := Lib.hid hQ
  have HR : Hid (ansR gr d a b = (acS gr d a b Q Q : Int)) := by unfold Hid ansR; rw [HN.out, if_pos rfl, ← HQQ.out]; simp
  have hQ23 : Q ≤ 23 := by have := HCN.out.1; omega
  have hQ2 : 2 ≤ Q := by have := HG.out.q1; omega
  have HP := Lib.hid (ansB_parts HN.out)
  clear hQ h1 h2
  have g1 := HG4.out.cell (i := 1) rfl
  go_wp2_with fail
  clear g1 e0 e2 t1 t2
  go_loopg [10, 44] Q (fun gk cv iv wr => ∃ n : Nat, n + gk = Q ∧ iv = .int .i64 (n : Int) ∧ cv = .int .i64 (acS gr d a b Q n : Int) ∧ Hid (Below w4.heap.size w4 wr))
  case atStart => exact ⟨0, by omega, rfl, rfl, Below.refl _ _⟩
  case round =>
    obtain ⟨n, hng, rfl, rfl, HBr⟩ := hrel
    obtain ⟨wO, rfl⟩ : ∃ u, u = wr := ⟨_, rfl⟩
    obtain ⟨gO, rfl⟩ : ∃ u, u = gk := ⟨_, rfl⟩
    have HGr := Lib.hid (HG4.out.below HBr.out)
    have hsO := HBr.out.size
    have hle := acS_le gr d a b Q n
    have hleQ : n * Q ≤ 23 * 23 := Nat.mul_le_mul (by omega) hQ23
    by_cases hlt : n < Q
    · have b1 : decide ((n : Int) < gr.q) = true := decide_eq_true (by have := HQQ.out; omega)
      have hwn : IntKind.i64.wrap ((n : Int) + 1) = (n : Int) + 1 := IntWalk.i64_in _ (by omega)
      have hgO : Q - (n + 1) < gO := by omega
      have hgO2 : n + 1 + (Q - (n + 1)) = Q := by omega
      have HNS : Hid (Small (n : Int)) := ⟨by omega, by omega⟩
      obtain ⟨S, hS⟩ : ∃ z, acS gr d a b Q n = z := ⟨_, rfl⟩
      have HSE := Lib.hid hS
      rw [hS] at hle ⊢
      have hS2 : S ≤ 529 := by omega
      have hwS : IntKind.i64.wrap ((S : Int) + 1) = ((S + 1 : Nat) : Int) := by rw [show (S : Int) + 1 = ((S + 1 : Nat) : Int) by omega]; exact IntWalk.i64_in _ (by omega)
      clear hS
      have g1 := HGr.out.cell (i := 1) rfl
      go_wp2_with fail
      clear g1
      go_loopg [10, 49] Q (fun gk cv iv wr => ∃ k : Nat, k + gk = Q ∧ iv = .int .i64 (k : Int) ∧ cv = .int .i64 (S : Int) ∧ Hid (∀ z, z < k → acP gr d a b n z = false) ∧ Hid (Below wO.heap.size wO wr))
      case atStart => exact ⟨0, by omega, rfl, rfl, fun z hz => by omega, Below.refl _ _⟩
      case round =>
        obtain ⟨k, hkg, rfl, rfl, HNO, HBi⟩ := hrel
        have HBw4 := Lib.hid (HBr.out.trans (HBi.out.mono hsO))
        have HGi := Lib.hid (HGr.out.below HBi.out)
        have HDi := Lib.hid (HD4.out.below HBw4.out)
        have hsi := HBi.out.size
        by_cases hlk : k < Q
        · have b2 : decide ((k : Int) < gr.q) = true := decide_eq_true (by have := HQQ.out; omega)
          have hwk : IntKind.i64.wrap ((k : Int) + 1) = (k : Int) + 1 := IntWalk.i64_in _ (by omega)
          have HKS : Hid (Small (k : Int)) := ⟨by omega, by omega⟩
          have hgk : Q - (k + 1) < gk := by omega
          have hgk2 : k + 1 + (Q - (k + 1)) = Q := by omega
          have HAS := Lib.hid (acP_sim HG.out HP.out.1.2 HP.out.2.1.1 HP.out.2.1.2 n k)
          have g0 := HGi.out.cell (i := 0) rfl
          have g1 := HGi.out.cell (i := 1) rfl
          have g2 := HGi.out.cell (i := 2) rfl
          have e0 := HDi.out.cell (i := 0) rfl
          have e1 := HDi.out.cell (i := 1) rfl
          have e2 := HDi.out.cell (i := 2) rfl
          have e3 := HDi.out.cell (i := 3) rfl
          go_wp2_with fail
          clear g0 g1 g2 e0 e1 e2 e3
          refine (impl_simulated gr d n k _ HG.out HP.out.1.2 HNS.out HKS.out).mono ?_
          rintro e w5 ⟨rfl, hb5⟩
          have hs5 := hb5.size
          have HB5 := Lib.hid (HBi.out.trans (hb5.mono hsi))
          clear hb5
          obtain ⟨X1, hX1⟩ : ∃ z, smX gr d.g1 d.y1 n k = z := ⟨_, rfl⟩
          obtain ⟨X2, hX2⟩ : ∃ z, smX gr d.g2 d.y2 n k = z := ⟨_, rfl⟩
          rw [hX1, hX2] at HAS ⊢
          clear hX1 hX2
          have hsw5 : w4.heap.size ≤ w5.heap.size := by omega
          have HB54 := Lib.hid (HBr.out.trans (HB5.out.mono hsO))
          have next : acP gr d a b n k = false → Hid (∀ z, z < k + 1 → acP gr d a b n z = false) := fun h z hz => by
            by_cases e : z = k
            · subst e; exact h
            · exact HNO.out z (by omega)
          have NX := Lib.hid next
          clear next
          cases p1 : X1 == a with
          | false =>
            have HPF : Hid (acP gr d a b n k = false) := by unfold Hid; rw [HAS.out, p1]; rfl
            go_wp2_with fail
            go_roundg (Q - (k + 1))
            case measure => exact hgk
            case rel => exact ⟨k + 1, hgk2, by go_num, rfl, NX.out HPF.out, HB5.out⟩
          | true =>
            cases p2 : X2 == b with
            | false =>
              have HPF : Hid (acP gr d a b n k = false) := by unfold Hid; rw [HAS.out, p1, p2]; rfl
              go_wp2_with fail
              go_roundg (Q - (k + 1))
              case measure => exact hgk
              case rel => exact ⟨k + 1, hgk2, by go_num, rfl, NX.out HPF.out, HB5.out⟩
            | true =>
              have HPT : Hid (acP gr d a b n k = true) := by unfold Hid; rw [HAS.out, p1, p2]; rfl
              have HSN : Hid (acS gr d a b Q (n + 1) = S + 1) := by
                unfold Hid
                show acS gr d a b Q n + acR gr d a b n Q = S + 1
                rw [HSE.out, acR_found HG.out (eqEl_parts HP.out.1.2).1 HP.out.2.2.1 HQQ.out hlk HPT.out]
              go_wp2_with fail
              go_roundg (Q - (n + 1))
              case measure => exact hgO
              case rel => exact ⟨n + 1, hgO2, by go_num, by rw [HSN.out, Int.natCast_add]; rfl, HB54.out⟩
        · obtain rfl : Q = k := by omega
          have b2 : decide ((Q : Int) < gr.q) = false := decide_eq_false (by have := HQQ.out; omega)
          have HSN : Hid (acS gr d a b Q (n + 1) = S) := by
            unfold Hid
            show acS gr d a b Q n + acR gr d a b n Q = S
            rw [HSE.out, acR_none Q HNO.out, Nat.add_zero]
          have g1 := HGi.out.cell (i := 1) rfl
          go_wp2_with fail
          go_roundg (Q - (n + 1))
          case measure => exact hgO
          case rel => exact ⟨n + 1, hgO2, by go_num, by rw [HSN.out], HBw4.out⟩
    · obtain rfl : Q = n := by omega
      have b1 : decide ((Q : Int) < gr.q) = false := decide_eq_false (by have := HQQ.out; omega)
      have HBF := Lib.hid (HB4.out.trans (HBr.out.mono HB4.out.size))
      go_wp2_with fail
      go_ret2
      exact ⟨by rw [HN.out, HR.out]; rfl, HBF.out⟩
end Go.Proofs.Ytacpnphfopmofaa

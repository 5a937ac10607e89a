/- Key generation: inputs, the qualified dealers (printed by gen_kg4.py). -/
import Derived.Test.YtacpnphfopmofaaKg7KG
import Derived.Test.YtacpnphfopmofaaKg3KG
import Derived.Test.YtacpnphfopmofaaPolLKG
namespace Go.Proofs.Ytacpnphfopmofaa
open Go.RowKit
set_option linter.unusedSimpArgs false
set_option linter.unusedVariables false

def kgP (l : List DealingD) (d : DealingD) : Bool := !(smB d (hdD l) && decide (d.s.length = l.length))
theorem ki_any {l : List DealingD} (h0 : 0 < l.length) : (l.any fun d => kgP l d) = !((!(l.any fun d => !smB d (hdD l))) && decide ((hdD l).s.length = l.length)) := by
  cases hA : (l.any fun d => !smB d (hdD l)) with
  | true =>
    obtain ⟨d, hd, h⟩ := List.any_eq_true.1 hA
    rw [Bool.not_eq_true'] at h
    have : (l.any fun d => kgP l d) = true := List.any_eq_true.2 ⟨d, hd, by unfold kgP; rw [h]; rfl⟩
    rw [this]; rfl
  | false =>
    have all : ∀ d ∈ l, smB d (hdD l) = true := fun d hd => by
      have := List.any_eq_false.1 hA d hd
      simpa using this
    by_cases hD : (hdD l).s.length = l.length
    · have : (l.any fun d => kgP l d) = false := List.any_eq_false.2 fun d hd => by
        have h1 := all d hd
        have h2 : d.s.length = (hdD l).s.length := by unfold smB at h1; simp at h1; exact h1.2
        unfold kgP; rw [h1, decide_eq_true (by omega)]; simp
      rw [this, decide_eq_true hD]; rfl
    · have : (l.any fun d => kgP l d) = true := List.any_eq_true.2 ⟨hdD l, hdD_mem h0, by unfold kgP; rw [decide_eq_false hD, Bool.and_false]; rfl⟩
      rw [this, decide_eq_false hD]; rfl
theorem kiB_alt (gr : GroupD) (l : List DealingD) : kiB gr l = (shG gr && (decide (0 < (l.length : Int)) && (dsB gr l && !(l.any fun d => kgP l d)))) := by
  have e : kiB gr l = (sdB gr l && decide ((hdD l).s.length = l.length)) := by unfold kiB sdB; rw [Bool.and_assoc]
  by_cases h0 : 0 < l.length
  · rw [e, sdB_alt, ki_any h0, decide_eq_true (show 0 < (l.length : Int) by omega), show ((l.length : Int) == 0) = false by rw [beq_eq_false_iff_ne]; omega]
    cases shG gr <;> cases dsB gr l <;> cases (l.any fun d => !smB d (hdD l)) <;> cases decide ((hdD l).s.length = l.length) <;> rfl
  · rw [e, sdB_alt, decide_eq_false (show ¬ 0 < (l.length : Int) by omega), show ((l.length : Int) == 0) = true by rw [beq_iff_eq]; omega]
    cases shG gr <;> cases dsB gr l <;> cases decide ((hdD l).s.length = l.length) <;> rfl
set_option maxRecDepth 100000 in
set_option maxHeartbeats 2000000 in
theorem impl_IsKeyGenInput1 (v : Value) (d : DealingD) (b : Nat) (lv : Value) (l : List DealingD) (w : World) (h : (kS rDealing).rd w v d) (hx : w.cell? ⟨b, 0, none⟩ = some lv) (hl : RdR rDealing w lv l) (hl0 : 0 < l.length) :
    Calls Try.prog 177 #[v, .pointer (some ⟨b, 0, none⟩)] w fun e w' => e = .returned (.bool (kgP l d)) ∧ Below w.heap.size w w' := by
  obtain ⟨a, n, c, rfl⟩ := hl.shape
  have HE := Lib.hid hl.len
  obtain ⟨q, hq⟩ : ∃ q, smB d (hdD l) = q := ⟨_, rfl⟩
  have HQ := Lib.hid hq
  clear hq
  obtain ⟨lb, lo, a0, n0, c0, a1, n1, c1, e, x0, x1, f0, f1⟩ := RdDl.first hl hl0
  cases e
  rw [← hdD_eq hl0] at f0 f1
  obtain ⟨p0, m0, k0, p1, m1, k1, rfl, g0, g1⟩ := rdDealing.1 h
  have HM1 := Lib.hid g1.len
  obtain ⟨W, hW⟩ : ∃ W, W = w.alloc (.cells #[.slice p0 m0 k0, .slice p1 m1 k1] 57) := ⟨_, rfl⟩
  have HB : Hid (Below w.heap.size w W) := by unfold Hid; rw [hW]; (repeat (first | exact Below.refl _ _ | assumption | refine Below.drew ?_ | refine Below.alloc ?_ (by first | (simp; done) | (simp; omega)) _ | refine Below.setCell ?_ (by first | (simp; done) | (simp; omega)) _))
  have HDl : Hid (DlR W (.agg #[.slice p0 m0 k0, .slice p1 m1 k1]) d) := (DlR.mk g0 g1 : DlR w _ d).below HB.out
  have HHd : Hid (DlR W (.agg #[.slice a0 n0 c0, .slice a1 n1 c1]) (hdD l)) := (DlR.mk f0 f1 : DlR w _ (hdD l)).below HB.out
  clear h g0 g1 f0 f1 hl
  have d0 : W.cell? ⟨w.heap.size, 0, none⟩ = some (.slice p0 m0 k0) := by rw [hW]; simp [go_sem]
  have d1 : W.cell? ⟨w.heap.size, 1, none⟩ = some (.slice p1 m1 k1) := by rw [hW]; simp [go_sem]
  have xb := box_at hx HB.out
  have h0 := box_at x0 HB.out
  have h1 := box_at x1 HB.out
  have hlt := World.block_lt_of_cell? w _ hx
  have hlt2 := World.block_lt_of_cell? w _ x0
  have hk0 : 0 < n := by have := HE.out; omega
  go_enter Try.func177, Try.ntmps177
  go_wp2_with fail
  rw [← hW]
  clear hW hx x0 x1 hl0
  have hc : Below W.heap.size W W := Below.refl _ _
  cases q with
  | false =>
    have HV : Hid (kgP l d = true) := by unfold Hid kgP; rw [HQ.out]; rfl
    try (go_wp2_with fail)
    refine wp_region_noPanic ?_
    refine wp_region_P (fun w' => w'.cell? ⟨w.heap.size, 0, none⟩ = some (.slice p0 m0 k0) ∧ w'.cell? ⟨w.heap.size, 1, none⟩ = some (.slice p1 m1 k1) ∧ w'.cell? ⟨b, 0, none⟩ = some (.slice (some ⟨lb, lo, none⟩) n c) ∧ w'.cell? ⟨lb, lo, none⟩ = some (.slice a0 n0 c0) ∧ w'.cell? ⟨lb, lo + 1, none⟩ = some (.slice a1 n1 c1)) 17 [(0, []), (1, []), (2, [0]), (3, [0]), (4, [3, 0]), (5, [0]), (6, [0]), (7, [0]), (8, [0, 1]), (9, [0, 2]), (10, [3]), (11, [0, 4]), (12, [2, 0, 5]), (13, [6, 0]), (14, [0])] [] (by kernel_rfl) (by kernel_rfl) (by kernel_rfl) rfl (fun _ _ _ _ h => h) (fun w' h => ⟨box_at d0 h, box_at d1 h, box_at xb h, box_at h0 h, box_at h1 h⟩) ?_
    simp only [pickP, pickN, List.getElem?_cons_zero, List.getElem?_cons_succ]
    iterate 4 (refine' chainP_read _ rfl rfl (fun w' hS' => ?_) ?_; rotate_left; · (simp only [lookP, allP, Act.put, List.getElem?_cons_zero, List.getElem?_cons_succ, List.setIfInBounds_toArray, List.set_cons_zero, List.set_cons_succ]; (try dsimp only at hS'); go_simp; (try with_reducible rfl)))
    -- 4: call { callee := value (func 178), args := #[t4, t7], argTypes := #[57, 57] }
    refine chainP_call (d := (some 8)) (.bool false) rfl rfl (fun w' hS' => ?_) ?_
    · simp only [lookP, allP, Act.put, List.getElem?_cons_zero, List.getElem?_cons_succ, List.setIfInBounds_toArray, List.set_cons_zero, List.set_cons_succ]
      intro K hK
      go_simp
      go_at_call 178
      refine (impl_sameShape _ _ d (hdD l) _ (HDl.out.below hS'.1) (HHd.out.below hS'.1)).mono ?_
      rintro e u ⟨rfl, hq⟩
      rw [HQ.out]
      exact hK.out _ hq
    iterate 2 (refine' chainP_read _ rfl rfl (fun w' hS' => ?_) ?_; rotate_left; · (simp only [lookP, allP, Act.put, List.getElem?_cons_zero, List.getElem?_cons_succ, List.setIfInBounds_toArray, List.set_cons_zero, List.set_cons_succ]; (try dsimp only at hS'); go_simp; (try with_reducible rfl)))
    -- 7: fieldAddr 57 t2 1
    refine chainP_skip (d := (some 11)) rfl (fun w' hS' => ?_) ?_
    · simp only [lookP, allP, Act.put, List.getElem?_cons_zero, List.getElem?_cons_succ, List.setIfInBounds_toArray, List.set_cons_zero, List.set_cons_succ]
      kernel_rfl
    -- 8: load 42 t11
    refine chainP_skip (d := (some 12)) rfl (fun w' hS' => ?_) ?_
    · simp only [lookP, allP, Act.put, List.getElem?_cons_zero, List.getElem?_cons_succ, List.setIfInBounds_toArray, List.set_cons_zero, List.set_cons_succ]
      kernel_rfl
    -- 9: call { callee := builtin Builtin.len, args := #[t12], argTypes := #[42] }
    refine chainP_skip (d := (some 13)) rfl (fun w' hS' => ?_) ?_
    · simp only [lookP, allP, Act.put, List.getElem?_cons_zero, List.getElem?_cons_succ, List.setIfInBounds_toArray, List.set_cons_zero, List.set_cons_succ]
      kernel_rfl
    -- 10: load 68 t1
    refine chainP_skip (d := (some 14)) rfl (fun w' hS' => ?_) ?_
    · simp only [lookP, allP, Act.put, List.getElem?_cons_zero, List.getElem?_cons_succ, List.setIfInBounds_toArray, List.set_cons_zero, List.set_cons_succ]
      kernel_rfl
    -- 11: call { callee := builtin Builtin.len, args := #[t14], argTypes := #[68] }
    refine chainP_skip (d := (some 15)) rfl (fun w' hS' => ?_) ?_
    · simp only [lookP, allP, Act.put, List.getElem?_cons_zero, List.getElem?_cons_succ, List.setIfInBounds_toArray, List.set_cons_zero, List.set_cons_succ]
      kernel_rfl
    -- 12: binOp Binneq 3 t13 t15 3
    refine chainP_skip (d := (some 16)) rfl (fun w' hS' => ?_) ?_
    · simp only [lookP, allP, Act.put, List.getElem?_cons_zero, List.getElem?_cons_succ, List.setIfInBounds_toArray, List.set_cons_zero, List.set_cons_succ]
      kernel_rfl
    iterate 2 (refine' chainP_read _ rfl rfl (fun w' hS' => ?_) ?_; rotate_left; · (simp only [lookP, allP, Act.put, List.getElem?_cons_zero, List.getElem?_cons_succ, List.setIfInBounds_toArray, List.set_cons_zero, List.set_cons_succ]; (try dsimp only at hS'); go_simp; (try with_reducible rfl)))
    refine chainP_nil (fun ua hS' => ?_)
    simp only [allP, Act.put, List.setIfInBounds_toArray, List.set_cons_zero, List.set_cons_succ]
    have hq1 := hS'.1
    clear hS'
    replace hc := Below.next hc hq1
    replace d0 := box_at d0 hq1
    replace d1 := box_at d1 hq1
    replace xb := box_at xb hq1
    replace h0 := box_at h0 hq1
    replace h1 := box_at h1 hq1
    clear hq1
    go_wp2_with fail
    refine NoPanic.normal ?_
    (try (go_wp2_with fail))
    go_ret
    exact ⟨by rw [HV.out]; rfl, HB.out.trans (hc.mono HB.out.size)⟩
  | true =>
    by_cases hmn : m1 = n
    · have hne : ((m1 : Int) != (n : Int)) = false := by rw [bne_eq_false_iff_eq]; omega
      have HV : Hid (kgP l d = false) := by unfold Hid kgP; rw [HQ.out, decide_eq_true (by have := HE.out; have := HM1.out; omega)]; rfl
      clear hmn
      try (go_wp2_with fail)
      refine wp_region_noPanic ?_
      refine wp_region_P (fun w' => w'.cell? ⟨w.heap.size, 0, none⟩ = some (.slice p0 m0 k0) ∧ w'.cell? ⟨w.heap.size, 1, none⟩ = some (.slice p1 m1 k1) ∧ w'.cell? ⟨b, 0, none⟩ = some (.slice (some ⟨lb, lo, none⟩) n c) ∧ w'.cell? ⟨lb, lo, none⟩ = some (.slice a0 n0 c0) ∧ w'.cell? ⟨lb, lo + 1, none⟩ = some (.slice a1 n1 c1)) 17 [(0, []), (1, []), (2, [0]), (3, [0]), (4, [3, 0]), (5, [0]), (6, [0]), (7, [0]), (8, [0, 1]), (9, [0, 2]), (10, [3]), (11, [0, 4]), (12, [2, 0, 5]), (13, [6, 0]), (14, [0])] [] (by kernel_rfl) (by kernel_rfl) (by kernel_rfl) rfl (fun _ _ _ _ h => h) (fun w' h => ⟨box_at d0 h, box_at d1 h, box_at xb h, box_at h0 h, box_at h1 h⟩) ?_
      simp only [pickP, pickN, List.getElem?_cons_zero, List.getElem?_cons_succ]
      iterate 4 (refine' chainP_read _ rfl rfl (fun w' hS' => ?_) ?_; rotate_left; · (simp only [lookP, allP, Act.put, List.getElem?_cons_zero, List.getElem?_cons_succ, List.setIfInBounds_toArray, List.set_cons_zero, List.set_cons_succ]; (try dsimp only at hS'); go_simp; (try with_reducible rfl)))
      -- 4: call { callee := value (func 178), args := #[t4, t7], argTypes := #[57, 57] }
      refine chainP_call (d := (some 8)) (.bool true) rfl rfl (fun w' hS' => ?_) ?_
      · simp only [lookP, allP, Act.put, List.getElem?_cons_zero, List.getElem?_cons_succ, List.setIfInBounds_toArray, List.set_cons_zero, List.set_cons_succ]
        intro K hK
        go_simp
        go_at_call 178
        refine (impl_sameShape _ _ d (hdD l) _ (HDl.out.below hS'.1) (HHd.out.below hS'.1)).mono ?_
        rintro e u ⟨rfl, hq⟩
        rw [HQ.out]
        exact hK.out _ hq
      iterate 2 (refine' chainP_read _ rfl rfl (fun w' hS' => ?_) ?_; rotate_left; · (simp only [lookP, allP, Act.put, List.getElem?_cons_zero, List.getElem?_cons_succ, List.setIfInBounds_toArray, List.set_cons_zero, List.set_cons_succ]; (try dsimp only at hS'); go_simp; (try with_reducible rfl)))
      -- 7: fieldAddr 57 t2 1
      refine' chainP_readG (d := (some 11)) _ rfl (fun w' hS' => ?_) ?_; rotate_left
      · simp only [lookP, allP, Act.put, List.getElem?_cons_zero, List.getElem?_cons_succ, List.setIfInBounds_toArray, List.set_cons_zero, List.set_cons_succ]
        refine ⟨by kernel_rfl, ?_⟩
        (try dsimp only at hS')
        go_simp
        (try with_reducible rfl)
      -- 8: load 42 t11
      refine' chainP_readG (d := (some 12)) _ rfl (fun w' hS' => ?_) ?_; rotate_left
      · simp only [lookP, allP, Act.put, List.getElem?_cons_zero, List.getElem?_cons_succ, List.setIfInBounds_toArray, List.set_cons_zero, List.set_cons_succ]
        refine ⟨by kernel_rfl, ?_⟩
        (try dsimp only at hS')
        go_simp
        (try with_reducible rfl)
      -- 9: call { callee := builtin Builtin.len, args := #[t12], argTypes := #[42] }
      refine' chainP_readG (d := (some 13)) _ rfl (fun w' hS' => ?_) ?_; rotate_left
      · simp only [lookP, allP, Act.put, List.getElem?_cons_zero, List.getElem?_cons_succ, List.setIfInBounds_toArray, List.set_cons_zero, List.set_cons_succ]
        refine ⟨by kernel_rfl, ?_⟩
        (try dsimp only at hS')
        go_simp
        (try with_reducible rfl)
      -- 10: load 68 t1
      refine' chainP_readG (d := (some 14)) _ rfl (fun w' hS' => ?_) ?_; rotate_left
      · simp only [lookP, allP, Act.put, List.getElem?_cons_zero, List.getElem?_cons_succ, List.setIfInBounds_toArray, List.set_cons_zero, List.set_cons_succ]
        refine ⟨by kernel_rfl, ?_⟩
        (try dsimp only at hS')
        go_simp
        (try with_reducible rfl)
      -- 11: call { callee := builtin Builtin.len, args := #[t14], argTypes := #[68] }
      refine' chainP_readG (d := (some 15)) _ rfl (fun w' hS' => ?_) ?_; rotate_left
      · simp only [lookP, allP, Act.put, List.getElem?_cons_zero, List.getElem?_cons_succ, List.setIfInBounds_toArray, List.set_cons_zero, List.set_cons_succ]
        refine ⟨by kernel_rfl, ?_⟩
        (try dsimp only at hS')
        go_simp
        (try with_reducible rfl)
      -- 12: binOp Binneq 3 t13 t15 3
      refine' chainP_readG (d := (some 16)) _ rfl (fun w' hS' => ?_) ?_; rotate_left
      · simp only [lookP, allP, Act.put, List.getElem?_cons_zero, List.getElem?_cons_succ, List.setIfInBounds_toArray, List.set_cons_zero, List.set_cons_succ]
        refine ⟨by kernel_rfl, ?_⟩
        (try dsimp only at hS')
        go_simp
        (try with_reducible rfl)
      iterate 2 (refine' chainP_read _ rfl rfl (fun w' hS' => ?_) ?_; rotate_left; · (simp only [lookP, allP, Act.put, List.getElem?_cons_zero, List.getElem?_cons_succ, List.setIfInBounds_toArray, List.set_cons_zero, List.set_cons_succ]; (try dsimp only at hS'); go_simp; (try with_reducible rfl)))
      refine chainP_nil (fun ua hS' => ?_)
      simp only [allP, Act.put, List.setIfInBounds_toArray, List.set_cons_zero, List.set_cons_succ]
      have hq1 := hS'.1
      clear hS'
      replace hc := Below.next hc hq1
      replace d0 := box_at d0 hq1
      replace d1 := box_at d1 hq1
      replace xb := box_at xb hq1
      replace h0 := box_at h0 hq1
      replace h1 := box_at h1 hq1
      clear hq1
      go_wp2_with fail
      refine NoPanic.normal ?_
      (try (go_wp2_with fail))
      go_ret
      exact ⟨by rw [HV.out]; rfl, HB.out.trans (hc.mono HB.out.size)⟩
    · have hne : ((m1 : Int) != (n : Int)) = true := by rw [bne_iff_ne]; omega
      have HV : Hid (kgP l d = true) := by unfold Hid kgP; rw [HQ.out, decide_eq_false (by have := HE.out; have := HM1.out; omega)]; rfl
      clear hmn
      try (go_wp2_with fail)
      refine wp_region_noPanic ?_
      refine wp_region_P (fun w' => w'.cell? ⟨w.heap.size, 0, none⟩ = some (.slice p0 m0 k0) ∧ w'.cell? ⟨w.heap.size, 1, none⟩ = some (.slice p1 m1 k1) ∧ w'.cell? ⟨b, 0, none⟩ = some (.slice (some ⟨lb, lo, none⟩) n c) ∧ w'.cell? ⟨lb, lo, none⟩ = some (.slice a0 n0 c0) ∧ w'.cell? ⟨lb, lo + 1, none⟩ = some (.slice a1 n1 c1)) 17 [(0, []), (1, []), (2, [0]), (3, [0]), (4, [3, 0]), (5, [0]), (6, [0]), (7, [0]), (8, [0, 1]), (9, [0, 2]), (10, [3]), (11, [0, 4]), (12, [2, 0, 5]), (13, [6, 0]), (14, [0])] [] (by kernel_rfl) (by kernel_rfl) (by kernel_rfl) rfl (fun _ _ _ _ h => h) (fun w' h => ⟨box_at d0 h, box_at d1 h, box_at xb h, box_at h0 h, box_at h1 h⟩) ?_
      simp only [pickP, pickN, List.getElem?_cons_zero, List.getElem?_cons_succ]
      iterate 4 (refine' chainP_read _ rfl rfl (fun w' hS' => ?_) ?_; rotate_left; · (simp only [lookP, allP, Act.put, List.getElem?_cons_zero, List.getElem?_cons_succ, List.setIfInBounds_toArray, List.set_cons_zero, List.set_cons_succ]; (try dsimp only at hS'); go_simp; (try with_reducible rfl)))
      -- 4: call { callee := value (func 178), args := #[t4, t7], argTypes := #[57, 57] }
      refine chainP_call (d := (some 8)) (.bool true) rfl rfl (fun w' hS' => ?_) ?_
      · simp only [lookP, allP, Act.put, List.getElem?_cons_zero, List.getElem?_cons_succ, List.setIfInBounds_toArray, List.set_cons_zero, List.set_cons_succ]
        intro K hK
        go_simp
        go_at_call 178
        refine (impl_sameShape _ _ d (hdD l) _ (HDl.out.below hS'.1) (HHd.out.below hS'.1)).mono ?_
        rintro e u ⟨rfl, hq⟩
        rw [HQ.out]
        exact hK.out _ hq
      iterate 2 (refine' chainP_read _ rfl rfl (fun w' hS' => ?_) ?_; rotate_left; · (simp only [lookP, allP, Act.put, List.getElem?_cons_zero, List.getElem?_cons_succ, List.setIfInBounds_toArray, List.set_cons_zero, List.set_cons_succ]; (try dsimp only at hS'); go_simp; (try with_reducible rfl)))
      -- 7: fieldAddr 57 t2 1
      refine' chainP_readG (d := (some 11)) _ rfl (fun w' hS' => ?_) ?_; rotate_left
      · simp only [lookP, allP, Act.put, List.getElem?_cons_zero, List.getElem?_cons_succ, List.setIfInBounds_toArray, List.set_cons_zero, List.set_cons_succ]
        refine ⟨by kernel_rfl, ?_⟩
        (try dsimp only at hS')
        go_simp
        (try with_reducible rfl)
      -- 8: load 42 t11
      refine' chainP_readG (d := (some 12)) _ rfl (fun w' hS' => ?_) ?_; rotate_left
      · simp only [lookP, allP, Act.put, List.getElem?_cons_zero, List.getElem?_cons_succ, List.setIfInBounds_toArray, List.set_cons_zero, List.set_cons_succ]
        refine ⟨by kernel_rfl, ?_⟩
        (try dsimp only at hS')
        go_simp
        (try with_reducible rfl)
      -- 9: call { callee := builtin Builtin.len, args := #[t12], argTypes := #[42] }
      refine' chainP_readG (d := (some 13)) _ rfl (fun w' hS' => ?_) ?_; rotate_left
      · simp only [lookP, allP, Act.put, List.getElem?_cons_zero, List.getElem?_cons_succ, List.setIfInBounds_toArray, List.set_cons_zero, List.set_cons_succ]
        refine ⟨by kernel_rfl, ?_⟩
        (try dsimp only at hS')
        go_simp
        (try with_reducible rfl)
      -- 10: load 68 t1
      refine' chainP_readG (d := (some 14)) _ rfl (fun w' hS' => ?_) ?_; rotate_left
      · simp only [lookP, allP, Act.put, List.getElem?_cons_zero, List.getElem?_cons_succ, List.setIfInBounds_toArray, List.set_cons_zero, List.set_cons_succ]
        refine ⟨by kernel_rfl, ?_⟩
        (try dsimp only at hS')
        go_simp
        (try with_reducible rfl)
      -- 11: call { callee := builtin Builtin.len, args := #[t14], argTypes := #[68] }
      refine' chainP_readG (d := (some 15)) _ rfl (fun w' hS' => ?_) ?_; rotate_left
      · simp only [lookP, allP, Act.put, List.getElem?_cons_zero, List.getElem?_cons_succ, List.setIfInBounds_toArray, List.set_cons_zero, List.set_cons_succ]
        refine ⟨by kernel_rfl, ?_⟩
        (try dsimp only at hS')
        go_simp
        (try with_reducible rfl)
      -- 12: binOp Binneq 3 t13 t15 3
      refine' chainP_readG (d := (some 16)) _ rfl (fun w' hS' => ?_) ?_; rotate_left
      · simp only [lookP, allP, Act.put, List.getElem?_cons_zero, List.getElem?_cons_succ, List.setIfInBounds_toArray, List.set_cons_zero, List.set_cons_succ]
        refine ⟨by kernel_rfl, ?_⟩
        (try dsimp only at hS')
        go_simp
        (try with_reducible rfl)
      iterate 2 (refine' chainP_read _ rfl rfl (fun w' hS' => ?_) ?_; rotate_left; · (simp only [lookP, allP, Act.put, List.getElem?_cons_zero, List.getElem?_cons_succ, List.setIfInBounds_toArray, List.set_cons_zero, List.set_cons_succ]; (try dsimp only at hS'); go_simp; (try with_reducible rfl)))
      refine chainP_nil (fun ua hS' => ?_)
      simp only [allP, Act.put, List.setIfInBounds_toArray, List.set_cons_zero, List.set_cons_succ]
      have hq1 := hS'.1
      clear hS'
      replace hc := Below.next hc hq1
      replace d0 := box_at d0 hq1
      replace d1 := box_at d1 hq1
      replace xb := box_at xb hq1
      replace h0 := box_at h0 hq1
      replace h1 := box_at h1 hq1
      clear hq1
      go_wp2_with fail
      refine NoPanic.normal ?_
      (try (go_wp2_with fail))
      go_ret
      exact ⟨by rw [HV.out]; rfl, HB.out.trans (hc.mono HB.out.size)⟩
set_option maxRecDepth 100000 in
set_option maxHeartbeats 2000000 in
theorem impl_IsKeyGenInput (gr : GroupD) (lv : Value) (l : List DealingD) (w : World) (hl : RdR rDealing w lv l) :
    Calls Try.prog 129 #[.agg #[.int .i64 gr.p, .int .i64 gr.q, .int .i64 gr.g], lv] w fun e w' => e = .returned (.bool (kiB gr l)) ∧ Below w.heap.size w w' := by
  obtain ⟨lva, lvn, lvc, rfl⟩ := hl.shape
  have Elv := Lib.hid hl.len
  have Klv := Lib.hid hl.capMax
  have Hlv := Lib.hid hl
  clear hl
  obtain ⟨W, hW⟩ : ∃ W, W = (w.alloc (.cells #[.int .i64 gr.p, .int .i64 gr.q, .int .i64 gr.g] 24)).alloc (.cells #[(.slice lva lvn lvc)] 68) := ⟨_, rfl⟩
  have HB : Hid (Below w.heap.size w W) := by unfold Hid; rw [hW]; (repeat (first | exact Below.refl _ _ | assumption | refine Below.drew ?_ | refine Below.alloc ?_ (by first | (simp; done) | (simp; omega)) _ | refine Below.setCell ?_ (by first | (simp; done) | (simp; omega)) _))
  have c0_0 : W.cell? ⟨w.heap.size, 0, none⟩ = some (.int .i64 gr.p) := by rw [hW]; simp [go_sem]
  have c0_1 : W.cell? ⟨w.heap.size, 1, none⟩ = some (.int .i64 gr.q) := by rw [hW]; simp [go_sem]
  have c0_2 : W.cell? ⟨w.heap.size, 2, none⟩ = some (.int .i64 gr.g) := by rw [hW]; simp [go_sem]
  have c1_0 : W.cell? ⟨w.heap.size + 1, 0, none⟩ = some ((.slice lva lvn lvc)) := by rw [hW]; simp [go_sem]
  have HSW : Hid (W.heap.size = w.heap.size + 2) := by unfold Hid; rw [hW]; simp
  go_enter Try.func129, Try.ntmps129
  go_wp2_with fail
  rw [← hW]
  have hse : w.heap.size + 1 + 1 = W.heap.size := by have := HSW.out; omega
  (try rw [hse])
  clear hse
  clear hW
  have hc : Below W.heap.size W W := Below.refl _ _
  have HCC : Hid (∀ u, Below W.heap.size W u → u.cell? ⟨w.heap.size, 0, none⟩ = some (.int .i64 gr.p) ∧ u.cell? ⟨w.heap.size, 1, none⟩ = some (.int .i64 gr.q) ∧ u.cell? ⟨w.heap.size, 2, none⟩ = some (.int .i64 gr.g) ∧ u.cell? ⟨w.heap.size + 1, 0, none⟩ = some ((.slice lva lvn lvc))) := fun u h => ⟨box_at c0_0 h, box_at c0_1 h, box_at c0_2 h, box_at c1_0 h⟩
  go_wp2_with fail
  refine (impl_isSharing gr _).mono ?_
  rintro e u1 ⟨rfl, hq1⟩
  replace hc := Below.next hc hq1
  clear hq1 c0_0 c0_1 c0_2 c1_0
  obtain ⟨c0_0, c0_1, c0_2, c1_0⟩ := HCC.out _ hc
  cases hc1 : shG gr with
  | false =>
    have Hhc1 := Lib.hid hc1
    clear hc1
    go_wp2_with fail
    have HV : Hid ((.bool (kiB gr l) : Value) = .bool false) := by unfold Hid; simp [kiB_alt, Hhc1.out]
    go_ret
    exact ⟨congrArg Ending.returned HV.out.symm, HB.out.trans (hc.mono HB.out.size)⟩
  | true =>
    have HSG := Lib.hid hc1
    have HG := Lib.hid (shG_ok hc1)
    have Hhc1 := Lib.hid hc1
    clear hc1
    cases hc2 : decide (0 < (lvn : Int)) with
    | false =>
      have HL0 : Hid (decide (0 < (l.length : Int)) = false) := by have q := hc2; unfold Hid; rw [Elv.out]; exact q
      have HL0n : Hid (¬ 0 < l.length) := by have q := of_decide_eq_false hc2; have := Elv.out; unfold Hid; omega
      have hcpU : ¬ 0 < lvn := by have q := of_decide_eq_false hc2; omega
      have hcnU : decide (0 < lvn) = false := decide_eq_false hcpU
      go_wp2_with fail
      have HV : Hid ((.bool (kiB gr l) : Value) = .bool false) := by unfold Hid; simp [kiB_alt, Hhc1.out, HL0.out, HL0n.out]
      go_ret
      exact ⟨congrArg Ending.returned HV.out.symm, HB.out.trans (hc.mono HB.out.size)⟩
    | true =>
      have HL0 : Hid (decide (0 < (l.length : Int)) = true) := by have q := hc2; unfold Hid; rw [Elv.out]; exact q
      have HLP : Hid (0 < l.length) := by have q := of_decide_eq_true hc2; have := Elv.out; unfold Hid; omega
      have HL0n : Hid (0 < l.length) := HLP.out
      have hcpU : 0 < lvn := by have q := of_decide_eq_true hc2; omega
      have hcnU : decide (0 < lvn) = true := decide_eq_true hcpU
      go_wp2_with fail
      refine (impl_hasDealings gr _ l _ HG.out (Hlv.out.below (HB.out.trans (hc.mono HB.out.size)))).mono ?_
      rintro e u2 ⟨rfl, hq2⟩
      replace hc := Below.next hc hq2
      clear hq2 c0_0 c0_1 c0_2 c1_0
      obtain ⟨c0_0, c0_1, c0_2, c1_0⟩ := HCC.out _ hc
      cases hc3 : dsB gr l with
      | false =>
        have Hhc3 := Lib.hid hc3
        clear hc3
        go_wp2_with fail
        have HV : Hid ((.bool (kiB gr l) : Value) = .bool false) := by unfold Hid; simp [kiB_alt, Hhc1.out, Hhc3.out, HL0.out, HL0n.out]
        go_ret
        exact ⟨congrArg Ending.returned HV.out.symm, HB.out.trans (hc.mono HB.out.size)⟩
      | true =>
        have HDEC : Hid (DecidesS rDealing u2 177 #[.pointer (some ⟨w.heap.size + 1, 0, none⟩)] (fun d => kgP l d)) := ⟨Try.call177, fun v d wr hx hb => impl_IsKeyGenInput1 v d _ _ l wr hx (box_at c1_0 hb) ((Hlv.out.below (HB.out.trans (hc.mono HB.out.size))).below hb) HLP.out⟩
        have Hhc3 := Lib.hid hc3
        clear hc3
        go_wp2_with fail
        refine (slices_ContainsFuncDealing _ l _ _ (fun d => kgP l d) _ (Hlv.out.below (HB.out.trans (hc.mono HB.out.size))) HDEC.out).mono ?_
        rintro e u3 ⟨rfl, hq3⟩
        replace hc := Below.next hc hq3
        clear hq3 c0_0 c0_1 c0_2 c1_0
        obtain ⟨c0_0, c0_1, c0_2, c1_0⟩ := HCC.out _ hc
        cases hc4 : (l.any fun d => kgP l d) with
        | false =>
          have Hhc4 := Lib.hid hc4
          clear hc4
          go_wp2_with fail
          have HV : Hid ((.bool (kiB gr l) : Value) = .bool true) := by unfold Hid; simp [kiB_alt, Hhc1.out, Hhc3.out, Hhc4.out, HL0.out, HL0n.out]
          go_ret
          exact ⟨congrArg Ending.returned HV.out.symm, HB.out.trans (hc.mono HB.out.size)⟩
        | true =>
          have Hhc4 := Lib.hid hc4
          clear hc4
          go_wp2_with fail
          have HV : Hid ((.bool (kiB gr l) : Value) = .bool false) := by unfold Hid; simp [kiB_alt, Hhc1.out, Hhc3.out, Hhc4.out, HL0.out, HL0n.out]
          go_ret
          exact ⟨congrArg Ending.returned HV.out.symm, HB.out.trans (hc.mono HB.out.size)⟩
/-- a list in new memory and a Bool are returned -/
def RetIQ (e : Ending) (w : World) (B : Nat) (b : Bool) (l : List Int) : Prop := ∃ x, e = .returned (.tuple #[x, .bool b]) ∧ OwnI w B x l
theorem RetIQ.mk {w : World} {B : Nat} {x : Value} {b : Bool} {l : List Int} (h : OwnI w B x l) : RetIQ (.returned (.tuple #[x, .bool b])) w B b l := ⟨x, rfl, h⟩
theorem kaB_facts {gr : GroupD} {l : List DealingD} {an : List (List Int)} (h : kaB gr l an = true) : OkG gr ∧ (∀ d ∈ l, deB gr d = true) ∧ an.length = l.length ∧ (1 ≤ l.length ∧ l.length ≤ 7) := by
  obtain ⟨h1, h2, h3, h4, h5⟩ := kaB_parts h
  unfold alB at h2
  rw [Bool.and_eq_true, decide_eq_true_iff, List.all_eq_true] at h2
  refine ⟨shG_ok h1, fun d hd => ?_, h4, by omega, by omega⟩
  have := h2.2 d hd
  rw [Bool.and_eq_true] at this
  exact this.1
set_option maxRecDepth 100000 in
set_option maxHeartbeats 2000000 in
theorem impl_QualifiedIn (gr : GroupD) (lv : Value) (l : List DealingD) (av : Value) (an : List (List Int)) (w : World) (hl : RdR rDealing w lv l) (ha : RdL kInts w av an) :
    Calls Try.prog 41 #[.agg #[.int .i64 gr.p, .int .i64 gr.q, .int .i64 gr.g], lv, av] w fun e w' => RetIQ e w' w.heap.size (kaB gr l an) (kaR gr l an) ∧ Below w.heap.size w w' := by
  obtain ⟨lva, lvn, lvc, rfl⟩ := hl.shape
  have Elv := Lib.hid hl.len
  have Klv := Lib.hid hl.capMax
  have Hlv := Lib.hid hl
  clear hl
  obtain ⟨ava, avn, avc, rfl⟩ := ha.shape
  have Eav := Lib.hid ha.len
  have Kav := Lib.hid ha.capMax
  have Hav := Lib.hid ha
  clear ha
  obtain ⟨W, hW⟩ : ∃ W, W = w.alloc (.cells #[.int .i64 gr.p, .int .i64 gr.q, .int .i64 gr.g] 24) := ⟨_, rfl⟩
  have HB : Hid (Below w.heap.size w W) := by unfold Hid; rw [hW]; (repeat (first | exact Below.refl _ _ | assumption | refine Below.drew ?_ | refine Below.alloc ?_ (by first | (simp; done) | (simp; omega)) _ | refine Below.setCell ?_ (by first | (simp; done) | (simp; omega)) _))
  have c0_0 : W.cell? ⟨w.heap.size, 0, none⟩ = some (.int .i64 gr.p) := by rw [hW]; simp [go_sem]
  have c0_1 : W.cell? ⟨w.heap.size, 1, none⟩ = some (.int .i64 gr.q) := by rw [hW]; simp [go_sem]
  have c0_2 : W.cell? ⟨w.heap.size, 2, none⟩ = some (.int .i64 gr.g) := by rw [hW]; simp [go_sem]
  have HSW : Hid (W.heap.size = w.heap.size + 1) := by unfold Hid; rw [hW]; simp
  go_enter Try.func41, Try.ntmps41
  go_wp2_with fail
  rw [← hW]
  have hse : w.heap.size + 1 = W.heap.size := by have := HSW.out; omega
  (try rw [hse])
  clear hse
  clear hW
  have hc : Below W.heap.size W W := Below.refl _ _
  have HCC : Hid (∀ u, Below W.heap.size W u → u.cell? ⟨w.heap.size, 0, none⟩ = some (.int .i64 gr.p) ∧ u.cell? ⟨w.heap.size, 1, none⟩ = some (.int .i64 gr.q) ∧ u.cell? ⟨w.heap.size, 2, none⟩ = some (.int .i64 gr.g)) := fun u h => ⟨box_at c0_0 h, box_at c0_1 h, box_at c0_2 h⟩
  go_wp2_with fail
  refine (impl_IsKeyGenInput gr _ l _ (Hlv.out.below (HB.out.trans (hc.mono HB.out.size)))).mono ?_
  rintro e u1 ⟨rfl, hq1⟩
  replace hc := Below.next hc hq1
  clear hq1 c0_0 c0_1 c0_2
  obtain ⟨c0_0, c0_1, c0_2⟩ := HCC.out _ hc
  cases hc1 : kiB gr l with
  | false =>
    have Hhc1 := Lib.hid hc1
    clear hc1
    go_wp2_with fail
    have HVB : Hid (kaB gr l an = false) := by unfold Hid; simp [kaB, Hhc1.out]
    have HPR : Hid (kaR gr l an = []) := by unfold Hid kaR; rw [if_neg (by rw [HVB.out]; simp)]
    go_ret2
    exact ⟨(by rw [HVB.out, HPR.out]; exact RetIQ.mk (OwnI.nil _ _)), HB.out.trans (hc.mono HB.out.size)⟩
  | true =>
    have HKI := Lib.hid hc1
    have HG := Lib.hid (shG_ok (by have q := hc1; unfold kiB at q; rw [Bool.and_eq_true] at q; exact q.1))
    have Hhc1 := Lib.hid hc1
    clear hc1
    go_wp2_with fail
    refine (impl_areAnswers gr _ an lvn _ HG.out (Hav.out.below (HB.out.trans (hc.mono HB.out.size)))).mono ?_
    rintro e u2 ⟨rfl, hq2⟩
    replace hc := Below.next hc hq2
    clear hq2 c0_0 c0_1 c0_2
    obtain ⟨c0_0, c0_1, c0_2⟩ := HCC.out _ hc
    cases hc2 : (decide (an.length = lvn) && anB gr an) with
    | false =>
      have HKA : Hid (kaB gr l an = false) := by have q := hc2; unfold Hid kaB; rw [HKI.out, Elv.out, q]; rfl
      have Hhc2 := Lib.hid hc2
      clear hc2
      go_wp2_with fail
      have HVB : Hid (kaB gr l an = false) := by unfold Hid; exact HKA.out
      have HPR : Hid (kaR gr l an = []) := by unfold Hid kaR; rw [if_neg (by rw [HVB.out]; simp)]
      go_ret2
      exact ⟨(by rw [HVB.out, HPR.out]; exact RetIQ.mk (OwnI.nil _ _)), HB.out.trans (hc.mono HB.out.size)⟩
    | true =>
      have HKA : Hid (kaB gr l an = true) := by have q := hc2; unfold Hid kaB; rw [HKI.out, Elv.out, q]; rfl
      have HKF := Lib.hid (kaB_facts HKA.out)
      have Hhc2 := Lib.hid hc2
      clear hc2
      go_wp2_with fail
      refine (impl_qualified gr _ l _ an _ HG.out (Hlv.out.below (HB.out.trans (hc.mono HB.out.size))) (Hav.out.below (HB.out.trans (hc.mono HB.out.size))) HKF.out.2.1 HKF.out.2.2.1 HKF.out.2.2.2.2).mono ?_
      rintro e u3 ⟨⟨vq, rfl, hom⟩, hq3⟩
      have hszv := hc.size
      replace hc := Below.next hc hq3
      clear hq3 c0_0 c0_1 c0_2
      obtain ⟨c0_0, c0_1, c0_2⟩ := HCC.out _ hc
      go_wp2_with fail
      have HVB : Hid (kaB gr l an = true) := by unfold Hid; exact HKA.out
      have HPR : Hid (kaR gr l an = kqE gr l an) := by unfold Hid kaR; rw [if_pos (by rw [HVB.out])]
      go_ret2
      exact ⟨(by rw [HVB.out, HPR.out]; exact RetIQ.mk (hom.mono (by have := HB.out.size; omega))), HB.out.trans (hc.mono HB.out.size)⟩
end Go.Proofs.Ytacpnphfopmofaa

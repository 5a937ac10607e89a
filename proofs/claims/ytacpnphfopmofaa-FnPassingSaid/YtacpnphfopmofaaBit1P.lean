/- Bits: the cases, the challenge: walks (printed by gen_bit1.py). -/
import Derived.Test.YtacpnphfopmofaaInvP
namespace Go.Proofs.Ytacpnphfopmofaa
open Go.RowKit
set_option linter.unusedSimpArgs false
set_option linter.unusedVariables false

def sBit : ByteArray := { data := #[98, 105, 116] }
theorem bcI_small {gr : GroupD} (hg : OkG gr) {c : Int} (hc : Small c) (k : Int) : Small (bcI gr c k) := by
  unfold bcI
  split
  · exact mulL_small hg _
  · exact hc
set_option maxRecDepth 100000 in
set_option maxHeartbeats 2000000 in
theorem impl_bitCase (gr : GroupD) (c0 k0 : Int) (w : World) (hg : OkG gr) (sc0 : Small c0) :
    Calls Try.prog 91 #[.agg #[.int .i64 gr.p, .int .i64 gr.q, .int .i64 gr.g], .int .i64 c0, .int .i64 k0] w fun e w' => e = .returned (.int .i64 (bcI gr c0 k0)) ∧ Below w.heap.size w w' := by
  have HG := Lib.hid hg
  clear hg
  have zq1 := HG.out.g1
  have zq2 := HG.out.g2
  have zp2 := HG.out.p2
  have sgg : Small gr.g := ⟨by omega, by omega⟩
  cases hc1 : (k0 == 1) with
  | false =>
    have HK0 : Hid (¬ k0 = 1) := by unfold Hid; simpa using hc1
    have HV : Hid ((.int .i64 (bcI gr c0 k0) : Value) = .int .i64 c0) := by unfold Hid; simp [bcI, hc1, HK0.out]
    rw [HV.out]
    go_enter Try.func91, Try.ntmps91
    go_wp2_with fail
    go_ret
    exact ⟨rfl, by (repeat (first | exact Below.refl _ _ | assumption | refine Below.drew ?_ | refine Below.alloc ?_ (by first | (simp; done) | (simp; omega)) _ | refine Below.setCell ?_ (by first | (simp; done) | (simp; omega)) _))⟩
  | true =>
    have HK0 : Hid (k0 = 1) := by unfold Hid; simpa using hc1
    have HV : Hid ((.int .i64 (bcI gr c0 k0) : Value) = .int .i64 (mulL gr [c0, powE gr gr.g (-1)])) := by unfold Hid; simp [bcI, hc1, HK0.out]
    rw [HV.out]
    obtain ⟨W, hW⟩ : ∃ W, W = w.alloc (.cells #[.int .i64 gr.p, .int .i64 gr.q, .int .i64 gr.g] 24) := ⟨_, rfl⟩
    have HB : Hid (Below w.heap.size w W) := by unfold Hid; rw [hW]; (repeat (first | exact Below.refl _ _ | assumption | refine Below.drew ?_ | refine Below.alloc ?_ (by first | (simp; done) | (simp; omega)) _ | refine Below.setCell ?_ (by first | (simp; done) | (simp; omega)) _))
    have c0_0 : W.cell? ⟨w.heap.size, 0, none⟩ = some (.int .i64 gr.p) := by rw [hW]; simp [go_sem]
    have c0_1 : W.cell? ⟨w.heap.size, 1, none⟩ = some (.int .i64 gr.q) := by rw [hW]; simp [go_sem]
    have c0_2 : W.cell? ⟨w.heap.size, 2, none⟩ = some (.int .i64 gr.g) := by rw [hW]; simp [go_sem]
    have HSW : Hid (W.heap.size = w.heap.size + 1) := by unfold Hid; rw [hW]; simp
    go_enter Try.func91, Try.ntmps91
    go_wp2_with fail
    rw [← hW]
    have hse : w.heap.size + 1 = W.heap.size := by have := HSW.out; omega
    (try rw [hse])
    clear hse
    clear hW
    have hc : Below W.heap.size W W := Below.refl _ _
    try (go_wp2_with fail)
    refine wp_region_noPanic ?_
    refine wp_region_P (fun w' => w'.cell? ⟨w.heap.size, 0, none⟩ = some (.int .i64 gr.p) ∧ w'.cell? ⟨w.heap.size, 1, none⟩ = some (.int .i64 gr.q) ∧ w'.cell? ⟨w.heap.size, 2, none⟩ = some (.int .i64 gr.g)) 11 [(0, []), (1, []), (2, []), (3, []), (4, [0]), (5, [2, 0]), (6, [4, 0]), (7, [6, 0]), (8, [0])] [] (by kernel_rfl) (by kernel_rfl) (by kernel_rfl) rfl (fun _ _ _ _ h => h) (fun w' h => ⟨box_at c0_0 h, box_at c0_1 h, box_at c0_2 h⟩) ?_
    simp only [pickP, pickN, List.getElem?_cons_zero, List.getElem?_cons_succ]
    iterate 5 (refine' chainP_read _ rfl rfl (fun w' hS' => ?_) ?_; rotate_left; · (simp only [lookP, allP, Act.put, List.getElem?_cons_zero, List.getElem?_cons_succ, List.setIfInBounds_toArray, List.set_cons_zero, List.set_cons_succ]; (try dsimp only at hS'); go_simp; (try with_reducible rfl)))
    -- 5: call { callee := value (func 224), args := #[t11, t13], argTypes := #[39, 3] }
    refine chainP_call (d := (some 14)) (.int .i64 (powE gr gr.g (-1))) rfl rfl (fun w' hS' => ?_) ?_
    · simp only [lookP, allP, Act.put, List.getElem?_cons_zero, List.getElem?_cons_succ, List.setIfInBounds_toArray, List.set_cons_zero, List.set_cons_succ]
      intro K hK
      go_simp
      go_at_call 154
      refine (impl_inv gr gr.g _ HG.out sgg).mono ?_
      rintro e u ⟨rfl, hq⟩
      exact hK.out _ hq
    -- 6: buildSlice 24 2 #[(0, t10), (1, t14)]
    refine chainP_do (d := (some 15)) (fun v w => Ints w v [c0, powE gr gr.g (-1)]) (fun v w w' hb h => Ints.below h hb) rfl rfl (fun w' hS' => ?_) ?_
    · simp only [lookP, allP, Act.put, List.getElem?_cons_zero, List.getElem?_cons_succ, List.setIfInBounds_toArray, List.set_cons_zero, List.set_cons_succ]
      intro K hK
      go_simp
      refine hK.out _ _ ((Below.refl _ _).alloc (Nat.le_refl _) _) ?_
      exact (OwnI.lit (B := w'.heap.size) w' (Nat.le_refl _) (l := [c0, powE gr gr.g (-1)]) (AllI64.cons (small_64 sc0) (AllI64.cons (small_64 (powE_small HG.out _ _)) AllI64.nil)) rfl (by simp [maxLen]) 2 rfl).ints
    -- 7: call { callee := value (func 197), args := #[t9, t15], argTypes := #[39, 24] }
    refine chainP_call (d := (some 16)) (.int .i64 (mulL gr [c0, powE gr gr.g (-1)])) rfl rfl (fun w' hS' => ?_) ?_
    · simp only [lookP, allP, Act.put, List.getElem?_cons_zero, List.getElem?_cons_succ, List.setIfInBounds_toArray, List.set_cons_zero, List.set_cons_succ]
      intro x6 hx6
      intro K hK
      go_simp
      go_at_call 90
      refine (impl_mul gr _ [c0, powE gr gr.g (-1)] _ HG.out hx6 (AllSmall.cons sc0 (AllSmall.cons (powE_small HG.out _ _) AllSmall.nil))).mono ?_
      rintro e u ⟨rfl, hq⟩
      exact hK.out _ hq
    -- 8: assign t16
    refine' chainP_read (d := (some 6)) _ rfl rfl (fun w' hS' => ?_) ?_; rotate_left
    · simp only [lookP, allP, Act.put, List.getElem?_cons_zero, List.getElem?_cons_succ, List.setIfInBounds_toArray, List.set_cons_zero, List.set_cons_succ]
      (try dsimp only at hS')
      go_simp
      (try with_reducible rfl)
    refine chainP_nil (fun u1 hS' => ?_)
    simp only [allP, Act.put, List.setIfInBounds_toArray, List.set_cons_zero, List.set_cons_succ]
    intro x6 hx6
    have hq1 := hS'.1
    clear hS'
    replace hc := Below.next hc hq1
    replace c0_0 := box_at c0_0 hq1
    replace c0_1 := box_at c0_1 hq1
    replace c0_2 := box_at c0_2 hq1
    clear hq1
    go_wp2_with fail
    refine NoPanic.normal ?_
    go_wp2_with fail
    go_ret
    exact ⟨rfl, HB.out.trans (hc.mono HB.out.size)⟩
set_option maxRecDepth 100000 in
set_option maxHeartbeats 2000000 in
theorem spec_rCase (gr : GroupD) (c0 k0 : Int) (w : World) (hg : OkG gr) (sc0 : Small c0) :
    Calls Try.prog 98 #[.agg #[.int .i64 gr.p, .int .i64 gr.q, .int .i64 gr.g], .int .i64 c0, .int .i64 k0] w fun e w' => e = .returned (.int .i64 (bcI gr c0 k0)) ∧ Below w.heap.size w w' := by
  have HG := Lib.hid hg
  clear hg
  have zq1 := HG.out.g1
  have zq2 := HG.out.g2
  have zp2 := HG.out.p2
  have sgg : Small gr.g := ⟨by omega, by omega⟩
  cases hc1 : (k0 == 1) with
  | false =>
    have HK0 : Hid (¬ k0 = 1) := by unfold Hid; simpa using hc1
    have HV : Hid ((.int .i64 (bcI gr c0 k0) : Value) = .int .i64 c0) := by unfold Hid; simp [bcI, hc1, HK0.out]
    rw [HV.out]
    go_enter Try.func98, Try.ntmps98
    go_wp2_with fail
    go_ret
    exact ⟨rfl, by (repeat (first | exact Below.refl _ _ | assumption | refine Below.drew ?_ | refine Below.alloc ?_ (by first | (simp; done) | (simp; omega)) _ | refine Below.setCell ?_ (by first | (simp; done) | (simp; omega)) _))⟩
  | true =>
    have HK0 : Hid (k0 = 1) := by unfold Hid; simpa using hc1
    have HV : Hid ((.int .i64 (bcI gr c0 k0) : Value) = .int .i64 (mulL gr [c0, powE gr gr.g (-1)])) := by unfold Hid; simp [bcI, hc1, HK0.out]
    rw [HV.out]
    obtain ⟨W, hW⟩ : ∃ W, W = w.alloc (.cells #[.int .i64 gr.p, .int .i64 gr.q, .int .i64 gr.g] 24) := ⟨_, rfl⟩
    have HB : Hid (Below w.heap.size w W) := by unfold Hid; rw [hW]; (repeat (first | exact Below.refl _ _ | assumption | refine Below.drew ?_ | refine Below.alloc ?_ (by first | (simp; done) | (simp; omega)) _ | refine Below.setCell ?_ (by first | (simp; done) | (simp; omega)) _))
    have c0_0 : W.cell? ⟨w.heap.size, 0, none⟩ = some (.int .i64 gr.p) := by rw [hW]; simp [go_sem]
    have c0_1 : W.cell? ⟨w.heap.size, 1, none⟩ = some (.int .i64 gr.q) := by rw [hW]; simp [go_sem]
    have c0_2 : W.cell? ⟨w.heap.size, 2, none⟩ = some (.int .i64 gr.g) := by rw [hW]; simp [go_sem]
    have HSW : Hid (W.heap.size = w.heap.size + 1) := by unfold Hid; rw [hW]; simp
    go_enter Try.func98, Try.ntmps98
    go_wp2_with fail
    rw [← hW]
    have hse : w.heap.size + 1 = W.heap.size := by have := HSW.out; omega
    (try rw [hse])
    clear hse
    clear hW
    have hc : Below W.heap.size W W := Below.refl _ _
    try (go_wp2_with fail)
    refine wp_region_noPanic ?_
    refine wp_region_P (fun w' => w'.cell? ⟨w.heap.size, 0, none⟩ = some (.int .i64 gr.p) ∧ w'.cell? ⟨w.heap.size, 1, none⟩ = some (.int .i64 gr.q) ∧ w'.cell? ⟨w.heap.size, 2, none⟩ = some (.int .i64 gr.g)) 11 [(0, []), (1, []), (2, []), (3, []), (4, [0]), (5, [2, 0]), (6, [4, 0]), (7, [6, 0]), (8, [0])] [] (by kernel_rfl) (by kernel_rfl) (by kernel_rfl) rfl (fun _ _ _ _ h => h) (fun w' h => ⟨box_at c0_0 h, box_at c0_1 h, box_at c0_2 h⟩) ?_
    simp only [pickP, pickN, List.getElem?_cons_zero, List.getElem?_cons_succ]
    iterate 5 (refine' chainP_read _ rfl rfl (fun w' hS' => ?_) ?_; rotate_left; · (simp only [lookP, allP, Act.put, List.getElem?_cons_zero, List.getElem?_cons_succ, List.setIfInBounds_toArray, List.set_cons_zero, List.set_cons_succ]; (try dsimp only at hS'); go_simp; (try with_reducible rfl)))
    -- 5: call { callee := value (func 311), args := #[t11, t13], argTypes := #[39, 3] }
    refine chainP_call (d := (some 14)) (.int .i64 (powE gr gr.g (-1))) rfl rfl (fun w' hS' => ?_) ?_
    · simp only [lookP, allP, Act.put, List.getElem?_cons_zero, List.getElem?_cons_succ, List.setIfInBounds_toArray, List.set_cons_zero, List.set_cons_succ]
      intro K hK
      go_simp
      go_at_call 159
      refine (spec_gInv gr gr.g _ HG.out sgg).mono ?_
      rintro e u ⟨rfl, hq⟩
      exact hK.out _ hq
    -- 6: buildSlice 24 2 #[(0, t10), (1, t14)]
    refine chainP_do (d := (some 15)) (fun v w => Ints w v [c0, powE gr gr.g (-1)]) (fun v w w' hb h => Ints.below h hb) rfl rfl (fun w' hS' => ?_) ?_
    · simp only [lookP, allP, Act.put, List.getElem?_cons_zero, List.getElem?_cons_succ, List.setIfInBounds_toArray, List.set_cons_zero, List.set_cons_succ]
      intro K hK
      go_simp
      refine hK.out _ _ ((Below.refl _ _).alloc (Nat.le_refl _) _) ?_
      exact (OwnI.lit (B := w'.heap.size) w' (Nat.le_refl _) (l := [c0, powE gr gr.g (-1)]) (AllI64.cons (small_64 sc0) (AllI64.cons (small_64 (powE_small HG.out _ _)) AllI64.nil)) rfl (by simp [maxLen]) 2 rfl).ints
    -- 7: call { callee := value (func 211), args := #[t9, t15], argTypes := #[39, 24] }
    refine chainP_call (d := (some 16)) (.int .i64 (mulL gr [c0, powE gr gr.g (-1)])) rfl rfl (fun w' hS' => ?_) ?_
    · simp only [lookP, allP, Act.put, List.getElem?_cons_zero, List.getElem?_cons_succ, List.setIfInBounds_toArray, List.set_cons_zero, List.set_cons_succ]
      intro x6 hx6
      intro K hK
      go_simp
      go_at_call 66
      refine (spec_gMul gr _ [c0, powE gr gr.g (-1)] _ HG.out hx6 (AllSmall.cons sc0 (AllSmall.cons (powE_small HG.out _ _) AllSmall.nil))).mono ?_
      rintro e u ⟨rfl, hq⟩
      exact hK.out _ hq
    -- 8: assign t16
    refine' chainP_read (d := (some 6)) _ rfl rfl (fun w' hS' => ?_) ?_; rotate_left
    · simp only [lookP, allP, Act.put, List.getElem?_cons_zero, List.getElem?_cons_succ, List.setIfInBounds_toArray, List.set_cons_zero, List.set_cons_succ]
      (try dsimp only at hS')
      go_simp
      (try with_reducible rfl)
    refine chainP_nil (fun u1 hS' => ?_)
    simp only [allP, Act.put, List.setIfInBounds_toArray, List.set_cons_zero, List.set_cons_succ]
    intro x6 hx6
    have hq1 := hS'.1
    clear hS'
    replace hc := Below.next hc hq1
    replace c0_0 := box_at c0_0 hq1
    replace c0_1 := box_at c0_1 hq1
    replace c0_2 := box_at c0_2 hq1
    clear hq1
    go_wp2_with fail
    refine NoPanic.normal ?_
    go_wp2_with fail
    go_ret
    exact ⟨rfl, HB.out.trans (hc.mono HB.out.size)⟩
set_option maxRecDepth 100000 in
set_option maxHeartbeats 2000000 in
theorem spec_rBitChallenge (gr : GroupD) (bh : Int) (bv : Value) (bl : List Int) (c0 : Int) (xv : Value) (xs : List Int) (w : World) (hg : OkG gr) (hb : Ints w bv bl) (hxs : Ints w xv xs) (hl2 : xs.length = 2) (sbh : Small bh) (sc0 : Small c0) (sx0 : Small (nth xs 0)) (sx1 : Small (nth xs 1)) :
    Calls Try.prog 95 #[.agg #[.int .i64 gr.p, .int .i64 gr.q, .int .i64 gr.g], .agg #[.int .i64 bh, bv], .int .i64 c0, xv] w fun e w' => e = .returned (.int .i64 (btE gr sBit bh c0 (nth xs 0) (nth xs 1))) ∧ Below w.heap.size w w' := by
  have HG := Lib.hid hg
  clear hg
  obtain ⟨bva, bvn, bvc, rfl⟩ := hb.shape
  have Ebv := Lib.hid hb.len
  have Kbv := Lib.hid hb.capMax
  have Hbv := Lib.hid hb
  clear hb
  obtain ⟨xva, xvn, xvc, rfl⟩ := hxs.shape
  have Exv := Lib.hid hxs.len
  have Kxv := Lib.hid hxs.capMax
  have Hxv := Lib.hid hxs
  clear hxs
  obtain rfl : xvn = 2 := by have := Exv.out; omega
  obtain ⟨xvb, xvo, rfl, hx⟩ := Hxv.out.at_ (by omega)
  have Kxv0 : Hid (w.cell? ⟨xvb, xvo, none⟩ = some (.int .i64 (nth xs 0))) := by unfold Hid; have h := hx 0 (by omega); simpa using h
  have Kxv1 : Hid (w.cell? ⟨xvb, xvo + 1, none⟩ = some (.int .i64 (nth xs 1))) := by unfold Hid; have h := hx 1 (by omega); simpa using h
  clear hx
  have HAS : Hid (AllSmall [bh, c0, nth xs 0, nth xs 1]) := AllSmall.cons sbh (AllSmall.cons sc0 (AllSmall.cons sx0 (AllSmall.cons sx1 AllSmall.nil)))
  have HDG := Lib.hid (digests_small HAS.out)
  obtain ⟨E0, hE0⟩ : ∃ e, btE gr sBit bh c0 (nth xs 0) (nth xs 1) = e := ⟨_, rfl⟩
  have HEE : Hid (chV gr sBit [bh, c0, nth xs 0, nth xs 1] = E0) := hE0
  rw [hE0]
  clear hE0
  obtain ⟨W, hW⟩ : ∃ W, W = (w.alloc (.cells #[.int .i64 gr.p, .int .i64 gr.q, .int .i64 gr.g] 24)).alloc (.cells #[.int .i64 bh, (.slice bva bvn bvc)] 49) := ⟨_, rfl⟩
  have HB : Hid (Below w.heap.size w W) := by unfold Hid; rw [hW]; (repeat (first | exact Below.refl _ _ | assumption | refine Below.drew ?_ | refine Below.alloc ?_ (by first | (simp; done) | (simp; omega)) _ | refine Below.setCell ?_ (by first | (simp; done) | (simp; omega)) _))
  have c0_0 : W.cell? ⟨w.heap.size, 0, none⟩ = some (.int .i64 gr.p) := by rw [hW]; simp [go_sem]
  have c0_1 : W.cell? ⟨w.heap.size, 1, none⟩ = some (.int .i64 gr.q) := by rw [hW]; simp [go_sem]
  have c0_2 : W.cell? ⟨w.heap.size, 2, none⟩ = some (.int .i64 gr.g) := by rw [hW]; simp [go_sem]
  have c1_0 : W.cell? ⟨w.heap.size + 1, 0, none⟩ = some (.int .i64 bh) := by rw [hW]; simp [go_sem]
  have c1_1 : W.cell? ⟨w.heap.size + 1, 1, none⟩ = some ((.slice bva bvn bvc)) := by rw [hW]; simp [go_sem]
  have HSW : Hid (W.heap.size = w.heap.size + 2) := by unfold Hid; rw [hW]; simp
  have yxv0 := box_at Kxv0.out HB.out
  have yxv1 := box_at Kxv1.out HB.out
  go_enter Try.func95, Try.ntmps95
  go_wp2_with fail
  rw [← hW]
  have hse : w.heap.size + 1 + 1 = W.heap.size := by have := HSW.out; omega
  (try rw [hse])
  clear hse
  clear hW
  have hc : Below W.heap.size W W := Below.refl _ _
  try (go_wp2_with fail)
  refine wp_region_noPanic ?_
  refine wp_region_P (fun w' => w'.cell? ⟨w.heap.size, 0, none⟩ = some (.int .i64 gr.p) ∧ w'.cell? ⟨w.heap.size, 1, none⟩ = some (.int .i64 gr.q) ∧ w'.cell? ⟨w.heap.size, 2, none⟩ = some (.int .i64 gr.g) ∧ w'.cell? ⟨w.heap.size + 1, 0, none⟩ = some (.int .i64 bh) ∧ w'.cell? ⟨w.heap.size + 1, 1, none⟩ = some ((.slice bva bvn bvc)) ∧ w'.cell? ⟨xvb, xvo, none⟩ = some (.int .i64 (nth xs 0)) ∧ w'.cell? ⟨xvb, xvo + 1, none⟩ = some (.int .i64 (nth xs 1))) 15 [(0, []), (1, []), (2, [0]), (3, []), (4, []), (5, [0]), (6, [0]), (7, []), (8, [0]), (9, [0]), (10, [7, 6, 3, 0]), (11, [10, 0]), (12, [0])] [] (by kernel_rfl) (by kernel_rfl) (by kernel_rfl) rfl (fun _ _ _ _ h => h) (fun w' h => ⟨box_at c0_0 h, box_at c0_1 h, box_at c0_2 h, box_at c1_0 h, box_at c1_1 h, box_at yxv0 h, box_at yxv1 h⟩) ?_
  simp only [pickP, pickN, List.getElem?_cons_zero, List.getElem?_cons_succ]
  iterate 10 (refine' chainP_read _ rfl rfl (fun w' hS' => ?_) ?_; rotate_left; · (simp only [lookP, allP, Act.put, List.getElem?_cons_zero, List.getElem?_cons_succ, List.setIfInBounds_toArray, List.set_cons_zero, List.set_cons_succ]; (try dsimp only at hS'); go_simp; (try with_reducible rfl)))
  -- 10: buildSlice 24 4 #[(0, t11), (1, t12), (2, t15), (3, t18)]
  refine chainP_do (d := (some 19)) (fun v w => Ints w v [bh, c0, (nth xs 0), (nth xs 1)]) (fun v w w' hb h => Ints.below h hb) rfl rfl (fun w' hS' => ?_) ?_
  · simp only [lookP, allP, Act.put, List.getElem?_cons_zero, List.getElem?_cons_succ, List.setIfInBounds_toArray, List.set_cons_zero, List.set_cons_succ]
    intro K hK
    go_simp
    refine hK.out _ _ ((Below.refl _ _).alloc (Nat.le_refl _) _) ?_
    exact (OwnI.lit (B := w'.heap.size) w' (Nat.le_refl _) (l := [bh, c0, (nth xs 0), (nth xs 1)]) (AllI64.cons (small_64 sbh) (AllI64.cons (small_64 sc0) (AllI64.cons (small_64 sx0) (AllI64.cons (small_64 sx1) AllI64.nil)))) rfl (by simp [maxLen]) 4 rfl).ints
  -- 11: call { callee := value (func 277), args := #[t9, const (string { data := #[98, 105, 116] }), t19], argTypes := #[39, 9, 24] }
  refine chainP_call (d := (some 20)) (.int .i64 E0) rfl rfl (fun w' hS' => ?_) ?_
  · simp only [lookP, allP, Act.put, List.getElem?_cons_zero, List.getElem?_cons_succ, List.setIfInBounds_toArray, List.set_cons_zero, List.set_cons_succ]
    intro x10 hx10
    intro K hK
    go_simp
    go_at_call 156
    refine (spec_hChallenge gr sBit _ [bh, c0, (nth xs 0), (nth xs 1)] _ HG.out hx10 (by decide) (by simp) HDG.out).mono ?_
    rintro e u ⟨rfl, hq⟩
    rw [HEE.out]
    exact hK.out _ hq
  -- 12: assign t20
  refine' chainP_read (d := (some 8)) _ rfl rfl (fun w' hS' => ?_) ?_; rotate_left
  · simp only [lookP, allP, Act.put, List.getElem?_cons_zero, List.getElem?_cons_succ, List.setIfInBounds_toArray, List.set_cons_zero, List.set_cons_succ]
    (try dsimp only at hS')
    go_simp
    (try with_reducible rfl)
  refine chainP_nil (fun u1 hS' => ?_)
  simp only [allP, Act.put, List.setIfInBounds_toArray, List.set_cons_zero, List.set_cons_succ]
  intro x10 hx10
  have hq1 := hS'.1
  clear hS'
  replace hc := Below.next hc hq1
  replace c0_0 := box_at c0_0 hq1
  replace c0_1 := box_at c0_1 hq1
  replace c0_2 := box_at c0_2 hq1
  replace c1_0 := box_at c1_0 hq1
  replace c1_1 := box_at c1_1 hq1
  replace yxv0 := box_at yxv0 hq1
  replace yxv1 := box_at yxv1 hq1
  clear hq1
  go_wp2_with fail
  refine NoPanic.normal ?_
  go_wp2_with fail
  go_ret
  exact ⟨rfl, HB.out.trans (hc.mono HB.out.size)⟩
end Go.Proofs.Ytacpnphfopmofaa

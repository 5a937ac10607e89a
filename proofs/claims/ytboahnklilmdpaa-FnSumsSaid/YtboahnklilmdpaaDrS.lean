/- Draws: sums (printed by gen_drs.py). -/
import Derived.Test.YtboahnklilmdpaaDrB
namespace Go.Proofs.Ytboahnklilmdpaa
open Go.RowKit
set_option linter.unusedSimpArgs false
set_option linter.unusedVariables false
set_option maxRecDepth 100000 in
set_option maxHeartbeats 4000000 in
theorem spec_DrawProveSumS (v : Value) (w : World) (h : Bytes w v) :
    Calls Try.prog 84 #[v] w fun e w' => (∃ (P : Int) (Q : Int) (G : Int) (hr1 : Int) (vr1 : Value) (lr1 : List Int) (vr2 : Value) (lr2 : List Int) (vr3 : Value) (lr3 : List Int) (vr4 : Value) (lr4 : List Int), e = .returned (.tuple #[.agg #[.int .i64 P, .int .i64 Q, .int .i64 G], .agg #[.int .i64 hr1, vr1], vr2, vr3, vr4]) ∧ GrB ⟨P, Q, G⟩ ∧ ((-10 ≤ hr1 ∧ hr1 ≤ 2000000010) ∧ (Since w.heap.size w' (fun z => Ints z vr1 lr1) ∧ lr1.length ≤ 26)) ∧ (Since w.heap.size w' (fun z => Ints z vr2 lr2) ∧ lr2.length ≤ 1001) ∧ (Since w.heap.size w' (fun z => Ints z vr3 lr3) ∧ lr3.length ≤ 1001) ∧ (Since w.heap.size w' (fun z => Ints z vr4 lr4) ∧ lr4.length ≤ 1001)) ∧ Below w.heap.size w w' := by
  obtain ⟨a, m, c, rfl, hk1, hk2, hv⟩ := h
  have HY : Hid (Bytes w (.slice a m c)) := ⟨a, m, c, rfl, hk1, hk2, hv⟩
  clear hv
  unfold maxLen at hk2
  obtain ⟨U, hU⟩ : ∃ U, U = (w.alloc (.cells #[.int .i64 0, .int .i64 0, .int .i64 0] 39)).alloc (.cells #[.int .i64 0, (.slice none 0 0)] 79) := ⟨_, rfl⟩
  have hbU : Below w.heap.size w U := by rw [hU]; (repeat (first | exact Below.refl _ _ | assumption | refine Below.drew ?_ | refine Below.alloc ?_ (by first | (simp; done) | (simp; omega)) _ | refine Below.setCell ?_ (by first | (simp; done) | (simp; omega)) _))
  have HX0 : Hid (BoxN U w.heap.size 39 [.int .i64 0, .int .i64 0, .int .i64 0]) := by unfold Hid; rw [hU]; have h := ((BoxN.new w [.int .i64 0, .int .i64 0, .int .i64 0] 39).alloc (.cells #[.int .i64 0, (.slice none 0 0)] 79)); simpa using h
  have HX1 : Hid (BoxN U (w.heap.size + 1) 79 [.int .i64 0, (.slice none 0 0)]) := by unfold Hid; rw [hU]; have h := (BoxN.new (w.alloc (.cells #[.int .i64 0, .int .i64 0, .int .i64 0] 39)) [.int .i64 0, (.slice none 0 0)] 79); simpa using h
  have hsU : U.heap.size = w.heap.size + 1 + 1 := by rw [hU]; simp
  obtain ⟨W, hW⟩ : ∃ W, W = U.alloc (.cells #[.slice a m c, .int .i64 0, .int .u64 0] 170) := ⟨_, rfl⟩
  have HC : Hid (Cur U W U.heap.size 0) := by unfold Hid; rw [hW]; exact Cur.new U (HY.out.below hbU)
  have hbW : Below U.heap.size U W := by rw [hW]; exact (Below.refl _ _).alloc (Nat.le_refl _) _
  have HBW := Lib.hid (Below.next hbU hbW)
  have HUB := Lib.hid hbW
  replace HX0 := Lib.hid (HX0.out.below hbW)
  replace HX1 := Lib.hid (HX1.out.below hbW)
  obtain ⟨g, hg⟩ : ∃ g, g = U.heap.size := ⟨_, rfl⟩
  have HSU : Hid (w.heap.size + 1 + 1 = g) := by unfold Hid; rw [hg, hsU]
  have HWS : Hid (W.heap.size = g + 1) := by unfold Hid; rw [hW, hg]; simp
  go_enter Try.func84, Try.ntmps84
  go_wp2_with fail
  rw [← hU, ← hW]
  rw [HSU.out]
  rw [← hg] at HC HUB
  have HUS : Hid (U.heap.size = g) := hg.symm
  have hwg : w.heap.size + 2 = g := HSU.out
  have hsW := HWS.out
  have HW := Lib.hid (Within.refl g (g + 1) W)
  have HUC : Hid (Below U.heap.size U W) := by unfold Hid; rw [HUS.out]; exact HUB.out
  clear hU hW hbU hbW hsU hg
  have z_0_0 := HX0.out.cell (i := 0) rfl
  have z_0_1 := HX0.out.cell (i := 1) rfl
  have z_0_2 := HX0.out.cell (i := 2) rfl
  have z_1_0 := HX1.out.cell (i := 0) rfl
  have z_1_1 := HX1.out.cell (i := 1) rfl
  try (go_wp2_with fail)
  clear z_0_0 z_0_1 z_0_2 z_1_0 z_1_1
  refine (spec_anyGroup U g _ _ HC.out (HW.out.belowOf HUC.out (Nat.le_of_eq HUS.out)) (by omega)).mono ?_
  rintro e u1 ⟨⟨P, Q, G, rfl, P1, Q1, G1⟩, hc, hw⟩
  have HGR : Hid (GrB ⟨P, Q, G⟩) := ⟨P1, Q1, G1⟩
  clear P1 Q1 G1
  have hsz1 := hw.size
  replace HX0 := Lib.hid (HX0.out.kept hw (.inl (by omega)))
  replace HX1 := Lib.hid (HX1.out.kept hw (.inl (by omega)))
  replace HW := Lib.hid (HW.out.trans hw)
  replace HC := Lib.hid hc
  clear hc hw
  have z_0_0 := HX0.out.cell (i := 0) rfl
  have z_0_1 := HX0.out.cell (i := 1) rfl
  have z_0_2 := HX0.out.cell (i := 2) rfl
  have z_1_0 := HX1.out.cell (i := 0) rfl
  have z_1_1 := HX1.out.cell (i := 1) rfl
  have lt_HX0 := HX0.out.lt
  have lt_HX1 := HX1.out.lt
  obtain ⟨V2, hV⟩ : ∃ V, V = u1.alloc (.cells #[.int .i64 P, .int .i64 Q, .int .i64 G] 39) := ⟨_, rfl⟩
  have hbV : Below u1.heap.size u1 V2 := by rw [hV]; (repeat (first | exact Below.refl _ _ | assumption | refine Below.drew ?_ | refine Below.alloc ?_ (by first | (simp; done) | (simp; omega)) _ | refine Below.setCell ?_ (by first | (simp; done) | (simp; omega)) _))
  have HZ1 : Hid (BoxN V2 u1.heap.size 39 [.int .i64 P, .int .i64 Q, .int .i64 G]) := by unfold Hid; rw [hV]; have h := (BoxN.new u1 [.int .i64 P, .int .i64 Q, .int .i64 G] 39); simpa using h
  have hgc : g < u1.heap.size := HC.out.lt
  go_wp2_with fail
  rw [← hV]
  have hsV2 : V2.heap.size = u1.heap.size + 1 := by rw [hV]; simp
  clear hV hgc
  replace HX0 := Lib.hid (HX0.out.below hbV)
  replace HX1 := Lib.hid (HX1.out.below hbV)
  replace HW := Lib.hid (HW.out.trans (Within.of_below hbV))
  replace HC := Lib.hid (HC.out.keep hbV)
  clear hbV
  clear z_0_0 z_0_1 z_0_2 z_1_0 z_1_1
  clear lt_HX0
  clear lt_HX1
  refine (spec_pick U g _ 6 _ HC.out (HW.out.belowOf HUC.out (Nat.le_of_eq HUS.out)) (by omega) ).mono ?_
  rintro e u3 ⟨⟨x3, rfl, x3l, x3u, x3m, _⟩, hc, hw⟩
  replace x3m := x3m (by omega)
  obtain ⟨j3, rfl⟩ := Int.eq_ofNat_of_zero_le x3l
  replace x3m : j3 < 6 := by omega
  clear x3l x3u
  have hsz3 := hw.size
  replace HX0 := Lib.hid (HX0.out.kept hw (.inl (by omega)))
  replace HX1 := Lib.hid (HX1.out.kept hw (.inl (by omega)))
  replace HZ1 := Lib.hid (HZ1.out.kept hw (.inr (by omega)))
  replace HW := Lib.hid (HW.out.trans hw)
  replace HC := Lib.hid hc
  clear hc hw
  have z_0_0 := HX0.out.cell (i := 0) rfl
  have z_0_1 := HX0.out.cell (i := 1) rfl
  have z_0_2 := HX0.out.cell (i := 2) rfl
  have z_1_0 := HX1.out.cell (i := 0) rfl
  have z_1_1 := HX1.out.cell (i := 1) rfl
  have z_2_0 := HZ1.out.cell (i := 0) rfl
  have z_2_1 := HZ1.out.cell (i := 1) rfl
  have z_2_2 := HZ1.out.cell (i := 2) rfl
  try (go_wp2_with fail)
  clear z_0_0 z_0_1 z_0_2 z_1_0 z_1_1 z_2_0 z_2_1 z_2_2
  refine (spec_one U g _ 20 _ HC.out (HW.out.belowOf HUC.out (Nat.le_of_eq HUS.out)) (by omega) ).mono ?_
  rintro e u4 ⟨⟨b4, rfl⟩, hc, hw⟩
  have hsz4 := hw.size
  replace HX0 := Lib.hid (HX0.out.kept hw (.inl (by omega)))
  replace HX1 := Lib.hid (HX1.out.kept hw (.inl (by omega)))
  replace HZ1 := Lib.hid (HZ1.out.kept hw (.inr (by omega)))
  replace HW := Lib.hid (HW.out.trans hw)
  replace HC := Lib.hid hc
  clear hc hw
  cases b4 with
  | false =>
    have z_0_0 := HX0.out.cell (i := 0) rfl
    have z_0_1 := HX0.out.cell (i := 1) rfl
    have z_0_2 := HX0.out.cell (i := 2) rfl
    have z_1_0 := HX1.out.cell (i := 0) rfl
    have z_1_1 := HX1.out.cell (i := 1) rfl
    have z_2_0 := HZ1.out.cell (i := 0) rfl
    have z_2_1 := HZ1.out.cell (i := 1) rfl
    have z_2_2 := HZ1.out.cell (i := 2) rfl
    try (go_wp2_with fail)
    refine wp_region_noPanic ?_
    refine wp_region_Q (Within g (g + 1)) (DrawS U u4 g _ 1000000000 (fun w' => w'.cell? ⟨u1.heap.size, 0, none⟩ = some (.int .i64 P) ∧ w'.cell? ⟨u1.heap.size, 1, none⟩ = some (.int .i64 Q) ∧ w'.cell? ⟨u1.heap.size, 2, none⟩ = some (.int .i64 G))) 22 [(0, []), (1, []), (2, []), (3, [1, 0]), (4, []), (5, []), (6, []), (7, [2, 1, 0]), (8, []), (9, []), (10, []), (11, [2, 1, 0]), (12, []), (13, []), (14, [1, 0])] [15, 16, 17, 18, 19] (by kernel_rfl) (by kernel_rfl) (by kernel_rfl) rfl (fun _ _ _ _ h => h) (DrawS.good _ _ _ _ _ _) ⟨(Within.refl _ _ _).drew, by simpa using HC.out.keep (Below.refl _ _).drew, ⟨box_at z_2_0 (Below.refl _ _).drew, box_at z_2_1 (Below.refl _ _).drew, box_at z_2_2 (Below.refl _ _).drew⟩⟩ ?_
    simp only [pickP, pickN, List.getElem?_cons_zero, List.getElem?_cons_succ]
    iterate 3 (refine' chainQ_read (DrawS.good _ _ _ _ _ _) _ rfl rfl (fun m w' hm' hS' => ?_) ?_; rotate_left; · (simp only [lookP, allP, Act.put, List.getElem?_cons_zero, List.getElem?_cons_succ, List.setIfInBounds_toArray, List.set_cons_zero, List.set_cons_succ]; (try dsimp only [DrawS] at hS'); go_simp; (try with_reducible rfl)))
    -- 3: call { callee := value (func 169), args := #[t23, t24], argTypes := #[167, 39] }
    refine chainQ_do (d := (some 25)) (fun v u => ∃ (hq3 : Int) (vq3 : Value) (lq3 : List Int), v = (.agg #[.int .i64 hq3, vq3]) ∧ ((-10 ≤ hq3 ∧ hq3 ≤ 2000000010) ∧ (Since u4.heap.size u (fun z => Ints z vq3 lq3) ∧ lq3.length ≤ 26))) (fun v w1 w2 hw h => by obtain ⟨z0, z1, z2, h3, h4⟩ := h; exact ⟨z0, z1, z2, h3, ⟨h4.1, (h4.2.1).within hw (by omega), h4.2.2⟩⟩) rfl rfl (fun m w' hm' hS' => ?_) ?_
    · simp only [lookP, allP, Act.put, List.getElem?_cons_zero, List.getElem?_cons_succ, List.setIfInBounds_toArray, List.set_cons_zero, List.set_cons_succ]
      intro K hK
      replace hm' : m < 15 := hm'
      go_simp
      go_at_call 169
      refine (spec_anyBases U g _ P Q G _ hS'.2.1 (hS'.1.belowOf (HW.out.belowOf HUC.out (Nat.le_of_eq HUS.out)) (by have := HUS.out; omega)) (by omega) HGR.out).mono ?_
      rintro e u ⟨⟨hq3, vq3, lq3, rfl, ⟨hq3l, hq3u⟩, hsq3, hlq3⟩, hc, hw⟩
      exact hK.out _ _ hw ⟨hS'.1.trans hw, hc.mono (by omega), ⟨within_at (hS'.1.trans hw) z_2_0 (.inr (by omega)), within_at (hS'.1.trans hw) z_2_1 (.inr (by omega)), within_at (hS'.1.trans hw) z_2_2 (.inr (by omega))⟩⟩ ⟨hq3, vq3, lq3, rfl, ⟨⟨hq3l, hq3u⟩, (hsq3.mono (by have := hS'.1.size; omega)), hlq3⟩⟩
    iterate 3 (refine' chainQ_read (DrawS.good _ _ _ _ _ _) _ rfl rfl (fun m w' hm' hS' => ?_) ?_; rotate_left; · (simp only [lookP, allP, Act.put, List.getElem?_cons_zero, List.getElem?_cons_succ, List.setIfInBounds_toArray, List.set_cons_zero, List.set_cons_succ]; (try dsimp only [DrawS] at hS'); go_simp; (try with_reducible rfl)))
    -- 7: call { callee := value (func 136), args := #[t26, t27, t28], argTypes := #[167, 39, 3] }
    refine chainQ_do (d := (some 29)) (fun v u => ∃ (vq7 : Value) (lq7 : List Int), v = vq7 ∧ (Since u4.heap.size u (fun z => Ints z vq7 lq7) ∧ lq7.length ≤ 1001)) (fun v w1 w2 hw h => by obtain ⟨z0, z1, h3, h4⟩ := h; exact ⟨z0, z1, h3, ⟨(h4.1).within hw (by omega), h4.2⟩⟩) rfl rfl (fun m w' hm' hS' => ?_) ?_
    · simp only [lookP, allP, Act.put, List.getElem?_cons_zero, List.getElem?_cons_succ, List.setIfInBounds_toArray, List.set_cons_zero, List.set_cons_succ]
      intro K hK
      replace hm' : m < 15 := hm'
      go_simp
      go_at_call 136
      refine (spec_anyCoins U g _ P Q G j3 _ hS'.2.1 (hS'.1.belowOf (HW.out.belowOf HUC.out (Nat.le_of_eq HUS.out)) (by have := HUS.out; omega)) (by omega) HGR.out (by omega)).mono ?_
      rintro e u ⟨⟨vq7, lq7, rfl, hsq7, hlq7⟩, hc, hw⟩
      exact hK.out _ _ hw ⟨hS'.1.trans hw, hc.mono (by omega), ⟨within_at (hS'.1.trans hw) z_2_0 (.inr (by omega)), within_at (hS'.1.trans hw) z_2_1 (.inr (by omega)), within_at (hS'.1.trans hw) z_2_2 (.inr (by omega))⟩⟩ ⟨vq7, lq7, rfl, ⟨(hsq7.mono (by have := hS'.1.size; omega)), by omega⟩⟩
    iterate 3 (refine' chainQ_read (DrawS.good _ _ _ _ _ _) _ rfl rfl (fun m w' hm' hS' => ?_) ?_; rotate_left; · (simp only [lookP, allP, Act.put, List.getElem?_cons_zero, List.getElem?_cons_succ, List.setIfInBounds_toArray, List.set_cons_zero, List.set_cons_succ]; (try dsimp only [DrawS] at hS'); go_simp; (try with_reducible rfl)))
    -- 11: call { callee := value (func 136), args := #[t30, t31, t32], argTypes := #[167, 39, 3] }
    refine chainQ_do (d := (some 33)) (fun v u => ∃ (vq11 : Value) (lq11 : List Int), v = vq11 ∧ (Since u4.heap.size u (fun z => Ints z vq11 lq11) ∧ lq11.length ≤ 1001)) (fun v w1 w2 hw h => by obtain ⟨z0, z1, h3, h4⟩ := h; exact ⟨z0, z1, h3, ⟨(h4.1).within hw (by omega), h4.2⟩⟩) rfl rfl (fun m w' hm' hS' => ?_) ?_
    · simp only [lookP, allP, Act.put, List.getElem?_cons_zero, List.getElem?_cons_succ, List.setIfInBounds_toArray, List.set_cons_zero, List.set_cons_succ]
      intro K hK
      replace hm' : m < 15 := hm'
      go_simp
      go_at_call 136
      refine (spec_anyCoins U g _ P Q G j3 _ hS'.2.1 (hS'.1.belowOf (HW.out.belowOf HUC.out (Nat.le_of_eq HUS.out)) (by have := HUS.out; omega)) (by omega) HGR.out (by omega)).mono ?_
      rintro e u ⟨⟨vq11, lq11, rfl, hsq11, hlq11⟩, hc, hw⟩
      exact hK.out _ _ hw ⟨hS'.1.trans hw, hc.mono (by omega), ⟨within_at (hS'.1.trans hw) z_2_0 (.inr (by omega)), within_at (hS'.1.trans hw) z_2_1 (.inr (by omega)), within_at (hS'.1.trans hw) z_2_2 (.inr (by omega))⟩⟩ ⟨vq11, lq11, rfl, ⟨(hsq11.mono (by have := hS'.1.size; omega)), by omega⟩⟩
    iterate 2 (refine' chainQ_read (DrawS.good _ _ _ _ _ _) _ rfl rfl (fun m w' hm' hS' => ?_) ?_; rotate_left; · (simp only [lookP, allP, Act.put, List.getElem?_cons_zero, List.getElem?_cons_succ, List.setIfInBounds_toArray, List.set_cons_zero, List.set_cons_succ]; (try dsimp only [DrawS] at hS'); go_simp; (try with_reducible rfl)))
    -- 14: call { callee := value (func 136), args := #[t34, t35, const (int i64 1)], argTypes := #[167, 39, 3] }
    refine chainQ_do (d := (some 36)) (fun v u => ∃ (vq14 : Value) (lq14 : List Int), v = vq14 ∧ (Since u4.heap.size u (fun z => Ints z vq14 lq14) ∧ lq14.length ≤ 1001)) (fun v w1 w2 hw h => by obtain ⟨z0, z1, h3, h4⟩ := h; exact ⟨z0, z1, h3, ⟨(h4.1).within hw (by omega), h4.2⟩⟩) rfl rfl (fun m w' hm' hS' => ?_) ?_
    · simp only [lookP, allP, Act.put, List.getElem?_cons_zero, List.getElem?_cons_succ, List.setIfInBounds_toArray, List.set_cons_zero, List.set_cons_succ]
      intro K hK
      replace hm' : m < 15 := hm'
      go_simp
      go_at_call 136
      refine (spec_anyCoins U g _ P Q G 1 _ hS'.2.1 (hS'.1.belowOf (HW.out.belowOf HUC.out (Nat.le_of_eq HUS.out)) (by have := HUS.out; omega)) (by omega) HGR.out (by omega)).mono ?_
      rintro e u ⟨⟨vq14, lq14, rfl, hsq14, hlq14⟩, hc, hw⟩
      exact hK.out _ _ hw ⟨hS'.1.trans hw, hc.mono (by omega), ⟨within_at (hS'.1.trans hw) z_2_0 (.inr (by omega)), within_at (hS'.1.trans hw) z_2_1 (.inr (by omega)), within_at (hS'.1.trans hw) z_2_2 (.inr (by omega))⟩⟩ ⟨vq14, lq14, rfl, ⟨(hsq14.mono (by have := hS'.1.size; omega)), by omega⟩⟩
    refine chainQ_nil (fun u5 hS' => ?_)
    simp only [allP, Act.put, List.setIfInBounds_toArray, List.set_cons_zero, List.set_cons_succ]
    intro x14 hx14
    intro x11 hx11
    intro x7 hx7
    intro x3 hx3
    replace hS' : DrawS U u4 g _ 1000000000 _ 15 u5 := hS'
    obtain ⟨hw, hc, hC⟩ := hS'
    obtain ⟨hq3, vq3, lq3, rfl, ⟨hq3l, hq3u⟩, hsq3, hlq3⟩ := hx3
    obtain ⟨vq7, lq7, rfl, hsq7, hlq7⟩ := hx7
    obtain ⟨vq11, lq11, rfl, hsq11, hlq11⟩ := hx11
    obtain ⟨vq14, lq14, rfl, hsq14, hlq14⟩ := hx14
    have hsz5 := hw.size
    replace HX0 := Lib.hid (HX0.out.kept hw (.inl (by omega)))
    replace HX1 := Lib.hid (HX1.out.kept hw (.inl (by omega)))
    replace HZ1 := Lib.hid (HZ1.out.kept hw (.inr (by omega)))
    replace HW := Lib.hid (HW.out.trans hw)
    replace HC := Lib.hid hc
    clear hc hw hC
    clear z_0_0 z_0_1 z_0_2 z_1_0 z_1_1 z_2_0 z_2_1 z_2_2
    have HLq3 := Lib.hid hsq3
    obtain ⟨aq3, nq3, cq3, rfl⟩ := hsq3.here.shape
    have hnq3 : nq3 ≤ 26 := by have h1 := hsq3.here.len; omega
    have HEq3 := Lib.hid hsq3.here.len
    clear hsq3
    have HLq7 := Lib.hid hsq7
    obtain ⟨aq7, nq7, cq7, rfl⟩ := hsq7.here.shape
    have hnq7 : nq7 ≤ 1001 := by have h1 := hsq7.here.len; omega
    have HEq7 := Lib.hid hsq7.here.len
    clear hsq7
    have HLq11 := Lib.hid hsq11
    obtain ⟨aq11, nq11, cq11, rfl⟩ := hsq11.here.shape
    have hnq11 : nq11 ≤ 1001 := by have h1 := hsq11.here.len; omega
    have HEq11 := Lib.hid hsq11.here.len
    clear hsq11
    have HLq14 := Lib.hid hsq14
    obtain ⟨aq14, nq14, cq14, rfl⟩ := hsq14.here.shape
    have hnq14 : nq14 ≤ 1001 := by have h1 := hsq14.here.len; omega
    have HEq14 := Lib.hid hsq14.here.len
    clear hsq14
    have r_HX0_0 := HX0.out.cell (i := 0) rfl
    have r_HX0_1 := HX0.out.cell (i := 1) rfl
    have r_HX0_2 := HX0.out.cell (i := 2) rfl
    have fr_HX0 := fun j => HX0.out.frozen j
    have r_HX1_0 := HX1.out.cell (i := 0) rfl
    have r_HX1_1 := HX1.out.cell (i := 1) rfl
    have fr_HX1 := fun j => HX1.out.frozen j
    go_wp2_with fail
    refine NoPanic.normal ?_
    have FHX0 := Lib.hid (((((HX0.out.set 0 (.int .i64 P)).set 1 (.int .i64 Q)).set 2 (.int .i64 G)).other (b' := w.heap.size + 1) (by omega) 0 (.int .i64 hq3)).other (b' := w.heap.size + 1) (by omega) 1 (.slice aq3 nq3 cq3))
    have FHX1 := Lib.hid (((((HX1.out.other (b' := w.heap.size) (by omega) 0 (.int .i64 P)).other (b' := w.heap.size) (by omega) 1 (.int .i64 Q)).other (b' := w.heap.size) (by omega) 2 (.int .i64 G)).set 0 (.int .i64 hq3)).set 1 (.slice aq3 nq3 cq3))
    clear r_HX0_0 r_HX0_1 r_HX0_2 fr_HX0 r_HX1_0 r_HX1_1 fr_HX1
    have t_HX0_0 := FHX0.out.cell (i := 0) rfl
    have t_HX0_1 := FHX0.out.cell (i := 1) rfl
    have t_HX0_2 := FHX0.out.cell (i := 2) rfl
    have t_HX1_0 := FHX1.out.cell (i := 0) rfl
    have t_HX1_1 := FHX1.out.cell (i := 1) rfl
    try (go_wp2_with fail)
    have HYS := Lib.hid ((((((Within.refl w.heap.size (w.heap.size + 2) u5).setCell (b := w.heap.size) (by omega) (by omega) 0 (.int .i64 P)).setCell (b := w.heap.size) (by omega) (by omega) 1 (.int .i64 Q)).setCell (b := w.heap.size) (by omega) (by omega) 2 (.int .i64 G)).setCell (b := w.heap.size + 1) (by omega) (by omega) 0 (.int .i64 hq3)).setCell (b := w.heap.size + 1) (by omega) (by omega) 1 (.slice aq3 nq3 cq3))
    refine bodyPost_ret (v := .tuple #[.agg #[.int .i64 P, .int .i64 Q, .int .i64 G], .agg #[.int .i64 hq3, .slice aq3 nq3 cq3], .slice aq7 nq7 cq7, .slice aq11 nq11 cq11, .slice aq14 nq14 cq14]) (by simp [results, Try.results84, go_sem, t_HX0_0, t_HX0_1, t_HX0_2, t_HX1_0, t_HX1_1]) rfl ⟨⟨_, _, _, _, _, _, _, _, _, _, _, _, rfl, HGR.out, ⟨⟨by omega, by omega⟩, (HLq3.out.within HYS.out (by omega)).mono (by omega), by have := HEq3.out; omega⟩, ⟨(HLq7.out.within HYS.out (by omega)).mono (by omega), by have := HEq7.out; omega⟩, ⟨(HLq11.out.within HYS.out (by omega)).mono (by omega), by have := HEq11.out; omega⟩, ⟨(HLq14.out.within HYS.out (by omega)).mono (by omega), by have := HEq14.out; omega⟩⟩, ((((((HW.out.belowOf HBW.out (by omega)).setCell (p := ⟨w.heap.size, 0, none⟩) (by show w.heap.size ≤ w.heap.size; omega) (.int .i64 P)).setCell (p := ⟨w.heap.size, 1, none⟩) (by show w.heap.size ≤ w.heap.size; omega) (.int .i64 Q)).setCell (p := ⟨w.heap.size, 2, none⟩) (by show w.heap.size ≤ w.heap.size; omega) (.int .i64 G)).setCell (p := ⟨w.heap.size + 1, 0, none⟩) (by show w.heap.size ≤ w.heap.size + 1; omega) (.int .i64 hq3)).setCell (p := ⟨w.heap.size + 1, 1, none⟩) (by show w.heap.size ≤ w.heap.size + 1; omega) (.slice aq3 nq3 cq3))⟩
  | true =>
    have z_0_0 := HX0.out.cell (i := 0) rfl
    have z_0_1 := HX0.out.cell (i := 1) rfl
    have z_0_2 := HX0.out.cell (i := 2) rfl
    have z_1_0 := HX1.out.cell (i := 0) rfl
    have z_1_1 := HX1.out.cell (i := 1) rfl
    have z_2_0 := HZ1.out.cell (i := 0) rfl
    have z_2_1 := HZ1.out.cell (i := 1) rfl
    have z_2_2 := HZ1.out.cell (i := 2) rfl
    try (go_wp2_with fail)
    clear z_0_0 z_0_1 z_0_2 z_1_0 z_1_1 z_2_0 z_2_1 z_2_2
    refine (spec_pick U g _ 2 _ HC.out (HW.out.belowOf HUC.out (Nat.le_of_eq HUS.out)) (by omega) ).mono ?_
    rintro e u5 ⟨⟨x5, rfl, x5l, x5u, x5m, _⟩, hc, hw⟩
    replace x5m := x5m (by omega)
    obtain ⟨j5, rfl⟩ := Int.eq_ofNat_of_zero_le x5l
    replace x5m : j5 < 2 := by omega
    clear x5l x5u
    have hsz5 := hw.size
    replace HX0 := Lib.hid (HX0.out.kept hw (.inl (by omega)))
    replace HX1 := Lib.hid (HX1.out.kept hw (.inl (by omega)))
    replace HZ1 := Lib.hid (HZ1.out.kept hw (.inr (by omega)))
    replace HW := Lib.hid (HW.out.trans hw)
    replace HC := Lib.hid hc
    clear hc hw
    have ew2 : IntKind.i64.wrap (24 + (j5 : Int)) = 24 + (j5 : Int) := IntWalk.i64_in _ (by omega)
    have z_0_0 := HX0.out.cell (i := 0) rfl
    have z_0_1 := HX0.out.cell (i := 1) rfl
    have z_0_2 := HX0.out.cell (i := 2) rfl
    have z_1_0 := HX1.out.cell (i := 0) rfl
    have z_1_1 := HX1.out.cell (i := 1) rfl
    have z_2_0 := HZ1.out.cell (i := 0) rfl
    have z_2_1 := HZ1.out.cell (i := 1) rfl
    have z_2_2 := HZ1.out.cell (i := 2) rfl
    try (go_wp2_with fail)
    refine wp_region_noPanic ?_
    refine wp_region_Q (Within g (g + 1)) (DrawS U u5 g _ 1000000000 (fun w' => w'.cell? ⟨u1.heap.size, 0, none⟩ = some (.int .i64 P) ∧ w'.cell? ⟨u1.heap.size, 1, none⟩ = some (.int .i64 Q) ∧ w'.cell? ⟨u1.heap.size, 2, none⟩ = some (.int .i64 G))) 22 [(0, []), (1, []), (2, []), (3, [1, 0]), (4, []), (5, []), (6, []), (7, [2, 1, 0]), (8, []), (9, []), (10, []), (11, [2, 1, 0]), (12, []), (13, []), (14, [1, 0])] [15, 16, 17, 18, 19] (by kernel_rfl) (by kernel_rfl) (by kernel_rfl) rfl (fun _ _ _ _ h => h) (DrawS.good _ _ _ _ _ _) ⟨(Within.refl _ _ _).drew, by simpa using HC.out.keep (Below.refl _ _).drew, ⟨box_at z_2_0 (Below.refl _ _).drew, box_at z_2_1 (Below.refl _ _).drew, box_at z_2_2 (Below.refl _ _).drew⟩⟩ ?_
    simp only [pickP, pickN, List.getElem?_cons_zero, List.getElem?_cons_succ]
    iterate 3 (refine' chainQ_read (DrawS.good _ _ _ _ _ _) _ rfl rfl (fun m w' hm' hS' => ?_) ?_; rotate_left; · (simp only [lookP, allP, Act.put, List.getElem?_cons_zero, List.getElem?_cons_succ, List.setIfInBounds_toArray, List.set_cons_zero, List.set_cons_succ]; (try dsimp only [DrawS] at hS'); go_simp; (try with_reducible rfl)))
    -- 3: call { callee := value (func 169), args := #[t23, t24], argTypes := #[167, 39] }
    refine chainQ_do (d := (some 25)) (fun v u => ∃ (hq3 : Int) (vq3 : Value) (lq3 : List Int), v = (.agg #[.int .i64 hq3, vq3]) ∧ ((-10 ≤ hq3 ∧ hq3 ≤ 2000000010) ∧ (Since u5.heap.size u (fun z => Ints z vq3 lq3) ∧ lq3.length ≤ 26))) (fun v w1 w2 hw h => by obtain ⟨z0, z1, z2, h3, h4⟩ := h; exact ⟨z0, z1, z2, h3, ⟨h4.1, (h4.2.1).within hw (by omega), h4.2.2⟩⟩) rfl rfl (fun m w' hm' hS' => ?_) ?_
    · simp only [lookP, allP, Act.put, List.getElem?_cons_zero, List.getElem?_cons_succ, List.setIfInBounds_toArray, List.set_cons_zero, List.set_cons_succ]
      intro K hK
      replace hm' : m < 15 := hm'
      go_simp
      go_at_call 169
      refine (spec_anyBases U g _ P Q G _ hS'.2.1 (hS'.1.belowOf (HW.out.belowOf HUC.out (Nat.le_of_eq HUS.out)) (by have := HUS.out; omega)) (by omega) HGR.out).mono ?_
      rintro e u ⟨⟨hq3, vq3, lq3, rfl, ⟨hq3l, hq3u⟩, hsq3, hlq3⟩, hc, hw⟩
      exact hK.out _ _ hw ⟨hS'.1.trans hw, hc.mono (by omega), ⟨within_at (hS'.1.trans hw) z_2_0 (.inr (by omega)), within_at (hS'.1.trans hw) z_2_1 (.inr (by omega)), within_at (hS'.1.trans hw) z_2_2 (.inr (by omega))⟩⟩ ⟨hq3, vq3, lq3, rfl, ⟨⟨hq3l, hq3u⟩, (hsq3.mono (by have := hS'.1.size; omega)), hlq3⟩⟩
    iterate 3 (refine' chainQ_read (DrawS.good _ _ _ _ _ _) _ rfl rfl (fun m w' hm' hS' => ?_) ?_; rotate_left; · (simp only [lookP, allP, Act.put, List.getElem?_cons_zero, List.getElem?_cons_succ, List.setIfInBounds_toArray, List.set_cons_zero, List.set_cons_succ]; (try dsimp only [DrawS] at hS'); go_simp; (try with_reducible rfl)))
    -- 7: call { callee := value (func 136), args := #[t26, t27, t28], argTypes := #[167, 39, 3] }
    refine chainQ_do (d := (some 29)) (fun v u => ∃ (vq7 : Value) (lq7 : List Int), v = vq7 ∧ (Since u5.heap.size u (fun z => Ints z vq7 lq7) ∧ lq7.length ≤ 1001)) (fun v w1 w2 hw h => by obtain ⟨z0, z1, h3, h4⟩ := h; exact ⟨z0, z1, h3, ⟨(h4.1).within hw (by omega), h4.2⟩⟩) rfl rfl (fun m w' hm' hS' => ?_) ?_
    · simp only [lookP, allP, Act.put, List.getElem?_cons_zero, List.getElem?_cons_succ, List.setIfInBounds_toArray, List.set_cons_zero, List.set_cons_succ]
      intro K hK
      replace hm' : m < 15 := hm'
      go_simp
      go_at_call 136
      refine (spec_anyCoins U g _ P Q G (24 + j5) _ hS'.2.1 (hS'.1.belowOf (HW.out.belowOf HUC.out (Nat.le_of_eq HUS.out)) (by have := HUS.out; omega)) (by omega) HGR.out (by omega)).mono ?_
      rintro e u ⟨⟨vq7, lq7, rfl, hsq7, hlq7⟩, hc, hw⟩
      exact hK.out _ _ hw ⟨hS'.1.trans hw, hc.mono (by omega), ⟨within_at (hS'.1.trans hw) z_2_0 (.inr (by omega)), within_at (hS'.1.trans hw) z_2_1 (.inr (by omega)), within_at (hS'.1.trans hw) z_2_2 (.inr (by omega))⟩⟩ ⟨vq7, lq7, rfl, ⟨(hsq7.mono (by have := hS'.1.size; omega)), by omega⟩⟩
    iterate 3 (refine' chainQ_read (DrawS.good _ _ _ _ _ _) _ rfl rfl (fun m w' hm' hS' => ?_) ?_; rotate_left; · (simp only [lookP, allP, Act.put, List.getElem?_cons_zero, List.getElem?_cons_succ, List.setIfInBounds_toArray, List.set_cons_zero, List.set_cons_succ]; (try dsimp only [DrawS] at hS'); go_simp; (try with_reducible rfl)))
    -- 11: call { callee := value (func 136), args := #[t30, t31, t32], argTypes := #[167, 39, 3] }
    refine chainQ_do (d := (some 33)) (fun v u => ∃ (vq11 : Value) (lq11 : List Int), v = vq11 ∧ (Since u5.heap.size u (fun z => Ints z vq11 lq11) ∧ lq11.length ≤ 1001)) (fun v w1 w2 hw h => by obtain ⟨z0, z1, h3, h4⟩ := h; exact ⟨z0, z1, h3, ⟨(h4.1).within hw (by omega), h4.2⟩⟩) rfl rfl (fun m w' hm' hS' => ?_) ?_
    · simp only [lookP, allP, Act.put, List.getElem?_cons_zero, List.getElem?_cons_succ, List.setIfInBounds_toArray, List.set_cons_zero, List.set_cons_succ]
      intro K hK
      replace hm' : m < 15 := hm'
      go_simp
      go_at_call 136
      refine (spec_anyCoins U g _ P Q G (24 + j5) _ hS'.2.1 (hS'.1.belowOf (HW.out.belowOf HUC.out (Nat.le_of_eq HUS.out)) (by have := HUS.out; omega)) (by omega) HGR.out (by omega)).mono ?_
      rintro e u ⟨⟨vq11, lq11, rfl, hsq11, hlq11⟩, hc, hw⟩
      exact hK.out _ _ hw ⟨hS'.1.trans hw, hc.mono (by omega), ⟨within_at (hS'.1.trans hw) z_2_0 (.inr (by omega)), within_at (hS'.1.trans hw) z_2_1 (.inr (by omega)), within_at (hS'.1.trans hw) z_2_2 (.inr (by omega))⟩⟩ ⟨vq11, lq11, rfl, ⟨(hsq11.mono (by have := hS'.1.size; omega)), by omega⟩⟩
    iterate 2 (refine' chainQ_read (DrawS.good _ _ _ _ _ _) _ rfl rfl (fun m w' hm' hS' => ?_) ?_; rotate_left; · (simp only [lookP, allP, Act.put, List.getElem?_cons_zero, List.getElem?_cons_succ, List.setIfInBounds_toArray, List.set_cons_zero, List.set_cons_succ]; (try dsimp only [DrawS] at hS'); go_simp; (try with_reducible rfl)))
    -- 14: call { callee := value (func 136), args := #[t34, t35, const (int i64 1)], argTypes := #[167, 39, 3] }
    refine chainQ_do (d := (some 36)) (fun v u => ∃ (vq14 : Value) (lq14 : List Int), v = vq14 ∧ (Since u5.heap.size u (fun z => Ints z vq14 lq14) ∧ lq14.length ≤ 1001)) (fun v w1 w2 hw h => by obtain ⟨z0, z1, h3, h4⟩ := h; exact ⟨z0, z1, h3, ⟨(h4.1).within hw (by omega), h4.2⟩⟩) rfl rfl (fun m w' hm' hS' => ?_) ?_
    · simp only [lookP, allP, Act.put, List.getElem?_cons_zero, List.getElem?_cons_succ, List.setIfInBounds_toArray, List.set_cons_zero, List.set_cons_succ]
      intro K hK
      replace hm' : m < 15 := hm'
      go_simp
      go_at_call 136
      refine (spec_anyCoins U g _ P Q G 1 _ hS'.2.1 (hS'.1.belowOf (HW.out.belowOf HUC.out (Nat.le_of_eq HUS.out)) (by have := HUS.out; omega)) (by omega) HGR.out (by omega)).mono ?_
      rintro e u ⟨⟨vq14, lq14, rfl, hsq14, hlq14⟩, hc, hw⟩
      exact hK.out _ _ hw ⟨hS'.1.trans hw, hc.mono (by omega), ⟨within_at (hS'.1.trans hw) z_2_0 (.inr (by omega)), within_at (hS'.1.trans hw) z_2_1 (.inr (by omega)), within_at (hS'.1.trans hw) z_2_2 (.inr (by omega))⟩⟩ ⟨vq14, lq14, rfl, ⟨(hsq14.mono (by have := hS'.1.size; omega)), by omega⟩⟩
    refine chainQ_nil (fun u6 hS' => ?_)
    simp only [allP, Act.put, List.setIfInBounds_toArray, List.set_cons_zero, List.set_cons_succ]
    intro x14 hx14
    intro x11 hx11
    intro x7 hx7
    intro x3 hx3
    replace hS' : DrawS U u5 g _ 1000000000 _ 15 u6 := hS'
    obtain ⟨hw, hc, hC⟩ := hS'
    obtain ⟨hq3, vq3, lq3, rfl, ⟨hq3l, hq3u⟩, hsq3, hlq3⟩ := hx3
    obtain ⟨vq7, lq7, rfl, hsq7, hlq7⟩ := hx7
    obtain ⟨vq11, lq11, rfl, hsq11, hlq11⟩ := hx11
    obtain ⟨vq14, lq14, rfl, hsq14, hlq14⟩ := hx14
    have hsz6 := hw.size
    replace HX0 := Lib.hid (HX0.out.kept hw (.inl (by omega)))
    replace HX1 := Lib.hid (HX1.out.kept hw (.inl (by omega)))
    replace HZ1 := Lib.hid (HZ1.out.kept hw (.inr (by omega)))
    replace HW := Lib.hid (HW.out.trans hw)
    replace HC := Lib.hid hc
    clear hc hw hC
    clear z_0_0 z_0_1 z_0_2 z_1_0 z_1_1 z_2_0 z_2_1 z_2_2
    have HLq3 := Lib.hid hsq3
    obtain ⟨aq3, nq3, cq3, rfl⟩ := hsq3.here.shape
    have hnq3 : nq3 ≤ 26 := by have h1 := hsq3.here.len; omega
    have HEq3 := Lib.hid hsq3.here.len
    clear hsq3
    have HLq7 := Lib.hid hsq7
    obtain ⟨aq7, nq7, cq7, rfl⟩ := hsq7.here.shape
    have hnq7 : nq7 ≤ 1001 := by have h1 := hsq7.here.len; omega
    have HEq7 := Lib.hid hsq7.here.len
    clear hsq7
    have HLq11 := Lib.hid hsq11
    obtain ⟨aq11, nq11, cq11, rfl⟩ := hsq11.here.shape
    have hnq11 : nq11 ≤ 1001 := by have h1 := hsq11.here.len; omega
    have HEq11 := Lib.hid hsq11.here.len
    clear hsq11
    have HLq14 := Lib.hid hsq14
    obtain ⟨aq14, nq14, cq14, rfl⟩ := hsq14.here.shape
    have hnq14 : nq14 ≤ 1001 := by have h1 := hsq14.here.len; omega
    have HEq14 := Lib.hid hsq14.here.len
    clear hsq14
    have r_HX0_0 := HX0.out.cell (i := 0) rfl
    have r_HX0_1 := HX0.out.cell (i := 1) rfl
    have r_HX0_2 := HX0.out.cell (i := 2) rfl
    have fr_HX0 := fun j => HX0.out.frozen j
    have r_HX1_0 := HX1.out.cell (i := 0) rfl
    have r_HX1_1 := HX1.out.cell (i := 1) rfl
    have fr_HX1 := fun j => HX1.out.frozen j
    go_wp2_with fail
    refine NoPanic.normal ?_
    have FHX0 := Lib.hid (((((HX0.out.set 0 (.int .i64 P)).set 1 (.int .i64 Q)).set 2 (.int .i64 G)).other (b' := w.heap.size + 1) (by omega) 0 (.int .i64 hq3)).other (b' := w.heap.size + 1) (by omega) 1 (.slice aq3 nq3 cq3))
    have FHX1 := Lib.hid (((((HX1.out.other (b' := w.heap.size) (by omega) 0 (.int .i64 P)).other (b' := w.heap.size) (by omega) 1 (.int .i64 Q)).other (b' := w.heap.size) (by omega) 2 (.int .i64 G)).set 0 (.int .i64 hq3)).set 1 (.slice aq3 nq3 cq3))
    clear r_HX0_0 r_HX0_1 r_HX0_2 fr_HX0 r_HX1_0 r_HX1_1 fr_HX1
    have t_HX0_0 := FHX0.out.cell (i := 0) rfl
    have t_HX0_1 := FHX0.out.cell (i := 1) rfl
    have t_HX0_2 := FHX0.out.cell (i := 2) rfl
    have t_HX1_0 := FHX1.out.cell (i := 0) rfl
    have t_HX1_1 := FHX1.out.cell (i := 1) rfl
    try (go_wp2_with fail)
    have HYS := Lib.hid ((((((Within.refl w.heap.size (w.heap.size + 2) u6).setCell (b := w.heap.size) (by omega) (by omega) 0 (.int .i64 P)).setCell (b := w.heap.size) (by omega) (by omega) 1 (.int .i64 Q)).setCell (b := w.heap.size) (by omega) (by omega) 2 (.int .i64 G)).setCell (b := w.heap.size + 1) (by omega) (by omega) 0 (.int .i64 hq3)).setCell (b := w.heap.size + 1) (by omega) (by omega) 1 (.slice aq3 nq3 cq3))
    refine bodyPost_ret (v := .tuple #[.agg #[.int .i64 P, .int .i64 Q, .int .i64 G], .agg #[.int .i64 hq3, .slice aq3 nq3 cq3], .slice aq7 nq7 cq7, .slice aq11 nq11 cq11, .slice aq14 nq14 cq14]) (by simp [results, Try.results84, go_sem, t_HX0_0, t_HX0_1, t_HX0_2, t_HX1_0, t_HX1_1]) rfl ⟨⟨_, _, _, _, _, _, _, _, _, _, _, _, rfl, HGR.out, ⟨⟨by omega, by omega⟩, (HLq3.out.within HYS.out (by omega)).mono (by omega), by have := HEq3.out; omega⟩, ⟨(HLq7.out.within HYS.out (by omega)).mono (by omega), by have := HEq7.out; omega⟩, ⟨(HLq11.out.within HYS.out (by omega)).mono (by omega), by have := HEq11.out; omega⟩, ⟨(HLq14.out.within HYS.out (by omega)).mono (by omega), by have := HEq14.out; omega⟩⟩, ((((((HW.out.belowOf HBW.out (by omega)).setCell (p := ⟨w.heap.size, 0, none⟩) (by show w.heap.size ≤ w.heap.size; omega) (.int .i64 P)).setCell (p := ⟨w.heap.size, 1, none⟩) (by show w.heap.size ≤ w.heap.size; omega) (.int .i64 Q)).setCell (p := ⟨w.heap.size, 2, none⟩) (by show w.heap.size ≤ w.heap.size; omega) (.int .i64 G)).setCell (p := ⟨w.heap.size + 1, 0, none⟩) (by show w.heap.size ≤ w.heap.size + 1; omega) (.int .i64 hq3)).setCell (p := ⟨w.heap.size + 1, 1, none⟩) (by show w.heap.size ≤ w.heap.size + 1; omega) (.slice aq3 nq3 cq3))⟩
theorem spec_DrawProveSum (v : Value) (w : World) (h : Bytes w v) :
    Calls Try.prog 84 #[v] w fun e w' => (∃ (P : Int) (Q : Int) (G : Int) (hr1 : Int) (vr1 : Value) (lr1 : List Int) (vr2 : Value) (lr2 : List Int) (vr3 : Value) (lr3 : List Int) (vr4 : Value) (lr4 : List Int), e = .returned (.tuple #[.agg #[.int .i64 P, .int .i64 Q, .int .i64 G], .agg #[.int .i64 hr1, vr1], vr2, vr3, vr4]) ∧ GrB ⟨P, Q, G⟩ ∧ ((-10 ≤ hr1 ∧ hr1 ≤ 2000000010) ∧ (Ints w' vr1 lr1 ∧ lr1.length ≤ 26)) ∧ (Ints w' vr2 lr2 ∧ lr2.length ≤ 1001) ∧ (Ints w' vr3 lr3 ∧ lr3.length ≤ 1001) ∧ (Ints w' vr4 lr4 ∧ lr4.length ≤ 1001)) ∧ Below w.heap.size w w' := by
  refine (spec_DrawProveSumS v w h).mono ?_
  rintro e w' ⟨⟨P, Q, G, a, b, c, d, f, g, k, l, m, rfl, h1, ⟨h2, h3, h4⟩, ⟨h5, h6⟩, ⟨h7, h8⟩, ⟨h9, h10⟩⟩, hb⟩
  exact ⟨⟨P, Q, G, a, b, c, d, f, g, k, l, m, rfl, h1, ⟨h2, h3.here, h4⟩, ⟨h5.here, h6⟩, ⟨h7.here, h8⟩, ⟨h9.here, h10⟩⟩, hb⟩
end Go.Proofs.Ytboahnklilmdpaa

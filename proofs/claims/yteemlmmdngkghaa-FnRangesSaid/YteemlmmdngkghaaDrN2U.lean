/- Draws: ranges and intervals: walks (printed by gen_drn2.py). -/
import Derived.Test.YteemlmmdngkghaaRegVU
namespace Go.Proofs.Yteemlmmdngkghaa
open Go.RowKit
set_option linter.unusedSimpArgs false
set_option linter.unusedVariables false

theorem pow18I (n : Int) (h0 : 0 ≤ n) (h : n ≤ 17) : wrap64 (2 ^ n.toNat) = (2 : Int) ^ n.toNat ∧ 1 ≤ (2 : Int) ^ n.toNat ∧ (2 : Int) ^ n.toNat ≤ 131072 :=
  ⟨pow18 _ (by omega), pow18_bd _ (by omega)⟩
theorem spec_l1LeastC (a b : Int) (w : World) :
    Calls Try.prog 216 #[.int .i64 a, .int .i64 b] w fun e w' => e = .returned (.int .i64 (min a b)) ∧ Below w.heap.size w w' := by
  by_cases h : a < b
  · have e : min a b = a := by omega
    rw [e]
    have hd : decide (a < b) = true := decide_eq_true h
    go_enter Try.func216, Try.ntmps216
    go_wp2_with fail
    go_ret
    exact ⟨rfl, Below.refl _ _⟩
  · have e : min a b = b := by omega
    rw [e]
    have hd : decide (a < b) = false := decide_eq_false h
    go_enter Try.func216, Try.ntmps216
    go_wp2_with fail
    go_ret
    exact ⟨rfl, Below.refl _ _⟩
theorem spec_l1MostB (a b : Int) (w : World) :
    Calls Try.prog 100 #[.int .i64 a, .int .i64 b] w fun e w' => e = .returned (.int .i64 (max a b)) ∧ Below w.heap.size w w' := by
  by_cases h : b < a
  · have e : max a b = a := by omega
    rw [e]
    have hd : decide (b < a) = true := decide_eq_true h
    go_enter Try.func100, Try.ntmps100
    go_wp2_with fail
    go_ret
    exact ⟨rfl, Below.refl _ _⟩
  · have e : max a b = b := by omega
    rw [e]
    have hd : decide (b < a) = false := decide_eq_false h
    go_enter Try.func100, Try.ntmps100
    go_wp2_with fail
    go_ret
    exact ⟨rfl, Below.refl _ _⟩
set_option maxRecDepth 100000 in
set_option maxHeartbeats 4000000 in
theorem spec_ranged (w0 : World) (g : Nat) (n : Int) (w : World) (h : Cur w0 w g n) (hb : Below w0.heap.size w0 w) (hn : n ≤ 300000000000000) :
    Calls Try.prog 84 #[.pointer (some ⟨g, 0, none⟩)] w fun e w' => (∃ (P : Int) (Q : Int) (G : Int) (hr1 : Int) (vr1 : Value) (lr1 : List Int) (xr2 : Int) (xr3 : Int) (xr4 : Int), e = .returned (.tuple #[.agg #[.int .i64 P, .int .i64 Q, .int .i64 G], .agg #[.int .i64 hr1, vr1], .int .i64 xr2, .int .i64 xr3, .int .i64 xr4]) ∧ GrB ⟨P, Q, G⟩ ∧ ((-10 ≤ hr1 ∧ hr1 ≤ 2000000010) ∧ (Since w.heap.size w' (fun z => Ints z vr1 lr1) ∧ lr1.length ≤ 26)) ∧ (-10 ≤ xr2 ∧ xr2 ≤ 131072) ∧ (-10 ≤ xr3 ∧ xr3 ≤ 2000000010) ∧ (0 ≤ xr4 ∧ xr4 ≤ 17)) ∧ Cur w0 w' g (n + 100000000) ∧ Within g (g + 1) w w' := by
  have HBB := Lib.hid hb
  have hge := h.ge
  have hgw := h.lt
  clear hb
  obtain ⟨W, hW⟩ : ∃ W, W = (w.alloc (.cells #[.int .i64 0, .int .i64 0, .int .i64 0] 25)).alloc (.cells #[.int .i64 0, (.slice none 0 0)] 28) := ⟨_, rfl⟩
  have hbW : Below w.heap.size w W := by rw [hW]; (repeat (first | exact Below.refl _ _ | assumption | refine Below.drew ?_ | refine Below.alloc ?_ (by first | (simp; done) | (simp; omega)) _ | refine Below.setCell ?_ (by first | (simp; done) | (simp; omega)) _))
  have HX0 : Hid (BoxN W w.heap.size 25 [.int .i64 0, .int .i64 0, .int .i64 0]) := by unfold Hid; rw [hW]; have h := ((BoxN.new w [.int .i64 0, .int .i64 0, .int .i64 0] 25).alloc (.cells #[.int .i64 0, (.slice none 0 0)] 28)); simpa using h
  have HX1 : Hid (BoxN W (w.heap.size + 1) 28 [.int .i64 0, (.slice none 0 0)]) := by unfold Hid; rw [hW]; have h := (BoxN.new (w.alloc (.cells #[.int .i64 0, .int .i64 0, .int .i64 0] 25)) [.int .i64 0, (.slice none 0 0)] 28); simpa using h
  have hsW : W.heap.size = w.heap.size + 2 := by rw [hW]; simp
  have HC := Lib.hid (h.keep hbW)
  have HWw := Lib.hid (Within.of_below hbW : Within g (g + 1) w W)
  have HBW : Hid (Below w0.heap.size w0 W) := HBB.out.trans (hbW.mono HBB.out.size)
  clear h
  go_enter Try.func84, Try.ntmps84
  go_wp2_with fail
  rw [← hW]
  have HW := Lib.hid (Within.refl g (g + 1) W)
  clear hW hbW
  have z_0_0 := HX0.out.cell (i := 0) rfl
  have z_0_1 := HX0.out.cell (i := 1) rfl
  have z_0_2 := HX0.out.cell (i := 2) rfl
  have z_1_0 := HX1.out.cell (i := 0) rfl
  have z_1_1 := HX1.out.cell (i := 1) rfl
  try (go_wp2_with fail)
  clear z_0_0 z_0_1 z_0_2 z_1_0 z_1_1
  refine (spec_anyGroup w0 g _ _ HC.out (HW.out.belowOf HBW.out hge) (by omega)).mono ?_
  rintro e u1 ⟨⟨P, Q, G, rfl, P1, Q1, G1⟩, hc, hw⟩
  have HGR : Hid (GrB ⟨P, Q, G⟩) := ⟨P1, Q1, G1⟩
  clear P1 Q1 G1
  have hsz1 := hw.size
  replace HX0 := Lib.hid (HX0.out.kept hw (.inr (by omega)))
  replace HX1 := Lib.hid (HX1.out.kept hw (.inr (by omega)))
  replace HW := Lib.hid (HW.out.trans hw)
  replace HC := Lib.hid hc
  clear hc hw
  have z_0_0 := HX0.out.cell (i := 0) rfl
  have z_0_1 := HX0.out.cell (i := 1) rfl
  have z_0_2 := HX0.out.cell (i := 2) rfl
  have z_1_0 := HX1.out.cell (i := 0) rfl
  have z_1_1 := HX1.out.cell (i := 1) rfl
  have lt_HX0 := HX0.out.lt
  have lt_HX1 := HX1.out.lt
  obtain ⟨V2, hV⟩ : ∃ V, V = u1.alloc (.cells #[.int .i64 P, .int .i64 Q, .int .i64 G] 25) := ⟨_, rfl⟩
  have hbV : Below u1.heap.size u1 V2 := by rw [hV]; (repeat (first | exact Below.refl _ _ | assumption | refine Below.drew ?_ | refine Below.alloc ?_ (by first | (simp; done) | (simp; omega)) _ | refine Below.setCell ?_ (by first | (simp; done) | (simp; omega)) _))
  have HZ1 : Hid (BoxN V2 u1.heap.size 25 [.int .i64 P, .int .i64 Q, .int .i64 G]) := by unfold Hid; rw [hV]; have h := (BoxN.new u1 [.int .i64 P, .int .i64 Q, .int .i64 G] 25); simpa using h
  have hgc : g < u1.heap.size := HC.out.lt
  go_wp2_with fail
  rw [← hV]
  have hsV2 : V2.heap.size = u1.heap.size + 1 := by rw [hV]; simp
  clear hV hgc
  replace HX0 := Lib.hid (HX0.out.below hbV)
  replace HX1 := Lib.hid (HX1.out.below hbV)
  replace HW := Lib.hid (HW.out.trans (Within.of_below hbV))
  replace HC := Lib.hid (HC.out.keep hbV)
  clear hbV
  clear z_0_0 z_0_1 z_0_2 z_1_0 z_1_1
  clear lt_HX0
  clear lt_HX1
  refine (spec_bitCount w0 g _ P Q G _ HC.out (HW.out.belowOf HBW.out hge) (by omega) HGR.out).mono ?_
  rintro e u3 ⟨⟨x3, rfl, x3l, x3u⟩, hc, hw⟩
  have hsz3 := hw.size
  replace HX0 := Lib.hid (HX0.out.kept hw (.inr (by omega)))
  replace HX1 := Lib.hid (HX1.out.kept hw (.inr (by omega)))
  replace HZ1 := Lib.hid (HZ1.out.kept hw (.inr (by omega)))
  replace HW := Lib.hid (HW.out.trans hw)
  replace HC := Lib.hid hc
  clear hc hw
  have z_0_0 := HX0.out.cell (i := 0) rfl
  have z_0_1 := HX0.out.cell (i := 1) rfl
  have z_0_2 := HX0.out.cell (i := 2) rfl
  have z_1_0 := HX1.out.cell (i := 0) rfl
  have z_1_1 := HX1.out.cell (i := 1) rfl
  have z_2_0 := HZ1.out.cell (i := 0) rfl
  have z_2_1 := HZ1.out.cell (i := 1) rfl
  have z_2_2 := HZ1.out.cell (i := 2) rfl
  try (go_wp2_with fail)
  clear z_0_0 z_0_1 z_0_2 z_1_0 z_1_1 z_2_0 z_2_1 z_2_2
  refine (spec_l1LeastC x3 16 _).mono ?_
  rintro e u4 ⟨rfl, hb⟩
  obtain ⟨r4, hr4⟩ : ∃ r, min x3 16 = r := ⟨_, rfl⟩
  rw [hr4]
  have r4l : 0 ≤ r4 := by rw [← hr4]; omega
  have r4u : r4 ≤ 16 := by rw [← hr4]; omega
  clear hr4
  have hsz4 := hb.size
  replace HX0 := Lib.hid (HX0.out.below hb)
  replace HX1 := Lib.hid (HX1.out.below hb)
  replace HZ1 := Lib.hid (HZ1.out.below hb)
  replace HW := Lib.hid (HW.out.trans (Within.of_below hb))
  replace HC := Lib.hid (HC.out.keep hb)
  clear hb
  obtain ⟨hpoa, hpla, hpua⟩ := pow18I r4 (by omega) (by omega)
  obtain ⟨PWa, hPWa⟩ : ∃ z, z = (2 : Int) ^ r4.toNat := ⟨_, rfl⟩
  rw [← hPWa] at hpla hpua
  have HPOa : Hid (wrap64 (2 ^ r4.toNat) = PWa) := hpoa.trans hPWa.symm
  clear hpoa hPWa
  have z_0_0 := HX0.out.cell (i := 0) rfl
  have z_0_1 := HX0.out.cell (i := 1) rfl
  have z_0_2 := HX0.out.cell (i := 2) rfl
  have z_1_0 := HX1.out.cell (i := 0) rfl
  have z_1_1 := HX1.out.cell (i := 1) rfl
  have z_2_0 := HZ1.out.cell (i := 0) rfl
  have z_2_1 := HZ1.out.cell (i := 1) rfl
  have z_2_2 := HZ1.out.cell (i := 2) rfl
  have o_HPOa := HPOa.out
  try (go_wp2_with fail)
  clear z_0_0 z_0_1 z_0_2 z_1_0 z_1_1 z_2_0 z_2_1 z_2_2
  clear o_HPOa
  refine (spec_pick w0 g _ PWa _ HC.out (HW.out.belowOf HBW.out hge) (by omega) ).mono ?_
  rintro e u5 ⟨⟨x5, rfl, x5l, x5u, x5m, _⟩, hc, hw⟩
  replace x5m := x5m (by omega)
  have hsz5 := hw.size
  replace HX0 := Lib.hid (HX0.out.kept hw (.inr (by omega)))
  replace HX1 := Lib.hid (HX1.out.kept hw (.inr (by omega)))
  replace HZ1 := Lib.hid (HZ1.out.kept hw (.inr (by omega)))
  replace HW := Lib.hid (HW.out.trans hw)
  replace HC := Lib.hid hc
  clear hc hw
  have z_0_0 := HX0.out.cell (i := 0) rfl
  have z_0_1 := HX0.out.cell (i := 1) rfl
  have z_0_2 := HX0.out.cell (i := 2) rfl
  have z_1_0 := HX1.out.cell (i := 0) rfl
  have z_1_1 := HX1.out.cell (i := 1) rfl
  have z_2_0 := HZ1.out.cell (i := 0) rfl
  have z_2_1 := HZ1.out.cell (i := 1) rfl
  have z_2_2 := HZ1.out.cell (i := 2) rfl
  have o_HPOa := HPOa.out
  try (go_wp2_with fail)
  clear z_0_0 z_0_1 z_0_2 z_1_0 z_1_1 z_2_0 z_2_1 z_2_2
  clear o_HPOa
  refine (spec_one w0 g _ 20 _ HC.out (HW.out.belowOf HBW.out hge) (by omega) ).mono ?_
  rintro e u6 ⟨⟨b6, rfl⟩, hc, hw⟩
  have hsz6 := hw.size
  replace HX0 := Lib.hid (HX0.out.kept hw (.inr (by omega)))
  replace HX1 := Lib.hid (HX1.out.kept hw (.inr (by omega)))
  replace HZ1 := Lib.hid (HZ1.out.kept hw (.inr (by omega)))
  replace HW := Lib.hid (HW.out.trans hw)
  replace HC := Lib.hid hc
  clear hc hw
  cases b6 with
  | false =>
    have z_0_0 := HX0.out.cell (i := 0) rfl
    have z_0_1 := HX0.out.cell (i := 1) rfl
    have z_0_2 := HX0.out.cell (i := 2) rfl
    have z_1_0 := HX1.out.cell (i := 0) rfl
    have z_1_1 := HX1.out.cell (i := 1) rfl
    have z_2_0 := HZ1.out.cell (i := 0) rfl
    have z_2_1 := HZ1.out.cell (i := 1) rfl
    have z_2_2 := HZ1.out.cell (i := 2) rfl
    have o_HPOa := HPOa.out
    try (go_wp2_with fail)
    clear o_HPOa
    refine wp_region_noPanic ?_
    refine wp_region_Q1 (Within g (g + 1)) (DrawS w0 u6 g _ 5000000 (fun w' => w'.cell? ⟨u1.heap.size, 0, none⟩ = some (.int .i64 P) ∧ w'.cell? ⟨u1.heap.size, 1, none⟩ = some (.int .i64 Q) ∧ w'.cell? ⟨u1.heap.size, 2, none⟩ = some (.int .i64 G))) 16 [4, 8] [(0, []), (1, []), (2, []), (3, [1, 0]), (5, []), (6, []), (7, [1, 0])] [9, 10, 11, 12, 13] (by kernel_rfl) (by kernel_rfl) (by kernel_rfl) (by kernel_rfl) (by kernel_rfl) rfl (fun _ _ _ _ h => h) (DrawS.good _ _ _ _ _ _) ⟨(Within.refl _ _ _).drew, by simpa using HC.out.keep (Below.refl _ _).drew, ⟨box_at z_2_0 (Below.refl _ _).drew, box_at z_2_1 (Below.refl _ _).drew, box_at z_2_2 (Below.refl _ _).drew⟩⟩ ?_
    simp only [pickP, pickN, List.getElem?_cons_zero, List.getElem?_cons_succ]
    refine' wpPre_read _ (fun w' => ?_) ?_; rotate_left
    · go_simp
      (try with_reducible rfl)
    refine' wpPre_read _ (fun w' => ?_) ?_; rotate_left
    · go_simp
      (try with_reducible rfl)
    refine wpPre_nil (fun _ => ?_)
    simp only [Act.put, List.setIfInBounds_toArray, List.set_cons_zero, List.set_cons_succ]
    iterate 3 (refine' chainQ_read (DrawS.good _ _ _ _ _ _) _ rfl rfl (fun m w' hm' hS' => ?_) ?_; rotate_left; · (simp only [lookP, allP, Act.put, List.getElem?_cons_zero, List.getElem?_cons_succ, List.setIfInBounds_toArray, List.set_cons_zero, List.set_cons_succ]; (try dsimp only [DrawS] at hS'); go_simp; (try with_reducible rfl)))
    -- 3: call { callee := value (func 186), args := #[t30, t31], argTypes := #[124, 25] }
    refine chainQ_do (d := (some 32)) (fun v u => ∃ (hq3 : Int) (vq3 : Value) (lq3 : List Int), v = (.agg #[.int .i64 hq3, vq3]) ∧ ((-10 ≤ hq3 ∧ hq3 ≤ 2000000010) ∧ (Since u6.heap.size u (fun z => Ints z vq3 lq3) ∧ lq3.length ≤ 26))) (fun v w1 w2 hw h => by obtain ⟨z0, z1, z2, h3, h4⟩ := h; exact ⟨z0, z1, z2, h3, ⟨h4.1, (h4.2.1).within hw (by omega), h4.2.2⟩⟩) rfl rfl (fun m w' hm' hS' => ?_) ?_
    · simp only [lookP, allP, Act.put, List.getElem?_cons_zero, List.getElem?_cons_succ, List.setIfInBounds_toArray, List.set_cons_zero, List.set_cons_succ]
      intro K hK
      replace hm' : m < 7 := hm'
      go_simp
      go_at_call 186
      refine (spec_anyBases w0 g _ P Q G _ hS'.2.1 (hS'.1.belowOf (HW.out.belowOf HBW.out hge) hge) (by omega) HGR.out).mono ?_
      rintro e u ⟨⟨hq3, vq3, lq3, rfl, ⟨hq3l, hq3u⟩, hsq3, hlq3⟩, hc, hw⟩
      exact hK.out _ _ hw ⟨hS'.1.trans hw, hc.mono (by omega), ⟨within_at (hS'.1.trans hw) z_2_0 (.inr (by omega)), within_at (hS'.1.trans hw) z_2_1 (.inr (by omega)), within_at (hS'.1.trans hw) z_2_2 (.inr (by omega))⟩⟩ ⟨hq3, vq3, lq3, rfl, ⟨⟨hq3l, hq3u⟩, (hsq3.mono (by have := hS'.1.size; omega)), hlq3⟩⟩
    iterate 2 (refine' chainQ_read (DrawS.good _ _ _ _ _ _) _ rfl rfl (fun m w' hm' hS' => ?_) ?_; rotate_left; · (simp only [lookP, allP, Act.put, List.getElem?_cons_zero, List.getElem?_cons_succ, List.setIfInBounds_toArray, List.set_cons_zero, List.set_cons_succ]; (try dsimp only [DrawS] at hS'); go_simp; (try with_reducible rfl)))
    -- 7: call { callee := value (func 110), args := #[t34, t35], argTypes := #[124, 25] }
    refine chainQ_do (d := (some 36)) (fun v u => ∃ (xq7 : Int), v = (.int .i64 xq7) ∧ (-10 ≤ xq7 ∧ xq7 ≤ 2000000010)) (fun v w1 w2 hw h => h) rfl rfl (fun m w' hm' hS' => ?_) ?_
    · simp only [lookP, allP, Act.put, List.getElem?_cons_zero, List.getElem?_cons_succ, List.setIfInBounds_toArray, List.set_cons_zero, List.set_cons_succ]
      intro K hK
      replace hm' : m < 7 := hm'
      go_simp
      go_at_call 110
      refine (spec_anyExpo w0 g _ P Q G _ hS'.2.1 (hS'.1.belowOf (HW.out.belowOf HBW.out hge) hge) (by omega) HGR.out).mono ?_
      rintro e u ⟨⟨xq7, rfl, xq7l, xq7u⟩, hc, hw⟩
      exact hK.out _ _ hw ⟨hS'.1.trans hw, hc.mono (by omega), ⟨within_at (hS'.1.trans hw) z_2_0 (.inr (by omega)), within_at (hS'.1.trans hw) z_2_1 (.inr (by omega)), within_at (hS'.1.trans hw) z_2_2 (.inr (by omega))⟩⟩ ⟨xq7, rfl, ⟨xq7l, xq7u⟩⟩
    refine chainQ_nil (fun u7 hS' => ?_)
    simp only [allP, Act.put, List.setIfInBounds_toArray, List.set_cons_zero, List.set_cons_succ]
    intro x7 hx7
    intro x3 hx3
    replace hS' : DrawS w0 u6 g _ 5000000 _ 7 u7 := hS'
    obtain ⟨hw, hc, hC⟩ := hS'
    obtain ⟨hq3, vq3, lq3, rfl, ⟨hq3l, hq3u⟩, hsq3, hlq3⟩ := hx3
    obtain ⟨xq7, rfl, xq7l, xq7u⟩ := hx7
    have hsz7 := hw.size
    replace HX0 := Lib.hid (HX0.out.kept hw (.inr (by omega)))
    replace HX1 := Lib.hid (HX1.out.kept hw (.inr (by omega)))
    replace HZ1 := Lib.hid (HZ1.out.kept hw (.inr (by omega)))
    replace HW := Lib.hid (HW.out.trans hw)
    replace HC := Lib.hid hc
    clear hc hw hC
    clear z_0_0 z_0_1 z_0_2 z_1_0 z_1_1 z_2_0 z_2_1 z_2_2
    have HLq3 := Lib.hid hsq3
    obtain ⟨aq3, nq3, cq3, rfl⟩ := hsq3.here.shape
    have hnq3 : nq3 ≤ 26 := by have h1 := hsq3.here.len; omega
    have HEq3 := Lib.hid hsq3.here.len
    clear hsq3
    have r_HX0_0 := HX0.out.cell (i := 0) rfl
    have r_HX0_1 := HX0.out.cell (i := 1) rfl
    have r_HX0_2 := HX0.out.cell (i := 2) rfl
    have fr_HX0 := fun j => HX0.out.frozen j
    have r_HX1_0 := HX1.out.cell (i := 0) rfl
    have r_HX1_1 := HX1.out.cell (i := 1) rfl
    have fr_HX1 := fun j => HX1.out.frozen j
    go_wp2_with fail
    refine NoPanic.normal ?_
    have FHX0 := Lib.hid (((((HX0.out.set 0 (.int .i64 P)).set 1 (.int .i64 Q)).set 2 (.int .i64 G)).other (b' := w.heap.size + 1) (by omega) 0 (.int .i64 hq3)).other (b' := w.heap.size + 1) (by omega) 1 (.slice aq3 nq3 cq3))
    have FHX1 := Lib.hid (((((HX1.out.other (b' := w.heap.size) (by omega) 0 (.int .i64 P)).other (b' := w.heap.size) (by omega) 1 (.int .i64 Q)).other (b' := w.heap.size) (by omega) 2 (.int .i64 G)).set 0 (.int .i64 hq3)).set 1 (.slice aq3 nq3 cq3))
    clear r_HX0_0 r_HX0_1 r_HX0_2 fr_HX0 r_HX1_0 r_HX1_1 fr_HX1
    have t_HX0_0 := FHX0.out.cell (i := 0) rfl
    have t_HX0_1 := FHX0.out.cell (i := 1) rfl
    have t_HX0_2 := FHX0.out.cell (i := 2) rfl
    have t_HX1_0 := FHX1.out.cell (i := 0) rfl
    have t_HX1_1 := FHX1.out.cell (i := 1) rfl
    try (go_wp2_with fail)
    have HYS := Lib.hid ((((((Within.refl w.heap.size (w.heap.size + 2) u7).setCell (b := w.heap.size) (by omega) (by omega) 0 (.int .i64 P)).setCell (b := w.heap.size) (by omega) (by omega) 1 (.int .i64 Q)).setCell (b := w.heap.size) (by omega) (by omega) 2 (.int .i64 G)).setCell (b := w.heap.size + 1) (by omega) (by omega) 0 (.int .i64 hq3)).setCell (b := w.heap.size + 1) (by omega) (by omega) 1 (.slice aq3 nq3 cq3))
    refine bodyPost_ret (v := .tuple #[.agg #[.int .i64 P, .int .i64 Q, .int .i64 G], .agg #[.int .i64 hq3, .slice aq3 nq3 cq3], .int .i64 x5, .int .i64 xq7, .int .i64 x3]) (by simp [results, Try.results84, go_sem, t_HX0_0, t_HX0_1, t_HX0_2, t_HX1_0, t_HX1_1]) rfl ⟨⟨_, _, _, _, _, _, _, _, _, rfl, HGR.out, ⟨⟨by omega, by omega⟩, (HLq3.out.within HYS.out (by omega)).mono (by omega), by have := HEq3.out; omega⟩, ⟨by omega, by omega⟩, ⟨by omega, by omega⟩, ⟨by omega, by omega⟩⟩, (((((HC.out.setNew (b := w.heap.size) (by omega) 0 (.int .i64 P)).setNew (b := w.heap.size) (by omega) 1 (.int .i64 Q)).setNew (b := w.heap.size) (by omega) 2 (.int .i64 G)).setNew (b := w.heap.size + 1) (by omega) 0 (.int .i64 hq3)).setNew (b := w.heap.size + 1) (by omega) 1 (.slice aq3 nq3 cq3)).mono (by omega), ((((((HWw.out.trans HW.out).setNew (b := w.heap.size) (by omega) 0 (.int .i64 P)).setNew (b := w.heap.size) (by omega) 1 (.int .i64 Q)).setNew (b := w.heap.size) (by omega) 2 (.int .i64 G)).setNew (b := w.heap.size + 1) (by omega) 0 (.int .i64 hq3)).setNew (b := w.heap.size + 1) (by omega) 1 (.slice aq3 nq3 cq3))⟩
  | true =>
    obtain ⟨hpob, hplb, hpub⟩ := pow18I x3 (by omega) (by omega)
    obtain ⟨PWb, hPWb⟩ : ∃ z, z = (2 : Int) ^ x3.toNat := ⟨_, rfl⟩
    rw [← hPWb] at hplb hpub
    have HPOb : Hid (wrap64 (2 ^ x3.toNat) = PWb) := hpob.trans hPWb.symm
    clear hpob hPWb
    have z_0_0 := HX0.out.cell (i := 0) rfl
    have z_0_1 := HX0.out.cell (i := 1) rfl
    have z_0_2 := HX0.out.cell (i := 2) rfl
    have z_1_0 := HX1.out.cell (i := 0) rfl
    have z_1_1 := HX1.out.cell (i := 1) rfl
    have z_2_0 := HZ1.out.cell (i := 0) rfl
    have z_2_1 := HZ1.out.cell (i := 1) rfl
    have z_2_2 := HZ1.out.cell (i := 2) rfl
    have lt_HX0 := HX0.out.lt
    have lt_HX1 := HX1.out.lt
    have lt_HZ1 := HZ1.out.lt
    obtain ⟨V7, hV⟩ : ∃ V, V = u6.alloc (.cells #[.int .i64 (-1), .int .i64 PWb] 3) := ⟨_, rfl⟩
    have hbV : Below u6.heap.size u6 V7 := by rw [hV]; (repeat (first | exact Below.refl _ _ | assumption | refine Below.drew ?_ | refine Below.alloc ?_ (by first | (simp; done) | (simp; omega)) _ | refine Below.setCell ?_ (by first | (simp; done) | (simp; omega)) _))
    have HO2 : Hid (OwnI V7 u6.heap.size (.slice (some ⟨u6.heap.size, 0, none⟩) 2 2) [(-1), PWb]) := by unfold Hid; rw [hV]; have h := (OwnI.lit (B := u6.heap.size) u6 (by simp) (l := [(-1), PWb]) (AllI64.cons ⟨by decide, by decide⟩ (AllI64.cons (⟨by omega, by omega⟩ : I64 _) AllI64.nil)) rfl (by simp [maxLen]) 2 rfl); simpa using h
    have HZ3 : Hid (BoxN V7 u6.heap.size 3 [.int .i64 (-1), .int .i64 PWb]) := by unfold Hid; rw [hV]; have h := (BoxN.new u6 [.int .i64 (-1), .int .i64 PWb] 3); simpa using h
    have hgc : g < u6.heap.size := HC.out.lt
    have o_HPOb := HPOb.out
    go_wp2_with fail
    rw [← hV]
    have hsV7 : V7.heap.size = u6.heap.size + 1 := by rw [hV]; simp
    clear hV hgc
    replace HX0 := Lib.hid (HX0.out.below hbV)
    replace HX1 := Lib.hid (HX1.out.below hbV)
    replace HZ1 := Lib.hid (HZ1.out.below hbV)
    replace HW := Lib.hid (HW.out.trans (Within.of_below hbV))
    replace HC := Lib.hid (HC.out.keep hbV)
    clear hbV
    clear z_0_0 z_0_1 z_0_2 z_1_0 z_1_1 z_2_0 z_2_1 z_2_2
    clear lt_HX0
    clear lt_HX1
    clear lt_HZ1
    clear o_HPOb
    refine (spec_among w0 g _ _ [(-1), PWb] _ HC.out (HW.out.belowOf HBW.out hge) (by omega) (Apart.of_ownI HO2.out (by omega)) (by simp)).mono ?_
    rintro e u8 ⟨⟨x8, rfl, hm8⟩, hc, hw⟩
    have x8l : -10 ≤ x8 := by simp at hm8; omega
    have x8u : x8 ≤ 131072 := by simp at hm8; omega
    clear hm8
    have hsz8 := hw.size
    replace HX0 := Lib.hid (HX0.out.kept hw (.inr (by omega)))
    replace HX1 := Lib.hid (HX1.out.kept hw (.inr (by omega)))
    replace HZ1 := Lib.hid (HZ1.out.kept hw (.inr (by omega)))
    replace HZ3 := Lib.hid (HZ3.out.kept hw (.inr (by omega)))
    replace HW := Lib.hid (HW.out.trans hw)
    replace HC := Lib.hid hc
    clear hc hw
    have z_0_0 := HX0.out.cell (i := 0) rfl
    have z_0_1 := HX0.out.cell (i := 1) rfl
    have z_0_2 := HX0.out.cell (i := 2) rfl
    have z_1_0 := HX1.out.cell (i := 0) rfl
    have z_1_1 := HX1.out.cell (i := 1) rfl
    have z_2_0 := HZ1.out.cell (i := 0) rfl
    have z_2_1 := HZ1.out.cell (i := 1) rfl
    have z_2_2 := HZ1.out.cell (i := 2) rfl
    have z_3_0 := HZ3.out.cell (i := 0) rfl
    have z_3_1 := HZ3.out.cell (i := 1) rfl
    try (go_wp2_with fail)
    refine wp_region_noPanic ?_
    refine wp_region_Q1 (Within g (g + 1)) (DrawS w0 u8 g _ 5000000 (fun w' => w'.cell? ⟨u1.heap.size, 0, none⟩ = some (.int .i64 P) ∧ w'.cell? ⟨u1.heap.size, 1, none⟩ = some (.int .i64 Q) ∧ w'.cell? ⟨u1.heap.size, 2, none⟩ = some (.int .i64 G) ∧ w'.cell? ⟨u6.heap.size, 0, none⟩ = some (.int .i64 (-1)) ∧ w'.cell? ⟨u6.heap.size, 1, none⟩ = some (.int .i64 PWb))) 16 [4, 8] [(0, []), (1, []), (2, []), (3, [1, 0]), (5, []), (6, []), (7, [1, 0])] [9, 10, 11, 12, 13] (by kernel_rfl) (by kernel_rfl) (by kernel_rfl) (by kernel_rfl) (by kernel_rfl) rfl (fun _ _ _ _ h => h) (DrawS.good _ _ _ _ _ _) ⟨(Within.refl _ _ _).drew, by simpa using HC.out.keep (Below.refl _ _).drew, ⟨box_at z_2_0 (Below.refl _ _).drew, box_at z_2_1 (Below.refl _ _).drew, box_at z_2_2 (Below.refl _ _).drew, box_at z_3_0 (Below.refl _ _).drew, box_at z_3_1 (Below.refl _ _).drew⟩⟩ ?_
    simp only [pickP, pickN, List.getElem?_cons_zero, List.getElem?_cons_succ]
    refine' wpPre_read _ (fun w' => ?_) ?_; rotate_left
    · go_simp
      (try with_reducible rfl)
    refine' wpPre_read _ (fun w' => ?_) ?_; rotate_left
    · go_simp
      (try with_reducible rfl)
    refine wpPre_nil (fun _ => ?_)
    simp only [Act.put, List.setIfInBounds_toArray, List.set_cons_zero, List.set_cons_succ]
    iterate 3 (refine' chainQ_read (DrawS.good _ _ _ _ _ _) _ rfl rfl (fun m w' hm' hS' => ?_) ?_; rotate_left; · (simp only [lookP, allP, Act.put, List.getElem?_cons_zero, List.getElem?_cons_succ, List.setIfInBounds_toArray, List.set_cons_zero, List.set_cons_succ]; (try dsimp only [DrawS] at hS'); go_simp; (try with_reducible rfl)))
    -- 3: call { callee := value (func 186), args := #[t30, t31], argTypes := #[124, 25] }
    refine chainQ_do (d := (some 32)) (fun v u => ∃ (hq3 : Int) (vq3 : Value) (lq3 : List Int), v = (.agg #[.int .i64 hq3, vq3]) ∧ ((-10 ≤ hq3 ∧ hq3 ≤ 2000000010) ∧ (Since u8.heap.size u (fun z => Ints z vq3 lq3) ∧ lq3.length ≤ 26))) (fun v w1 w2 hw h => by obtain ⟨z0, z1, z2, h3, h4⟩ := h; exact ⟨z0, z1, z2, h3, ⟨h4.1, (h4.2.1).within hw (by omega), h4.2.2⟩⟩) rfl rfl (fun m w' hm' hS' => ?_) ?_
    · simp only [lookP, allP, Act.put, List.getElem?_cons_zero, List.getElem?_cons_succ, List.setIfInBounds_toArray, List.set_cons_zero, List.set_cons_succ]
      intro K hK
      replace hm' : m < 7 := hm'
      go_simp
      go_at_call 186
      refine (spec_anyBases w0 g _ P Q G _ hS'.2.1 (hS'.1.belowOf (HW.out.belowOf HBW.out hge) hge) (by omega) HGR.out).mono ?_
      rintro e u ⟨⟨hq3, vq3, lq3, rfl, ⟨hq3l, hq3u⟩, hsq3, hlq3⟩, hc, hw⟩
      exact hK.out _ _ hw ⟨hS'.1.trans hw, hc.mono (by omega), ⟨within_at (hS'.1.trans hw) z_2_0 (.inr (by omega)), within_at (hS'.1.trans hw) z_2_1 (.inr (by omega)), within_at (hS'.1.trans hw) z_2_2 (.inr (by omega)), within_at (hS'.1.trans hw) z_3_0 (.inr (by omega)), within_at (hS'.1.trans hw) z_3_1 (.inr (by omega))⟩⟩ ⟨hq3, vq3, lq3, rfl, ⟨⟨hq3l, hq3u⟩, (hsq3.mono (by have := hS'.1.size; omega)), hlq3⟩⟩
    iterate 2 (refine' chainQ_read (DrawS.good _ _ _ _ _ _) _ rfl rfl (fun m w' hm' hS' => ?_) ?_; rotate_left; · (simp only [lookP, allP, Act.put, List.getElem?_cons_zero, List.getElem?_cons_succ, List.setIfInBounds_toArray, List.set_cons_zero, List.set_cons_succ]; (try dsimp only [DrawS] at hS'); go_simp; (try with_reducible rfl)))
    -- 7: call { callee := value (func 110), args := #[t34, t35], argTypes := #[124, 25] }
    refine chainQ_do (d := (some 36)) (fun v u => ∃ (xq7 : Int), v = (.int .i64 xq7) ∧ (-10 ≤ xq7 ∧ xq7 ≤ 2000000010)) (fun v w1 w2 hw h => h) rfl rfl (fun m w' hm' hS' => ?_) ?_
    · simp only [lookP, allP, Act.put, List.getElem?_cons_zero, List.getElem?_cons_succ, List.setIfInBounds_toArray, List.set_cons_zero, List.set_cons_succ]
      intro K hK
      replace hm' : m < 7 := hm'
      go_simp
      go_at_call 110
      refine (spec_anyExpo w0 g _ P Q G _ hS'.2.1 (hS'.1.belowOf (HW.out.belowOf HBW.out hge) hge) (by omega) HGR.out).mono ?_
      rintro e u ⟨⟨xq7, rfl, xq7l, xq7u⟩, hc, hw⟩
      exact hK.out _ _ hw ⟨hS'.1.trans hw, hc.mono (by omega), ⟨within_at (hS'.1.trans hw) z_2_0 (.inr (by omega)), within_at (hS'.1.trans hw) z_2_1 (.inr (by omega)), within_at (hS'.1.trans hw) z_2_2 (.inr (by omega)), within_at (hS'.1.trans hw) z_3_0 (.inr (by omega)), within_at (hS'.1.trans hw) z_3_1 (.inr (by omega))⟩⟩ ⟨xq7, rfl, ⟨xq7l, xq7u⟩⟩
    refine chainQ_nil (fun u9 hS' => ?_)
    simp only [allP, Act.put, List.setIfInBounds_toArray, List.set_cons_zero, List.set_cons_succ]
    intro x7 hx7
    intro x3 hx3
    replace hS' : DrawS w0 u8 g _ 5000000 _ 7 u9 := hS'
    obtain ⟨hw, hc, hC⟩ := hS'
    obtain ⟨hq3, vq3, lq3, rfl, ⟨hq3l, hq3u⟩, hsq3, hlq3⟩ := hx3
    obtain ⟨xq7, rfl, xq7l, xq7u⟩ := hx7
    have hsz9 := hw.size
    replace HX0 := Lib.hid (HX0.out.kept hw (.inr (by omega)))
    replace HX1 := Lib.hid (HX1.out.kept hw (.inr (by omega)))
    replace HZ1 := Lib.hid (HZ1.out.kept hw (.inr (by omega)))
    replace HZ3 := Lib.hid (HZ3.out.kept hw (.inr (by omega)))
    replace HW := Lib.hid (HW.out.trans hw)
    replace HC := Lib.hid hc
    clear hc hw hC
    clear z_0_0 z_0_1 z_0_2 z_1_0 z_1_1 z_2_0 z_2_1 z_2_2 z_3_0 z_3_1
    have HLq3 := Lib.hid hsq3
    obtain ⟨aq3, nq3, cq3, rfl⟩ := hsq3.here.shape
    have hnq3 : nq3 ≤ 26 := by have h1 := hsq3.here.len; omega
    have HEq3 := Lib.hid hsq3.here.len
    clear hsq3
    have r_HX0_0 := HX0.out.cell (i := 0) rfl
    have r_HX0_1 := HX0.out.cell (i := 1) rfl
    have r_HX0_2 := HX0.out.cell (i := 2) rfl
    have fr_HX0 := fun j => HX0.out.frozen j
    have r_HX1_0 := HX1.out.cell (i := 0) rfl
    have r_HX1_1 := HX1.out.cell (i := 1) rfl
    have fr_HX1 := fun j => HX1.out.frozen j
    go_wp2_with fail
    refine NoPanic.normal ?_
    have FHX0 := Lib.hid (((((HX0.out.set 0 (.int .i64 P)).set 1 (.int .i64 Q)).set 2 (.int .i64 G)).other (b' := w.heap.size + 1) (by omega) 0 (.int .i64 hq3)).other (b' := w.heap.size + 1) (by omega) 1 (.slice aq3 nq3 cq3))
    have FHX1 := Lib.hid (((((HX1.out.other (b' := w.heap.size) (by omega) 0 (.int .i64 P)).other (b' := w.heap.size) (by omega) 1 (.int .i64 Q)).other (b' := w.heap.size) (by omega) 2 (.int .i64 G)).set 0 (.int .i64 hq3)).set 1 (.slice aq3 nq3 cq3))
    clear r_HX0_0 r_HX0_1 r_HX0_2 fr_HX0 r_HX1_0 r_HX1_1 fr_HX1
    have t_HX0_0 := FHX0.out.cell (i := 0) rfl
    have t_HX0_1 := FHX0.out.cell (i := 1) rfl
    have t_HX0_2 := FHX0.out.cell (i := 2) rfl
    have t_HX1_0 := FHX1.out.cell (i := 0) rfl
    have t_HX1_1 := FHX1.out.cell (i := 1) rfl
    try (go_wp2_with fail)
    have HYS := Lib.hid ((((((Within.refl w.heap.size (w.heap.size + 2) u9).setCell (b := w.heap.size) (by omega) (by omega) 0 (.int .i64 P)).setCell (b := w.heap.size) (by omega) (by omega) 1 (.int .i64 Q)).setCell (b := w.heap.size) (by omega) (by omega) 2 (.int .i64 G)).setCell (b := w.heap.size + 1) (by omega) (by omega) 0 (.int .i64 hq3)).setCell (b := w.heap.size + 1) (by omega) (by omega) 1 (.slice aq3 nq3 cq3))
    refine bodyPost_ret (v := .tuple #[.agg #[.int .i64 P, .int .i64 Q, .int .i64 G], .agg #[.int .i64 hq3, .slice aq3 nq3 cq3], .int .i64 x8, .int .i64 xq7, .int .i64 x3]) (by simp [results, Try.results84, go_sem, t_HX0_0, t_HX0_1, t_HX0_2, t_HX1_0, t_HX1_1]) rfl ⟨⟨_, _, _, _, _, _, _, _, _, rfl, HGR.out, ⟨⟨by omega, by omega⟩, (HLq3.out.within HYS.out (by omega)).mono (by omega), by have := HEq3.out; omega⟩, ⟨by omega, by omega⟩, ⟨by omega, by omega⟩, ⟨by omega, by omega⟩⟩, (((((HC.out.setNew (b := w.heap.size) (by omega) 0 (.int .i64 P)).setNew (b := w.heap.size) (by omega) 1 (.int .i64 Q)).setNew (b := w.heap.size) (by omega) 2 (.int .i64 G)).setNew (b := w.heap.size + 1) (by omega) 0 (.int .i64 hq3)).setNew (b := w.heap.size + 1) (by omega) 1 (.slice aq3 nq3 cq3)).mono (by omega), ((((((HWw.out.trans HW.out).setNew (b := w.heap.size) (by omega) 0 (.int .i64 P)).setNew (b := w.heap.size) (by omega) 1 (.int .i64 Q)).setNew (b := w.heap.size) (by omega) 2 (.int .i64 G)).setNew (b := w.heap.size + 1) (by omega) 0 (.int .i64 hq3)).setNew (b := w.heap.size + 1) (by omega) 1 (.slice aq3 nq3 cq3))⟩
set_option maxRecDepth 100000 in
set_option maxHeartbeats 4000000 in
theorem spec_DrawProveRange (v : Value) (w : World) (h : Bytes w v) :
    Calls Try.prog 13 #[v] w fun e w' => (∃ (P : Int) (Q : Int) (G : Int) (hr1 : Int) (vr1 : Value) (lr1 : List Int) (xr2 : Int) (xr3 : Int) (xr4 : Int) (vr5 : Value) (lr5 : List Int), e = .returned (.tuple #[.agg #[.int .i64 P, .int .i64 Q, .int .i64 G], .agg #[.int .i64 hr1, vr1], .int .i64 xr2, .int .i64 xr3, .int .i64 xr4, vr5]) ∧ GrB ⟨P, Q, G⟩ ∧ ((-10 ≤ hr1 ∧ hr1 ≤ 2000000010) ∧ (Ints w' vr1 lr1 ∧ lr1.length ≤ 26)) ∧ (-10 ≤ xr2 ∧ xr2 ≤ 131072) ∧ (-10 ≤ xr3 ∧ xr3 ≤ 2000000010) ∧ (0 ≤ xr4 ∧ xr4 ≤ 17) ∧ (Ints w' vr5 lr5 ∧ lr5.length ≤ 1001)) ∧ Below w.heap.size w w' := by
  obtain ⟨a, m, c, rfl, hk1, hk2, hv⟩ := h
  have HY : Hid (Bytes w (.slice a m c)) := ⟨a, m, c, rfl, hk1, hk2, hv⟩
  clear hv
  unfold maxLen at hk2
  obtain ⟨U, hU⟩ : ∃ U, U = (w.alloc (.cells #[.int .i64 0, .int .i64 0, .int .i64 0] 25)).alloc (.cells #[.int .i64 0, (.slice none 0 0)] 28) := ⟨_, rfl⟩
  have hbU : Below w.heap.size w U := by rw [hU]; (repeat (first | exact Below.refl _ _ | assumption | refine Below.drew ?_ | refine Below.alloc ?_ (by first | (simp; done) | (simp; omega)) _ | refine Below.setCell ?_ (by first | (simp; done) | (simp; omega)) _))
  have HX0 : Hid (BoxN U w.heap.size 25 [.int .i64 0, .int .i64 0, .int .i64 0]) := by unfold Hid; rw [hU]; have h := ((BoxN.new w [.int .i64 0, .int .i64 0, .int .i64 0] 25).alloc (.cells #[.int .i64 0, (.slice none 0 0)] 28)); simpa using h
  have HX1 : Hid (BoxN U (w.heap.size + 1) 28 [.int .i64 0, (.slice none 0 0)]) := by unfold Hid; rw [hU]; have h := (BoxN.new (w.alloc (.cells #[.int .i64 0, .int .i64 0, .int .i64 0] 25)) [.int .i64 0, (.slice none 0 0)] 28); simpa using h
  have hsU : U.heap.size = w.heap.size + 1 + 1 := by rw [hU]; simp
  obtain ⟨W, hW⟩ : ∃ W, W = U.alloc (.cells #[.slice a m c, .int .i64 0, .int .u64 0] 127) := ⟨_, rfl⟩
  have HC : Hid (Cur U W U.heap.size 0) := by unfold Hid; rw [hW]; exact Cur.new U (HY.out.below hbU)
  have hbW : Below U.heap.size U W := by rw [hW]; exact (Below.refl _ _).alloc (Nat.le_refl _) _
  have HBW := Lib.hid (Below.next hbU hbW)
  have HUB := Lib.hid hbW
  replace HX0 := Lib.hid (HX0.out.below hbW)
  replace HX1 := Lib.hid (HX1.out.below hbW)
  obtain ⟨g, hg⟩ : ∃ g, g = U.heap.size := ⟨_, rfl⟩
  have HSU : Hid (w.heap.size + 1 + 1 = g) := by unfold Hid; rw [hg, hsU]
  have HWS : Hid (W.heap.size = g + 1) := by unfold Hid; rw [hW, hg]; simp
  go_enter Try.func13, Try.ntmps13
  go_wp2_with fail
  rw [← hU, ← hW]
  rw [HSU.out]
  rw [← hg] at HC HUB
  have HUS : Hid (U.heap.size = g) := hg.symm
  have hwg : w.heap.size + 2 = g := HSU.out
  have hsW := HWS.out
  have HW := Lib.hid (Within.refl g (g + 1) W)
  have HUC : Hid (Below U.heap.size U W) := by unfold Hid; rw [HUS.out]; exact HUB.out
  clear hU hW hbU hbW hsU hg
  have z_0_0 := HX0.out.cell (i := 0) rfl
  have z_0_1 := HX0.out.cell (i := 1) rfl
  have z_0_2 := HX0.out.cell (i := 2) rfl
  have z_1_0 := HX1.out.cell (i := 0) rfl
  have z_1_1 := HX1.out.cell (i := 1) rfl
  try (go_wp2_with fail)
  clear z_0_0 z_0_1 z_0_2 z_1_0 z_1_1
  refine (spec_ranged U g _ _ HC.out (HW.out.belowOf HUC.out (Nat.le_of_eq HUS.out)) (by omega)).mono ?_
  rintro e u1 ⟨⟨P, Q, G, h1, v1, l1, x1a, x1b, x1c, rfl, ⟨P1, Q1, G1⟩, ⟨⟨h1l, h1u⟩, hs1, hl1⟩, ⟨x1al, x1au⟩, ⟨x1bl, x1bu⟩, ⟨x1cl, x1cu⟩⟩, hc, hw⟩
  have HGR : Hid (GrB ⟨P, Q, G⟩) := ⟨P1, Q1, G1⟩
  clear P1 Q1 G1
  have HL1 := Lib.hid hs1
  obtain ⟨a1, n1, c1, rfl⟩ := hs1.here.shape
  have hn1 : n1 ≤ 26 := by have h1 := hs1.here.len; omega
  have HE1 := Lib.hid hs1.here.len
  clear hs1
  have hsz1 := hw.size
  replace HX0 := Lib.hid (HX0.out.kept hw (.inl (by omega)))
  replace HX1 := Lib.hid (HX1.out.kept hw (.inl (by omega)))
  replace HW := Lib.hid (HW.out.trans hw)
  replace HC := Lib.hid hc
  clear hc hw
  have z_0_0 := HX0.out.cell (i := 0) rfl
  have z_0_1 := HX0.out.cell (i := 1) rfl
  have z_0_2 := HX0.out.cell (i := 2) rfl
  have z_1_0 := HX1.out.cell (i := 0) rfl
  have z_1_1 := HX1.out.cell (i := 1) rfl
  have lt_HX0 := HX0.out.lt
  have lt_HX1 := HX1.out.lt
  obtain ⟨V2, hV⟩ : ∃ V, V = (u1.alloc (.cells #[.int .i64 P, .int .i64 Q, .int .i64 G] 25)).alloc (.cells #[.int .i64 h1, .slice a1 n1 c1] 28) := ⟨_, rfl⟩
  have hbV : Below u1.heap.size u1 V2 := by rw [hV]; (repeat (first | exact Below.refl _ _ | assumption | refine Below.drew ?_ | refine Below.alloc ?_ (by first | (simp; done) | (simp; omega)) _ | refine Below.setCell ?_ (by first | (simp; done) | (simp; omega)) _))
  have HZ1 : Hid (BoxN V2 u1.heap.size 25 [.int .i64 P, .int .i64 Q, .int .i64 G]) := by unfold Hid; rw [hV]; have h := ((BoxN.new u1 [.int .i64 P, .int .i64 Q, .int .i64 G] 25).alloc (.cells #[.int .i64 h1, .slice a1 n1 c1] 28)); simpa using h
  have HZ2 : Hid (BoxN V2 (u1.heap.size + 1) 28 [.int .i64 h1, .slice a1 n1 c1]) := by unfold Hid; rw [hV]; have h := (BoxN.new (u1.alloc (.cells #[.int .i64 P, .int .i64 Q, .int .i64 G] 25)) [.int .i64 h1, .slice a1 n1 c1] 28); simpa using h
  have hgc : g < u1.heap.size := HC.out.lt
  go_wp2_with fail
  rw [← hV]
  have hsV2 : V2.heap.size = u1.heap.size + 2 := by rw [hV]; simp
  clear hV hgc
  replace HX0 := Lib.hid (HX0.out.below hbV)
  replace HX1 := Lib.hid (HX1.out.below hbV)
  replace HL1 := Lib.hid (HL1.out.below hbV)
  replace HW := Lib.hid (HW.out.trans (Within.of_below hbV))
  replace HC := Lib.hid (HC.out.keep hbV)
  clear hbV
  clear z_0_0 z_0_1 z_0_2 z_1_0 z_1_1
  clear lt_HX0
  clear lt_HX1
  have z_0_0 := HX0.out.cell (i := 0) rfl
  have z_0_1 := HX0.out.cell (i := 1) rfl
  have z_0_2 := HX0.out.cell (i := 2) rfl
  have z_1_0 := HX1.out.cell (i := 0) rfl
  have z_1_1 := HX1.out.cell (i := 1) rfl
  have z_2_0 := HZ1.out.cell (i := 0) rfl
  have z_2_1 := HZ1.out.cell (i := 1) rfl
  have z_2_2 := HZ1.out.cell (i := 2) rfl
  have z_3_0 := HZ2.out.cell (i := 0) rfl
  have z_3_1 := HZ2.out.cell (i := 1) rfl
  clear z_0_0
  clear z_0_1
  clear z_0_2
  clear z_1_0
  clear z_1_1
  refine wp_region_noPanic ?_
  refine wp_region_V (fun w' => w'.cell? ⟨u1.heap.size, 0, none⟩ = some (.int .i64 P) ∧ w'.cell? ⟨u1.heap.size, 1, none⟩ = some (.int .i64 Q) ∧ w'.cell? ⟨u1.heap.size, 2, none⟩ = some (.int .i64 G) ∧ w'.cell? ⟨u1.heap.size + 1, 0, none⟩ = some (.int .i64 h1) ∧ w'.cell? ⟨u1.heap.size + 1, 1, none⟩ = some (.slice a1 n1 c1)) 19 15 (.rd 0 (.rd 1 (.rd 2 (.rd 3 (.rd 4 (.rd 5 (.rd 6 (.rd 7 (.rd 8 (.rd 9 (.alt 10 (.alt 11 (.alt 12 (.alt 13 (.alt 14 .done .nil) .nil) .nil) .nil) .nil))))))))))) [15, 16] (by kernel_rfl) (by kernel_rfl) rfl (fun _ _ _ _ _ h => h) ⟨box_at z_2_0 (Below.refl _ _).drew, box_at z_2_1 (Below.refl _ _).drew, box_at z_2_2 (Below.refl _ _).drew, box_at z_3_0 (Below.refl _ _).drew, box_at z_3_1 (Below.refl _ _).drew⟩ ?_
  simp only [pickV, pickN, List.getElem?_cons_zero, List.getElem?_cons_succ]
  have ew3 : IntKind.i64.wrap (4 * x1c) = 4 * x1c := IntWalk.i64_in _ (by omega)
  have ew4 : IntKind.i64.wrap ((4 * x1c) - 1) = (4 * x1c) - 1 := IntWalk.i64_in _ (by omega)
  repeat (refine' wpV_read _ (by kernel_rfl) (fun w' hS' => ?_) ?_; rotate_left; · ((try dsimp only at hS'); go_simp; (try with_reducible rfl)); (try simp only [Act.put, List.setIfInBounds_toArray, List.set_cons_zero, List.set_cons_succ]))
  have hdr : Below V2.heap.size V2 V2.drew := (Below.refl _ _).drew
  have hszd := hdr.size
  replace HX0 := Lib.hid (HX0.out.below hdr)
  replace HX1 := Lib.hid (HX1.out.below hdr)
  replace HZ1 := Lib.hid (HZ1.out.below hdr)
  replace HZ2 := Lib.hid (HZ2.out.below hdr)
  replace HL1 := Lib.hid (HL1.out.below hdr)
  replace HW := Lib.hid (HW.out.trans (Within.of_below hdr))
  replace HC := Lib.hid (HC.out.keep hdr)
  clear hdr
  refine wpV_do (by kernel_rfl) (fun K hK => ?_)
  -- 10: call
  go_simp
  go_at_call 85
  refine (spec_anyCoinsI U g _ P Q G ((4 * x1c) - 1) _ HC.out (HW.out.belowOf HUC.out (Nat.le_of_eq HUS.out)) (by omega) HGR.out (by omega)).mono ?_
  rintro e ut1 ⟨⟨vt1, lt1, rfl, hst1, hlt1⟩, hc, hw⟩
  have HLt1 := Lib.hid hst1
  obtain ⟨at1, nt1, ct1, rfl⟩ := hst1.here.shape
  have hnt1 : nt1 ≤ 1001 := by have h1 := hst1.here.len; omega
  have HEt1 := Lib.hid hst1.here.len
  clear hst1
  have hszt1 := hw.size
  replace HX0 := Lib.hid (HX0.out.kept hw (.inl (by omega)))
  replace HX1 := Lib.hid (HX1.out.kept hw (.inl (by omega)))
  replace HZ1 := Lib.hid (HZ1.out.kept hw (.inr (by omega)))
  replace HZ2 := Lib.hid (HZ2.out.kept hw (.inr (by omega)))
  replace HL1 := Lib.hid (HL1.out.within hw (by omega))
  replace HW := Lib.hid (HW.out.trans hw)
  replace HC := Lib.hid hc
  clear hc hw
  clear z_2_0 z_2_1 z_2_2 z_3_0 z_3_1
  have z_2_0 := HZ1.out.cell (i := 0) rfl
  have z_2_1 := HZ1.out.cell (i := 1) rfl
  have z_2_2 := HZ1.out.cell (i := 2) rfl
  have z_3_0 := HZ2.out.cell (i := 0) rfl
  have z_3_1 := HZ2.out.cell (i := 1) rfl
  refine hK.out _ _ ⟨z_2_0, z_2_1, z_2_2, z_3_0, z_3_1⟩ (fun _ => ?_)
  clear hK K
  (try simp only [Act.put, List.setIfInBounds_toArray, List.set_cons_zero, List.set_cons_succ])
  refine wpV_do (by kernel_rfl) (fun K hK => ?_)
  -- 11: store
  have r0 := HX0.out.cell (i := 0) rfl
  have r1 := HX0.out.cell (i := 1) rfl
  have r2 := HX0.out.cell (i := 2) rfl
  have fr := fun j => HX0.out.frozen j
  obtain ⟨Y2, hY⟩ : ∃ Y, Y = ((ut1.setCell ⟨w.heap.size, 0, none⟩ (.int .i64 P)).setCell ⟨w.heap.size, 1, none⟩ (.int .i64 Q)).setCell ⟨w.heap.size, 2, none⟩ (.int .i64 G) := ⟨_, rfl⟩
  have hYl : Within (w.heap.size) (w.heap.size + 1) ut1 Y2 := by rw [hY]; exact ((((Within.refl (w.heap.size) (w.heap.size + 1) ut1).setCell (b := w.heap.size) (by omega) (by omega) 0 (.int .i64 P)).setCell (b := w.heap.size) (by omega) (by omega) 1 (.int .i64 Q)).setCell (b := w.heap.size) (by omega) (by omega) 2 (.int .i64 G))
  have HYW : Hid (Within w.heap.size (w.heap.size + 2) ut1 Y2) := hYl.mono (by omega) (by omega)
  have HYB : Hid (Below w.heap.size w Y2) := hYl.belowU (HW.out.belowOf HBW.out (by omega)) (by omega)
  have HCS : Hid (∀ w', Within w.heap.size (w.heap.size + 2) ut1 w' → w'.cell? ⟨u1.heap.size, 0, none⟩ = some (.int .i64 P) ∧ w'.cell? ⟨u1.heap.size, 1, none⟩ = some (.int .i64 Q) ∧ w'.cell? ⟨u1.heap.size, 2, none⟩ = some (.int .i64 G) ∧ w'.cell? ⟨u1.heap.size + 1, 0, none⟩ = some (.int .i64 h1) ∧ w'.cell? ⟨u1.heap.size + 1, 1, none⟩ = some (.slice a1 n1 c1)) := fun w' h => ⟨within_at h z_2_0 (by omega), within_at h z_2_1 (by omega), within_at h z_2_2 (by omega), within_at h z_3_0 (by omega), within_at h z_3_1 (by omega)⟩
  go_simp
  refine hK.out _ _ ?_ (fun _ => ?_)
  · rw [← hY]; exact HCS.out _ HYW.out
  rw [← hY]
  clear hK K fr r0 r1 r2
  replace HX0 : Hid (BoxN Y2 w.heap.size 25 [.int .i64 P, .int .i64 Q, .int .i64 G]) := by unfold Hid; rw [hY]; exact (((HX0.out.set 0 (.int .i64 P)).set 1 (.int .i64 Q)).set 2 (.int .i64 G))
  replace HX1 := Lib.hid (HX1.out.kept hYl (by omega))
  clear hY hYl
  (try simp only [Act.put, List.setIfInBounds_toArray, List.set_cons_zero, List.set_cons_succ])
  clear z_2_0 z_2_1 z_2_2 z_3_0 z_3_1
  obtain ⟨z_2_0, z_2_1, z_2_2, z_3_0, z_3_1⟩ := HCS.out _ HYW.out
  refine wpV_do (by kernel_rfl) (fun K hK => ?_)
  -- 12: store
  have r0 := HX1.out.cell (i := 0) rfl
  have r1 := HX1.out.cell (i := 1) rfl
  have fr := fun j => HX1.out.frozen j
  obtain ⟨Y3, hY⟩ : ∃ Y, Y = (Y2.setCell ⟨w.heap.size + 1, 0, none⟩ (.int .i64 h1)).setCell ⟨w.heap.size + 1, 1, none⟩ (.slice a1 n1 c1) := ⟨_, rfl⟩
  have hYl : Within (w.heap.size + 1) (w.heap.size + 1 + 1) Y2 Y3 := by rw [hY]; exact (((Within.refl (w.heap.size + 1) (w.heap.size + 1 + 1) Y2).setCell (b := w.heap.size + 1) (by omega) (by omega) 0 (.int .i64 h1)).setCell (b := w.heap.size + 1) (by omega) (by omega) 1 (.slice a1 n1 c1))
  replace HYW := Lib.hid (HYW.out.trans (hYl.mono (by omega) (by omega)))
  replace HYB := Lib.hid (hYl.belowU HYB.out (by omega))
  go_simp
  refine hK.out _ _ ?_ (fun _ => ?_)
  · rw [← hY]; exact HCS.out _ HYW.out
  rw [← hY]
  clear hK K fr r0 r1
  replace HX1 : Hid (BoxN Y3 (w.heap.size + 1) 28 [.int .i64 h1, .slice a1 n1 c1]) := by unfold Hid; rw [hY]; exact ((HX1.out.set 0 (.int .i64 h1)).set 1 (.slice a1 n1 c1))
  replace HX0 := Lib.hid (HX0.out.kept hYl (by omega))
  clear hY hYl
  (try simp only [Act.put, List.setIfInBounds_toArray, List.set_cons_zero, List.set_cons_succ])
  clear z_2_0 z_2_1 z_2_2 z_3_0 z_3_1
  obtain ⟨z_2_0, z_2_1, z_2_2, z_3_0, z_3_1⟩ := HCS.out _ HYW.out
  refine wpV_do (by kernel_rfl) (fun K hK => ?_)
  -- 13: load
  go_simp
  refine hK.out _ _ ⟨z_2_0, z_2_1, z_2_2, z_3_0, z_3_1⟩ (fun _ => ?_)
  clear hK K
  (try simp only [Act.put, List.setIfInBounds_toArray, List.set_cons_zero, List.set_cons_succ])
  refine wpV_do (by kernel_rfl) (fun K hK => ?_)
  -- 14: load
  go_simp
  refine hK.out _ _ ⟨z_2_0, z_2_1, z_2_2, z_3_0, z_3_1⟩ (fun _ => ?_)
  clear hK K
  (try simp only [Act.put, List.setIfInBounds_toArray, List.set_cons_zero, List.set_cons_succ])
  refine wpV_done ?_
  go_wp2_with fail
  refine NoPanic.normal ?_
  clear z_2_0 z_2_1 z_2_2 z_3_0 z_3_1
  have t_HX0_0 := HX0.out.cell (i := 0) rfl
  have t_HX0_1 := HX0.out.cell (i := 1) rfl
  have t_HX0_2 := HX0.out.cell (i := 2) rfl
  have t_HX1_0 := HX1.out.cell (i := 0) rfl
  have t_HX1_1 := HX1.out.cell (i := 1) rfl
  try (go_wp2_with fail)
  refine bodyPost_ret (v := .tuple #[.agg #[.int .i64 P, .int .i64 Q, .int .i64 G], .agg #[.int .i64 h1, .slice a1 n1 c1], .int .i64 x1a, .int .i64 x1b, .int .i64 x1c, .slice at1 nt1 ct1]) (by simp [results, Try.results13, go_sem, t_HX0_0, t_HX0_1, t_HX0_2, t_HX1_0, t_HX1_1]) rfl ⟨⟨_, _, _, _, _, _, _, _, _, _, _, rfl, HGR.out, ⟨⟨by omega, by omega⟩, (HL1.out.within HYW.out (by omega)).here, by have := HE1.out; omega⟩, ⟨by omega, by omega⟩, ⟨by omega, by omega⟩, ⟨by omega, by omega⟩, ⟨(HLt1.out.within HYW.out (by omega)).here, by have := HEt1.out; omega⟩⟩, HYB.out⟩
set_option maxRecDepth 100000 in
set_option maxHeartbeats 4000000 in
theorem spec_DrawProveInterval (v : Value) (w : World) (h : Bytes w v) :
    Calls Try.prog 18 #[v] w fun e w' => (∃ (P : Int) (Q : Int) (G : Int) (hr1 : Int) (vr1 : Value) (lr1 : List Int) (xr2 : Int) (xr3 : Int) (xr4 : Int) (xr5 : Int) (xr6 : Int) (vr7 : Value) (lr7 : List Int), e = .returned (.tuple #[.agg #[.int .i64 P, .int .i64 Q, .int .i64 G], .agg #[.int .i64 hr1, vr1], .int .i64 xr2, .int .i64 xr3, .int .i64 xr4, .int .i64 xr5, .int .i64 xr6, vr7]) ∧ GrB ⟨P, Q, G⟩ ∧ ((-10 ≤ hr1 ∧ hr1 ≤ 2000000010) ∧ (Ints w' vr1 lr1 ∧ lr1.length ≤ 26)) ∧ (-10 ≤ xr2 ∧ xr2 ≤ 131072) ∧ (-10 ≤ xr3 ∧ xr3 ≤ 2000000010) ∧ (0 ≤ xr4 ∧ xr4 ≤ 131072) ∧ (-10 ≤ xr5 ∧ xr5 ≤ 131073) ∧ (0 ≤ xr6 ∧ xr6 ≤ 17) ∧ (Ints w' vr7 lr7 ∧ lr7.length ≤ 1001)) ∧ Below w.heap.size w w' := by
  obtain ⟨a, m, c, rfl, hk1, hk2, hv⟩ := h
  have HY : Hid (Bytes w (.slice a m c)) := ⟨a, m, c, rfl, hk1, hk2, hv⟩
  clear hv
  unfold maxLen at hk2
  obtain ⟨U, hU⟩ : ∃ U, U = (w.alloc (.cells #[.int .i64 0, .int .i64 0, .int .i64 0] 25)).alloc (.cells #[.int .i64 0, (.slice none 0 0)] 28) := ⟨_, rfl⟩
  have hbU : Below w.heap.size w U := by rw [hU]; (repeat (first | exact Below.refl _ _ | assumption | refine Below.drew ?_ | refine Below.alloc ?_ (by first | (simp; done) | (simp; omega)) _ | refine Below.setCell ?_ (by first | (simp; done) | (simp; omega)) _))
  have HX0 : Hid (BoxN U w.heap.size 25 [.int .i64 0, .int .i64 0, .int .i64 0]) := by unfold Hid; rw [hU]; have h := ((BoxN.new w [.int .i64 0, .int .i64 0, .int .i64 0] 25).alloc (.cells #[.int .i64 0, (.slice none 0 0)] 28)); simpa using h
  have HX1 : Hid (BoxN U (w.heap.size + 1) 28 [.int .i64 0, (.slice none 0 0)]) := by unfold Hid; rw [hU]; have h := (BoxN.new (w.alloc (.cells #[.int .i64 0, .int .i64 0, .int .i64 0] 25)) [.int .i64 0, (.slice none 0 0)] 28); simpa using h
  have hsU : U.heap.size = w.heap.size + 1 + 1 := by rw [hU]; simp
  obtain ⟨W, hW⟩ : ∃ W, W = U.alloc (.cells #[.slice a m c, .int .i64 0, .int .u64 0] 127) := ⟨_, rfl⟩
  have HC : Hid (Cur U W U.heap.size 0) := by unfold Hid; rw [hW]; exact Cur.new U (HY.out.below hbU)
  have hbW : Below U.heap.size U W := by rw [hW]; exact (Below.refl _ _).alloc (Nat.le_refl _) _
  have HBW := Lib.hid (Below.next hbU hbW)
  have HUB := Lib.hid hbW
  replace HX0 := Lib.hid (HX0.out.below hbW)
  replace HX1 := Lib.hid (HX1.out.below hbW)
  obtain ⟨g, hg⟩ : ∃ g, g = U.heap.size := ⟨_, rfl⟩
  have HSU : Hid (w.heap.size + 1 + 1 = g) := by unfold Hid; rw [hg, hsU]
  have HWS : Hid (W.heap.size = g + 1) := by unfold Hid; rw [hW, hg]; simp
  go_enter Try.func18, Try.ntmps18
  go_wp2_with fail
  rw [← hU, ← hW]
  rw [HSU.out]
  rw [← hg] at HC HUB
  have HUS : Hid (U.heap.size = g) := hg.symm
  have hwg : w.heap.size + 2 = g := HSU.out
  have hsW := HWS.out
  have HW := Lib.hid (Within.refl g (g + 1) W)
  have HUC : Hid (Below U.heap.size U W) := by unfold Hid; rw [HUS.out]; exact HUB.out
  clear hU hW hbU hbW hsU hg
  have z_0_0 := HX0.out.cell (i := 0) rfl
  have z_0_1 := HX0.out.cell (i := 1) rfl
  have z_0_2 := HX0.out.cell (i := 2) rfl
  have z_1_0 := HX1.out.cell (i := 0) rfl
  have z_1_1 := HX1.out.cell (i := 1) rfl
  try (go_wp2_with fail)
  clear z_0_0 z_0_1 z_0_2 z_1_0 z_1_1
  refine (spec_ranged U g _ _ HC.out (HW.out.belowOf HUC.out (Nat.le_of_eq HUS.out)) (by omega)).mono ?_
  rintro e u1 ⟨⟨P, Q, G, h1, v1, l1, x1a, x1b, x1c, rfl, ⟨P1, Q1, G1⟩, ⟨⟨h1l, h1u⟩, hs1, hl1⟩, ⟨x1al, x1au⟩, ⟨x1bl, x1bu⟩, ⟨x1cl, x1cu⟩⟩, hc, hw⟩
  have HGR : Hid (GrB ⟨P, Q, G⟩) := ⟨P1, Q1, G1⟩
  clear P1 Q1 G1
  have HL1 := Lib.hid hs1
  obtain ⟨a1, n1, c1, rfl⟩ := hs1.here.shape
  have hn1 : n1 ≤ 26 := by have h1 := hs1.here.len; omega
  have HE1 := Lib.hid hs1.here.len
  clear hs1
  have hsz1 := hw.size
  replace HX0 := Lib.hid (HX0.out.kept hw (.inl (by omega)))
  replace HX1 := Lib.hid (HX1.out.kept hw (.inl (by omega)))
  replace HW := Lib.hid (HW.out.trans hw)
  replace HC := Lib.hid hc
  clear hc hw
  have z_0_0 := HX0.out.cell (i := 0) rfl
  have z_0_1 := HX0.out.cell (i := 1) rfl
  have z_0_2 := HX0.out.cell (i := 2) rfl
  have z_1_0 := HX1.out.cell (i := 0) rfl
  have z_1_1 := HX1.out.cell (i := 1) rfl
  have lt_HX0 := HX0.out.lt
  have lt_HX1 := HX1.out.lt
  obtain ⟨V2, hV⟩ : ∃ V, V = (u1.alloc (.cells #[.int .i64 P, .int .i64 Q, .int .i64 G] 25)).alloc (.cells #[.int .i64 h1, .slice a1 n1 c1] 28) := ⟨_, rfl⟩
  have hbV : Below u1.heap.size u1 V2 := by rw [hV]; (repeat (first | exact Below.refl _ _ | assumption | refine Below.drew ?_ | refine Below.alloc ?_ (by first | (simp; done) | (simp; omega)) _ | refine Below.setCell ?_ (by first | (simp; done) | (simp; omega)) _))
  have HZ1 : Hid (BoxN V2 u1.heap.size 25 [.int .i64 P, .int .i64 Q, .int .i64 G]) := by unfold Hid; rw [hV]; have h := ((BoxN.new u1 [.int .i64 P, .int .i64 Q, .int .i64 G] 25).alloc (.cells #[.int .i64 h1, .slice a1 n1 c1] 28)); simpa using h
  have HZ2 : Hid (BoxN V2 (u1.heap.size + 1) 28 [.int .i64 h1, .slice a1 n1 c1]) := by unfold Hid; rw [hV]; have h := (BoxN.new (u1.alloc (.cells #[.int .i64 P, .int .i64 Q, .int .i64 G] 25)) [.int .i64 h1, .slice a1 n1 c1] 28); simpa using h
  have hgc : g < u1.heap.size := HC.out.lt
  go_wp2_with fail
  rw [← hV]
  have hsV2 : V2.heap.size = u1.heap.size + 2 := by rw [hV]; simp
  clear hV hgc
  replace HX0 := Lib.hid (HX0.out.below hbV)
  replace HX1 := Lib.hid (HX1.out.below hbV)
  replace HL1 := Lib.hid (HL1.out.below hbV)
  replace HW := Lib.hid (HW.out.trans (Within.of_below hbV))
  replace HC := Lib.hid (HC.out.keep hbV)
  clear hbV
  clear z_0_0 z_0_1 z_0_2 z_1_0 z_1_1
  clear lt_HX0
  clear lt_HX1
  refine (spec_pick U g _ 3 _ HC.out (HW.out.belowOf HUC.out (Nat.le_of_eq HUS.out)) (by omega) ).mono ?_
  rintro e u3 ⟨⟨x3, rfl, x3l, x3u, x3m, _⟩, hc, hw⟩
  replace x3m := x3m (by omega)
  have hsz3 := hw.size
  replace HX0 := Lib.hid (HX0.out.kept hw (.inl (by omega)))
  replace HX1 := Lib.hid (HX1.out.kept hw (.inl (by omega)))
  replace HZ1 := Lib.hid (HZ1.out.kept hw (.inr (by omega)))
  replace HZ2 := Lib.hid (HZ2.out.kept hw (.inr (by omega)))
  replace HL1 := Lib.hid (HL1.out.within hw (by omega))
  replace HW := Lib.hid (HW.out.trans hw)
  replace HC := Lib.hid hc
  clear hc hw
  have ew3 : IntKind.i64.wrap (x1a - x3) = x1a - x3 := IntWalk.i64_in _ (by omega)
  have z_0_0 := HX0.out.cell (i := 0) rfl
  have z_0_1 := HX0.out.cell (i := 1) rfl
  have z_0_2 := HX0.out.cell (i := 2) rfl
  have z_1_0 := HX1.out.cell (i := 0) rfl
  have z_1_1 := HX1.out.cell (i := 1) rfl
  have z_2_0 := HZ1.out.cell (i := 0) rfl
  have z_2_1 := HZ1.out.cell (i := 1) rfl
  have z_2_2 := HZ1.out.cell (i := 2) rfl
  have z_3_0 := HZ2.out.cell (i := 0) rfl
  have z_3_1 := HZ2.out.cell (i := 1) rfl
  try (go_wp2_with fail)
  clear z_0_0 z_0_1 z_0_2 z_1_0 z_1_1 z_2_0 z_2_1 z_2_2 z_3_0 z_3_1
  refine (spec_l1MostB 0 (x1a - x3) _).mono ?_
  rintro e u4 ⟨rfl, hb⟩
  obtain ⟨r4, hr4⟩ : ∃ r, max 0 (x1a - x3) = r := ⟨_, rfl⟩
  rw [hr4]
  have r4l : 0 ≤ r4 := by rw [← hr4]; omega
  have r4u : r4 ≤ 131072 := by rw [← hr4]; omega
  clear hr4
  have hsz4 := hb.size
  replace HX0 := Lib.hid (HX0.out.below hb)
  replace HX1 := Lib.hid (HX1.out.below hb)
  replace HZ1 := Lib.hid (HZ1.out.below hb)
  replace HZ2 := Lib.hid (HZ2.out.below hb)
  replace HL1 := Lib.hid (HL1.out.below hb)
  replace HW := Lib.hid (HW.out.trans (Within.of_below hb))
  replace HC := Lib.hid (HC.out.keep hb)
  clear hb
  have z_0_0 := HX0.out.cell (i := 0) rfl
  have z_0_1 := HX0.out.cell (i := 1) rfl
  have z_0_2 := HX0.out.cell (i := 2) rfl
  have z_1_0 := HX1.out.cell (i := 0) rfl
  have z_1_1 := HX1.out.cell (i := 1) rfl
  have z_2_0 := HZ1.out.cell (i := 0) rfl
  have z_2_1 := HZ1.out.cell (i := 1) rfl
  have z_2_2 := HZ1.out.cell (i := 2) rfl
  have z_3_0 := HZ2.out.cell (i := 0) rfl
  have z_3_1 := HZ2.out.cell (i := 1) rfl
  try (go_wp2_with fail)
  clear z_0_0 z_0_1 z_0_2 z_1_0 z_1_1 z_2_0 z_2_1 z_2_2 z_3_0 z_3_1
  refine (spec_pick U g _ 2 _ HC.out (HW.out.belowOf HUC.out (Nat.le_of_eq HUS.out)) (by omega) ).mono ?_
  rintro e u5 ⟨⟨x5, rfl, x5l, x5u, x5m, _⟩, hc, hw⟩
  replace x5m := x5m (by omega)
  have hsz5 := hw.size
  replace HX0 := Lib.hid (HX0.out.kept hw (.inl (by omega)))
  replace HX1 := Lib.hid (HX1.out.kept hw (.inl (by omega)))
  replace HZ1 := Lib.hid (HZ1.out.kept hw (.inr (by omega)))
  replace HZ2 := Lib.hid (HZ2.out.kept hw (.inr (by omega)))
  replace HL1 := Lib.hid (HL1.out.within hw (by omega))
  replace HW := Lib.hid (HW.out.trans hw)
  replace HC := Lib.hid hc
  clear hc hw
  have ew4 : IntKind.i64.wrap (x1a + x5) = x1a + x5 := IntWalk.i64_in _ (by omega)
  have z_0_0 := HX0.out.cell (i := 0) rfl
  have z_0_1 := HX0.out.cell (i := 1) rfl
  have z_0_2 := HX0.out.cell (i := 2) rfl
  have z_1_0 := HX1.out.cell (i := 0) rfl
  have z_1_1 := HX1.out.cell (i := 1) rfl
  have z_2_0 := HZ1.out.cell (i := 0) rfl
  have z_2_1 := HZ1.out.cell (i := 1) rfl
  have z_2_2 := HZ1.out.cell (i := 2) rfl
  have z_3_0 := HZ2.out.cell (i := 0) rfl
  have z_3_1 := HZ2.out.cell (i := 1) rfl
  try (go_wp2_with fail)
  clear z_0_0 z_0_1 z_0_2 z_1_0 z_1_1 z_2_0 z_2_1 z_2_2 z_3_0 z_3_1
  refine (spec_one U g _ 12 _ HC.out (HW.out.belowOf HUC.out (Nat.le_of_eq HUS.out)) (by omega) ).mono ?_
  rintro e u6 ⟨⟨b6, rfl⟩, hc, hw⟩
  have hsz6 := hw.size
  replace HX0 := Lib.hid (HX0.out.kept hw (.inl (by omega)))
  replace HX1 := Lib.hid (HX1.out.kept hw (.inl (by omega)))
  replace HZ1 := Lib.hid (HZ1.out.kept hw (.inr (by omega)))
  replace HZ2 := Lib.hid (HZ2.out.kept hw (.inr (by omega)))
  replace HL1 := Lib.hid (HL1.out.within hw (by omega))
  replace HW := Lib.hid (HW.out.trans hw)
  replace HC := Lib.hid hc
  clear hc hw
  cases b6 with
  | false =>
    have z_0_0 := HX0.out.cell (i := 0) rfl
    have z_0_1 := HX0.out.cell (i := 1) rfl
    have z_0_2 := HX0.out.cell (i := 2) rfl
    have z_1_0 := HX1.out.cell (i := 0) rfl
    have z_1_1 := HX1.out.cell (i := 1) rfl
    have z_2_0 := HZ1.out.cell (i := 0) rfl
    have z_2_1 := HZ1.out.cell (i := 1) rfl
    have z_2_2 := HZ1.out.cell (i := 2) rfl
    have z_3_0 := HZ2.out.cell (i := 0) rfl
    have z_3_1 := HZ2.out.cell (i := 1) rfl
    try (go_wp2_with fail)
    clear z_0_0
    clear z_0_1
    clear z_0_2
    clear z_1_0
    clear z_1_1
    refine wp_region_noPanic ?_
    refine wp_region_V (fun w' => w'.cell? ⟨u1.heap.size, 0, none⟩ = some (.int .i64 P) ∧ w'.cell? ⟨u1.heap.size, 1, none⟩ = some (.int .i64 Q) ∧ w'.cell? ⟨u1.heap.size, 2, none⟩ = some (.int .i64 G) ∧ w'.cell? ⟨u1.heap.size + 1, 0, none⟩ = some (.int .i64 h1) ∧ w'.cell? ⟨u1.heap.size + 1, 1, none⟩ = some (.slice a1 n1 c1)) 23 19 (.rd 0 (.rd 1 (.rd 2 (.rd 3 (.rd 4 (.rd 5 (.rd 6 (.rd 7 (.rd 8 (.rd 9 (.rd 10 (.rd 11 (.alt 12 (.alt 13 (.alt 14 (.alt 15 (.alt 16 (.alt 17 (.alt 18 .done .nil) .nil) .nil) .nil) .nil) .nil) .nil))))))))))))) [19, 20] (by kernel_rfl) (by kernel_rfl) rfl (fun _ _ _ _ _ h => h) ⟨box_at z_2_0 (Below.refl _ _).drew, box_at z_2_1 (Below.refl _ _).drew, box_at z_2_2 (Below.refl _ _).drew, box_at z_3_0 (Below.refl _ _).drew, box_at z_3_1 (Below.refl _ _).drew⟩ ?_
    simp only [pickV, pickN, List.getElem?_cons_zero, List.getElem?_cons_succ]
    have ew5 : IntKind.i64.wrap (8 * x1c) = 8 * x1c := IntWalk.i64_in _ (by omega)
    have ew6 : IntKind.i64.wrap ((8 * x1c) - 2) = (8 * x1c) - 2 := IntWalk.i64_in _ (by omega)
    repeat (refine' wpV_read _ (by kernel_rfl) (fun w' hS' => ?_) ?_; rotate_left; · ((try dsimp only at hS'); go_simp; (try with_reducible rfl)); (try simp only [Act.put, List.setIfInBounds_toArray, List.set_cons_zero, List.set_cons_succ]))
    have hdr : Below u6.heap.size u6 u6.drew := (Below.refl _ _).drew
    have hszd := hdr.size
    replace HX0 := Lib.hid (HX0.out.below hdr)
    replace HX1 := Lib.hid (HX1.out.below hdr)
    replace HZ1 := Lib.hid (HZ1.out.below hdr)
    replace HZ2 := Lib.hid (HZ2.out.below hdr)
    replace HL1 := Lib.hid (HL1.out.below hdr)
    replace HW := Lib.hid (HW.out.trans (Within.of_below hdr))
    replace HC := Lib.hid (HC.out.keep hdr)
    clear hdr
    refine wpV_do (by kernel_rfl) (fun K hK => ?_)
    -- 12: call
    go_simp
    go_at_call 85
    refine (spec_anyCoinsI U g _ P Q G ((8 * x1c) - 2) _ HC.out (HW.out.belowOf HUC.out (Nat.le_of_eq HUS.out)) (by omega) HGR.out (by omega)).mono ?_
    rintro e ut1 ⟨⟨vt1, lt1, rfl, hst1, hlt1⟩, hc, hw⟩
    have HLt1 := Lib.hid hst1
    obtain ⟨at1, nt1, ct1, rfl⟩ := hst1.here.shape
    have hnt1 : nt1 ≤ 1001 := by have h1 := hst1.here.len; omega
    have HEt1 := Lib.hid hst1.here.len
    clear hst1
    have hszt1 := hw.size
    replace HX0 := Lib.hid (HX0.out.kept hw (.inl (by omega)))
    replace HX1 := Lib.hid (HX1.out.kept hw (.inl (by omega)))
    replace HZ1 := Lib.hid (HZ1.out.kept hw (.inr (by omega)))
    replace HZ2 := Lib.hid (HZ2.out.kept hw (.inr (by omega)))
    replace HL1 := Lib.hid (HL1.out.within hw (by omega))
    replace HW := Lib.hid (HW.out.trans hw)
    replace HC := Lib.hid hc
    clear hc hw
    clear z_2_0 z_2_1 z_2_2 z_3_0 z_3_1
    have z_2_0 := HZ1.out.cell (i := 0) rfl
    have z_2_1 := HZ1.out.cell (i := 1) rfl
    have z_2_2 := HZ1.out.cell (i := 2) rfl
    have z_3_0 := HZ2.out.cell (i := 0) rfl
    have z_3_1 := HZ2.out.cell (i := 1) rfl
    refine hK.out _ _ ⟨z_2_0, z_2_1, z_2_2, z_3_0, z_3_1⟩ (fun _ => ?_)
    clear hK K
    (try simp only [Act.put, List.setIfInBounds_toArray, List.set_cons_zero, List.set_cons_succ])
    refine wpV_do (by kernel_rfl) (fun K hK => ?_)
    -- 13: store
    have r0 := HX0.out.cell (i := 0) rfl
    have r1 := HX0.out.cell (i := 1) rfl
    have r2 := HX0.out.cell (i := 2) rfl
    have fr := fun j => HX0.out.frozen j
    obtain ⟨Y2, hY⟩ : ∃ Y, Y = ((ut1.setCell ⟨w.heap.size, 0, none⟩ (.int .i64 P)).setCell ⟨w.heap.size, 1, none⟩ (.int .i64 Q)).setCell ⟨w.heap.size, 2, none⟩ (.int .i64 G) := ⟨_, rfl⟩
    have hYl : Within (w.heap.size) (w.heap.size + 1) ut1 Y2 := by rw [hY]; exact ((((Within.refl (w.heap.size) (w.heap.size + 1) ut1).setCell (b := w.heap.size) (by omega) (by omega) 0 (.int .i64 P)).setCell (b := w.heap.size) (by omega) (by omega) 1 (.int .i64 Q)).setCell (b := w.heap.size) (by omega) (by omega) 2 (.int .i64 G))
    have HYW : Hid (Within w.heap.size (w.heap.size + 2) ut1 Y2) := hYl.mono (by omega) (by omega)
    have HYB : Hid (Below w.heap.size w Y2) := hYl.belowU (HW.out.belowOf HBW.out (by omega)) (by omega)
    have HCS : Hid (∀ w', Within w.heap.size (w.heap.size + 2) ut1 w' → w'.cell? ⟨u1.heap.size, 0, none⟩ = some (.int .i64 P) ∧ w'.cell? ⟨u1.heap.size, 1, none⟩ = some (.int .i64 Q) ∧ w'.cell? ⟨u1.heap.size, 2, none⟩ = some (.int .i64 G) ∧ w'.cell? ⟨u1.heap.size + 1, 0, none⟩ = some (.int .i64 h1) ∧ w'.cell? ⟨u1.heap.size + 1, 1, none⟩ = some (.slice a1 n1 c1)) := fun w' h => ⟨within_at h z_2_0 (by omega), within_at h z_2_1 (by omega), within_at h z_2_2 (by omega), within_at h z_3_0 (by omega), within_at h z_3_1 (by omega)⟩
    go_simp
    refine hK.out _ _ ?_ (fun _ => ?_)
    · rw [← hY]; exact HCS.out _ HYW.out
    rw [← hY]
    clear hK K fr r0 r1 r2
    replace HX0 : Hid (BoxN Y2 w.heap.size 25 [.int .i64 P, .int .i64 Q, .int .i64 G]) := by unfold Hid; rw [hY]; exact (((HX0.out.set 0 (.int .i64 P)).set 1 (.int .i64 Q)).set 2 (.int .i64 G))
    replace HX1 := Lib.hid (HX1.out.kept hYl (by omega))
    clear hY hYl
    (try simp only [Act.put, List.setIfInBounds_toArray, List.set_cons_zero, List.set_cons_succ])
    clear z_2_0 z_2_1 z_2_2 z_3_0 z_3_1
    obtain ⟨z_2_0, z_2_1, z_2_2, z_3_0, z_3_1⟩ := HCS.out _ HYW.out
    refine wpV_do (by kernel_rfl) (fun K hK => ?_)
    -- 14: store
    have r0 := HX1.out.cell (i := 0) rfl
    have r1 := HX1.out.cell (i := 1) rfl
    have fr := fun j => HX1.out.frozen j
    obtain ⟨Y3, hY⟩ : ∃ Y, Y = (Y2.setCell ⟨w.heap.size + 1, 0, none⟩ (.int .i64 h1)).setCell ⟨w.heap.size + 1, 1, none⟩ (.slice a1 n1 c1) := ⟨_, rfl⟩
    have hYl : Within (w.heap.size + 1) (w.heap.size + 1 + 1) Y2 Y3 := by rw [hY]; exact (((Within.refl (w.heap.size + 1) (w.heap.size + 1 + 1) Y2).setCell (b := w.heap.size + 1) (by omega) (by omega) 0 (.int .i64 h1)).setCell (b := w.heap.size + 1) (by omega) (by omega) 1 (.slice a1 n1 c1))
    replace HYW := Lib.hid (HYW.out.trans (hYl.mono (by omega) (by omega)))
    replace HYB := Lib.hid (hYl.belowU HYB.out (by omega))
    go_simp
    refine hK.out _ _ ?_ (fun _ => ?_)
    · rw [← hY]; exact HCS.out _ HYW.out
    rw [← hY]
    clear hK K fr r0 r1
    replace HX1 : Hid (BoxN Y3 (w.heap.size + 1) 28 [.int .i64 h1, .slice a1 n1 c1]) := by unfold Hid; rw [hY]; exact ((HX1.out.set 0 (.int .i64 h1)).set 1 (.slice a1 n1 c1))
    replace HX0 := Lib.hid (HX0.out.kept hYl (by omega))
    clear hY hYl
    (try simp only [Act.put, List.setIfInBounds_toArray, List.set_cons_zero, List.set_cons_succ])
    clear z_2_0 z_2_1 z_2_2 z_3_0 z_3_1
    obtain ⟨z_2_0, z_2_1, z_2_2, z_3_0, z_3_1⟩ := HCS.out _ HYW.out
    refine wpV_do (by kernel_rfl) (fun K hK => ?_)
    -- 15: load
    go_simp
    refine hK.out _ _ ⟨z_2_0, z_2_1, z_2_2, z_3_0, z_3_1⟩ (fun _ => ?_)
    clear hK K
    (try simp only [Act.put, List.setIfInBounds_toArray, List.set_cons_zero, List.set_cons_succ])
    refine wpV_do (by kernel_rfl) (fun K hK => ?_)
    -- 16: load
    go_simp
    refine hK.out _ _ ⟨z_2_0, z_2_1, z_2_2, z_3_0, z_3_1⟩ (fun _ => ?_)
    clear hK K
    (try simp only [Act.put, List.setIfInBounds_toArray, List.set_cons_zero, List.set_cons_succ])
    refine wpV_do (by kernel_rfl) (fun K hK => ?_)
    -- 17: load
    go_simp
    refine hK.out _ _ ⟨z_2_0, z_2_1, z_2_2, z_3_0, z_3_1⟩ (fun _ => ?_)
    clear hK K
    (try simp only [Act.put, List.setIfInBounds_toArray, List.set_cons_zero, List.set_cons_succ])
    refine wpV_do (by kernel_rfl) (fun K hK => ?_)
    -- 18: load
    go_simp
    refine hK.out _ _ ⟨z_2_0, z_2_1, z_2_2, z_3_0, z_3_1⟩ (fun _ => ?_)
    clear hK K
    (try simp only [Act.put, List.setIfInBounds_toArray, List.set_cons_zero, List.set_cons_succ])
    refine wpV_done ?_
    go_wp2_with fail
    refine NoPanic.normal ?_
    clear z_2_0 z_2_1 z_2_2 z_3_0 z_3_1
    have t_HX0_0 := HX0.out.cell (i := 0) rfl
    have t_HX0_1 := HX0.out.cell (i := 1) rfl
    have t_HX0_2 := HX0.out.cell (i := 2) rfl
    have t_HX1_0 := HX1.out.cell (i := 0) rfl
    have t_HX1_1 := HX1.out.cell (i := 1) rfl
    try (go_wp2_with fail)
    refine bodyPost_ret (v := .tuple #[.agg #[.int .i64 P, .int .i64 Q, .int .i64 G], .agg #[.int .i64 h1, .slice a1 n1 c1], .int .i64 x1a, .int .i64 x1b, .int .i64 r4, .int .i64 (x1a + x5), .int .i64 x1c, .slice at1 nt1 ct1]) (by simp [results, Try.results18, go_sem, t_HX0_0, t_HX0_1, t_HX0_2, t_HX1_0, t_HX1_1]) rfl ⟨⟨_, _, _, _, _, _, _, _, _, _, _, _, _, rfl, HGR.out, ⟨⟨by omega, by omega⟩, (HL1.out.within HYW.out (by omega)).here, by have := HE1.out; omega⟩, ⟨by omega, by omega⟩, ⟨by omega, by omega⟩, ⟨by omega, by omega⟩, ⟨by omega, by omega⟩, ⟨by omega, by omega⟩, ⟨(HLt1.out.within HYW.out (by omega)).here, by have := HEt1.out; omega⟩⟩, HYB.out⟩
  | true =>
    have ew5 : IntKind.i64.wrap (r4 - 1) = r4 - 1 := IntWalk.i64_in _ (by omega)
    have z_0_0 := HX0.out.cell (i := 0) rfl
    have z_0_1 := HX0.out.cell (i := 1) rfl
    have z_0_2 := HX0.out.cell (i := 2) rfl
    have z_1_0 := HX1.out.cell (i := 0) rfl
    have z_1_1 := HX1.out.cell (i := 1) rfl
    have z_2_0 := HZ1.out.cell (i := 0) rfl
    have z_2_1 := HZ1.out.cell (i := 1) rfl
    have z_2_2 := HZ1.out.cell (i := 2) rfl
    have z_3_0 := HZ2.out.cell (i := 0) rfl
    have z_3_1 := HZ2.out.cell (i := 1) rfl
    try (go_wp2_with fail)
    clear z_0_0
    clear z_0_1
    clear z_0_2
    clear z_1_0
    clear z_1_1
    refine wp_region_noPanic ?_
    refine wp_region_V (fun w' => w'.cell? ⟨u1.heap.size, 0, none⟩ = some (.int .i64 P) ∧ w'.cell? ⟨u1.heap.size, 1, none⟩ = some (.int .i64 Q) ∧ w'.cell? ⟨u1.heap.size, 2, none⟩ = some (.int .i64 G) ∧ w'.cell? ⟨u1.heap.size + 1, 0, none⟩ = some (.int .i64 h1) ∧ w'.cell? ⟨u1.heap.size + 1, 1, none⟩ = some (.slice a1 n1 c1)) 23 19 (.rd 0 (.rd 1 (.rd 2 (.rd 3 (.rd 4 (.rd 5 (.rd 6 (.rd 7 (.rd 8 (.rd 9 (.rd 10 (.rd 11 (.alt 12 (.alt 13 (.alt 14 (.alt 15 (.alt 16 (.alt 17 (.alt 18 .done .nil) .nil) .nil) .nil) .nil) .nil) .nil))))))))))))) [19, 20] (by kernel_rfl) (by kernel_rfl) rfl (fun _ _ _ _ _ h => h) ⟨box_at z_2_0 (Below.refl _ _).drew, box_at z_2_1 (Below.refl _ _).drew, box_at z_2_2 (Below.refl _ _).drew, box_at z_3_0 (Below.refl _ _).drew, box_at z_3_1 (Below.refl _ _).drew⟩ ?_
    simp only [pickV, pickN, List.getElem?_cons_zero, List.getElem?_cons_succ]
    have ew6 : IntKind.i64.wrap (8 * x1c) = 8 * x1c := IntWalk.i64_in _ (by omega)
    have ew7 : IntKind.i64.wrap ((8 * x1c) - 2) = (8 * x1c) - 2 := IntWalk.i64_in _ (by omega)
    repeat (refine' wpV_read _ (by kernel_rfl) (fun w' hS' => ?_) ?_; rotate_left; · ((try dsimp only at hS'); go_simp; (try with_reducible rfl)); (try simp only [Act.put, List.setIfInBounds_toArray, List.set_cons_zero, List.set_cons_succ]))
    have hdr : Below u6.heap.size u6 u6.drew := (Below.refl _ _).drew
    have hszd := hdr.size
    replace HX0 := Lib.hid (HX0.out.below hdr)
    replace HX1 := Lib.hid (HX1.out.below hdr)
    replace HZ1 := Lib.hid (HZ1.out.below hdr)
    replace HZ2 := Lib.hid (HZ2.out.below hdr)
    replace HL1 := Lib.hid (HL1.out.below hdr)
    replace HW := Lib.hid (HW.out.trans (Within.of_below hdr))
    replace HC := Lib.hid (HC.out.keep hdr)
    clear hdr
    refine wpV_do (by kernel_rfl) (fun K hK => ?_)
    -- 12: call
    go_simp
    go_at_call 85
    refine (spec_anyCoinsI U g _ P Q G ((8 * x1c) - 2) _ HC.out (HW.out.belowOf HUC.out (Nat.le_of_eq HUS.out)) (by omega) HGR.out (by omega)).mono ?_
    rintro e ut1 ⟨⟨vt1, lt1, rfl, hst1, hlt1⟩, hc, hw⟩
    have HLt1 := Lib.hid hst1
    obtain ⟨at1, nt1, ct1, rfl⟩ := hst1.here.shape
    have hnt1 : nt1 ≤ 1001 := by have h1 := hst1.here.len; omega
    have HEt1 := Lib.hid hst1.here.len
    clear hst1
    have hszt1 := hw.size
    replace HX0 := Lib.hid (HX0.out.kept hw (.inl (by omega)))
    replace HX1 := Lib.hid (HX1.out.kept hw (.inl (by omega)))
    replace HZ1 := Lib.hid (HZ1.out.kept hw (.inr (by omega)))
    replace HZ2 := Lib.hid (HZ2.out.kept hw (.inr (by omega)))
    replace HL1 := Lib.hid (HL1.out.within hw (by omega))
    replace HW := Lib.hid (HW.out.trans hw)
    replace HC := Lib.hid hc
    clear hc hw
    clear z_2_0 z_2_1 z_2_2 z_3_0 z_3_1
    have z_2_0 := HZ1.out.cell (i := 0) rfl
    have z_2_1 := HZ1.out.cell (i := 1) rfl
    have z_2_2 := HZ1.out.cell (i := 2) rfl
    have z_3_0 := HZ2.out.cell (i := 0) rfl
    have z_3_1 := HZ2.out.cell (i := 1) rfl
    refine hK.out _ _ ⟨z_2_0, z_2_1, z_2_2, z_3_0, z_3_1⟩ (fun _ => ?_)
    clear hK K
    (try simp only [Act.put, List.setIfInBounds_toArray, List.set_cons_zero, List.set_cons_succ])
    refine wpV_do (by kernel_rfl) (fun K hK => ?_)
    -- 13: store
    have r0 := HX0.out.cell (i := 0) rfl
    have r1 := HX0.out.cell (i := 1) rfl
    have r2 := HX0.out.cell (i := 2) rfl
    have fr := fun j => HX0.out.frozen j
    obtain ⟨Y2, hY⟩ : ∃ Y, Y = ((ut1.setCell ⟨w.heap.size, 0, none⟩ (.int .i64 P)).setCell ⟨w.heap.size, 1, none⟩ (.int .i64 Q)).setCell ⟨w.heap.size, 2, none⟩ (.int .i64 G) := ⟨_, rfl⟩
    have hYl : Within (w.heap.size) (w.heap.size + 1) ut1 Y2 := by rw [hY]; exact ((((Within.refl (w.heap.size) (w.heap.size + 1) ut1).setCell (b := w.heap.size) (by omega) (by omega) 0 (.int .i64 P)).setCell (b := w.heap.size) (by omega) (by omega) 1 (.int .i64 Q)).setCell (b := w.heap.size) (by omega) (by omega) 2 (.int .i64 G))
    have HYW : Hid (Within w.heap.size (w.heap.size + 2) ut1 Y2) := hYl.mono (by omega) (by omega)
    have HYB : Hid (Below w.heap.size w Y2) := hYl.belowU (HW.out.belowOf HBW.out (by omega)) (by omega)
    have HCS : Hid (∀ w', Within w.heap.size (w.heap.size + 2) ut1 w' → w'.cell? ⟨u1.heap.size, 0, none⟩ = some (.int .i64 P) ∧ w'.cell? ⟨u1.heap.size, 1, none⟩ = some (.int .i64 Q) ∧ w'.cell? ⟨u1.heap.size, 2, none⟩ = some (.int .i64 G) ∧ w'.cell? ⟨u1.heap.size + 1, 0, none⟩ = some (.int .i64 h1) ∧ w'.cell? ⟨u1.heap.size + 1, 1, none⟩ = some (.slice a1 n1 c1)) := fun w' h => ⟨within_at h z_2_0 (by omega), within_at h z_2_1 (by omega), within_at h z_2_2 (by omega), within_at h z_3_0 (by omega), within_at h z_3_1 (by omega)⟩
    go_simp
    refine hK.out _ _ ?_ (fun _ => ?_)
    · rw [← hY]; exact HCS.out _ HYW.out
    rw [← hY]
    clear hK K fr r0 r1 r2
    replace HX0 : Hid (BoxN Y2 w.heap.size 25 [.int .i64 P, .int .i64 Q, .int .i64 G]) := by unfold Hid; rw [hY]; exact (((HX0.out.set 0 (.int .i64 P)).set 1 (.int .i64 Q)).set 2 (.int .i64 G))
    replace HX1 := Lib.hid (HX1.out.kept hYl (by omega))
    clear hY hYl
    (try simp only [Act.put, List.setIfInBounds_toArray, List.set_cons_zero, List.set_cons_succ])
    clear z_2_0 z_2_1 z_2_2 z_3_0 z_3_1
    obtain ⟨z_2_0, z_2_1, z_2_2, z_3_0, z_3_1⟩ := HCS.out _ HYW.out
    refine wpV_do (by kernel_rfl) (fun K hK => ?_)
    -- 14: store
    have r0 := HX1.out.cell (i := 0) rfl
    have r1 := HX1.out.cell (i := 1) rfl
    have fr := fun j => HX1.out.frozen j
    obtain ⟨Y3, hY⟩ : ∃ Y, Y = (Y2.setCell ⟨w.heap.size + 1, 0, none⟩ (.int .i64 h1)).setCell ⟨w.heap.size + 1, 1, none⟩ (.slice a1 n1 c1) := ⟨_, rfl⟩
    have hYl : Within (w.heap.size + 1) (w.heap.size + 1 + 1) Y2 Y3 := by rw [hY]; exact (((Within.refl (w.heap.size + 1) (w.heap.size + 1 + 1) Y2).setCell (b := w.heap.size + 1) (by omega) (by omega) 0 (.int .i64 h1)).setCell (b := w.heap.size + 1) (by omega) (by omega) 1 (.slice a1 n1 c1))
    replace HYW := Lib.hid (HYW.out.trans (hYl.mono (by omega) (by omega)))
    replace HYB := Lib.hid (hYl.belowU HYB.out (by omega))
    go_simp
    refine hK.out _ _ ?_ (fun _ => ?_)
    · rw [← hY]; exact HCS.out _ HYW.out
    rw [← hY]
    clear hK K fr r0 r1
    replace HX1 : Hid (BoxN Y3 (w.heap.size + 1) 28 [.int .i64 h1, .slice a1 n1 c1]) := by unfold Hid; rw [hY]; exact ((HX1.out.set 0 (.int .i64 h1)).set 1 (.slice a1 n1 c1))
    replace HX0 := Lib.hid (HX0.out.kept hYl (by omega))
    clear hY hYl
    (try simp only [Act.put, List.setIfInBounds_toArray, List.set_cons_zero, List.set_cons_succ])
    clear z_2_0 z_2_1 z_2_2 z_3_0 z_3_1
    obtain ⟨z_2_0, z_2_1, z_2_2, z_3_0, z_3_1⟩ := HCS.out _ HYW.out
    refine wpV_do (by kernel_rfl) (fun K hK => ?_)
    -- 15: load
    go_simp
    refine hK.out _ _ ⟨z_2_0, z_2_1, z_2_2, z_3_0, z_3_1⟩ (fun _ => ?_)
    clear hK K
    (try simp only [Act.put, List.setIfInBounds_toArray, List.set_cons_zero, List.set_cons_succ])
    refine wpV_do (by kernel_rfl) (fun K hK => ?_)
    -- 16: load
    go_simp
    refine hK.out _ _ ⟨z_2_0, z_2_1, z_2_2, z_3_0, z_3_1⟩ (fun _ => ?_)
    clear hK K
    (try simp only [Act.put, List.setIfInBounds_toArray, List.set_cons_zero, List.set_cons_succ])
    refine wpV_do (by kernel_rfl) (fun K hK => ?_)
    -- 17: load
    go_simp
    refine hK.out _ _ ⟨z_2_0, z_2_1, z_2_2, z_3_0, z_3_1⟩ (fun _ => ?_)
    clear hK K
    (try simp only [Act.put, List.setIfInBounds_toArray, List.set_cons_zero, List.set_cons_succ])
    refine wpV_do (by kernel_rfl) (fun K hK => ?_)
    -- 18: load
    go_simp
    refine hK.out _ _ ⟨z_2_0, z_2_1, z_2_2, z_3_0, z_3_1⟩ (fun _ => ?_)
    clear hK K
    (try simp only [Act.put, List.setIfInBounds_toArray, List.set_cons_zero, List.set_cons_succ])
    refine wpV_done ?_
    go_wp2_with fail
    refine NoPanic.normal ?_
    clear z_2_0 z_2_1 z_2_2 z_3_0 z_3_1
    have t_HX0_0 := HX0.out.cell (i := 0) rfl
    have t_HX0_1 := HX0.out.cell (i := 1) rfl
    have t_HX0_2 := HX0.out.cell (i := 2) rfl
    have t_HX1_0 := HX1.out.cell (i := 0) rfl
    have t_HX1_1 := HX1.out.cell (i := 1) rfl
    try (go_wp2_with fail)
    refine bodyPost_ret (v := .tuple #[.agg #[.int .i64 P, .int .i64 Q, .int .i64 G], .agg #[.int .i64 h1, .slice a1 n1 c1], .int .i64 x1a, .int .i64 x1b, .int .i64 r4, .int .i64 (r4 - 1), .int .i64 x1c, .slice at1 nt1 ct1]) (by simp [results, Try.results18, go_sem, t_HX0_0, t_HX0_1, t_HX0_2, t_HX1_0, t_HX1_1]) rfl ⟨⟨_, _, _, _, _, _, _, _, _, _, _, _, _, rfl, HGR.out, ⟨⟨by omega, by omega⟩, (HL1.out.within HYW.out (by omega)).here, by have := HE1.out; omega⟩, ⟨by omega, by omega⟩, ⟨by omega, by omega⟩, ⟨by omega, by omega⟩, ⟨by omega, by omega⟩, ⟨by omega, by omega⟩, ⟨(HLt1.out.within HYW.out (by omega)).here, by have := HEt1.out; omega⟩⟩, HYB.out⟩
end Go.Proofs.Yteemlmmdngkghaa

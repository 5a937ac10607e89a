/- Draws: challenges to be answered (printed by gen_drsim.py). -/
import Derived.Test.YtacpnphfopmofaaDrOneSM
import Derived.Test.YtacpnphfopmofaaSim1SM
import Derived.Test.YtacpnphfopmofaaSim2SM
namespace Go.Proofs.Ytacpnphfopmofaa
open Go.RowKit
set_option linter.unusedSimpArgs false
set_option linter.unusedVariables false
set_option maxRecDepth 100000 in
set_option maxHeartbeats 4000000 in
theorem spec_DrawAnswerableChallenges (v : Value) (w : World) (h : Bytes w v) :
    Calls Try.prog 10 #[v] w fun e w' => (∃ (P : Int) (Q : Int) (G : Int) (xr11 : Int) (xr12 : Int) (xr13 : Int) (xr14 : Int) (xr2 : Int) (xr3 : Int), e = .returned (.tuple #[.agg #[.int .i64 P, .int .i64 Q, .int .i64 G], .agg #[.int .i64 xr11, .int .i64 xr12, .int .i64 xr13, .int .i64 xr14], .int .i64 xr2, .int .i64 xr3]) ∧ GrB ⟨P, Q, G⟩ ∧ ((-10 ≤ xr11 ∧ xr11 ≤ 2000000010) ∧ (-10 ≤ xr12 ∧ xr12 ≤ 2000000010)) ∧ ((-10 ≤ xr13 ∧ xr13 ≤ 2000000010) ∧ (-10 ≤ xr14 ∧ xr14 ≤ 2000000010)) ∧ (-10 ≤ xr2 ∧ xr2 ≤ 2000000010) ∧ (-10 ≤ xr3 ∧ xr3 ≤ 2000000010)) ∧ Below w.heap.size w w' := by
  obtain ⟨a, m, c, rfl, hk1, hk2, hv⟩ := h
  have HY : Hid (Bytes w (.slice a m c)) := ⟨a, m, c, rfl, hk1, hk2, hv⟩
  clear hv
  unfold maxLen at hk2
  obtain ⟨U, hU⟩ : ∃ U, U = (w.alloc (.cells #[.int .i64 0, .int .i64 0, .int .i64 0] 24)).alloc (.cells #[.int .i64 0, .int .i64 0, .int .i64 0, .int .i64 0] 31) := ⟨_, rfl⟩
  have hbU : Below w.heap.size w U := by rw [hU]; (repeat (first | exact Below.refl _ _ | assumption | refine Below.drew ?_ | refine Below.alloc ?_ (by first | (simp; done) | (simp; omega)) _ | refine Below.setCell ?_ (by first | (simp; done) | (simp; omega)) _))
  have HX0 : Hid (BoxN U w.heap.size 24 [.int .i64 0, .int .i64 0, .int .i64 0]) := by unfold Hid; rw [hU]; have h := ((BoxN.new w [.int .i64 0, .int .i64 0, .int .i64 0] 24).alloc (.cells #[.int .i64 0, .int .i64 0, .int .i64 0, .int .i64 0] 31)); simpa using h
  have HX1 : Hid (BoxN U (w.heap.size + 1) 31 [.int .i64 0, .int .i64 0, .int .i64 0, .int .i64 0]) := by unfold Hid; rw [hU]; have h := (BoxN.new (w.alloc (.cells #[.int .i64 0, .int .i64 0, .int .i64 0] 24)) [.int .i64 0, .int .i64 0, .int .i64 0, .int .i64 0] 31); simpa using h
  have hsU : U.heap.size = w.heap.size + 1 + 1 := by rw [hU]; simp
  obtain ⟨W, hW⟩ : ∃ W, W = U.alloc (.cells #[.slice a m c, .int .i64 0, .int .u64 0] 85) := ⟨_, rfl⟩
  have HC : Hid (Cur U W U.heap.size 0) := by unfold Hid; rw [hW]; exact Cur.new U (HY.out.below hbU)
  have hbW : Below U.heap.size U W := by rw [hW]; exact (Below.refl _ _).alloc (Nat.le_refl _) _
  have HBW := Lib.hid (Below.next hbU hbW)
  have HUB := Lib.hid hbW
  replace HX0 := Lib.hid (HX0.out.below hbW)
  replace HX1 := Lib.hid (HX1.out.below hbW)
  obtain ⟨g, hg⟩ : ∃ g, g = U.heap.size := ⟨_, rfl⟩
  have HSU : Hid (w.heap.size + 1 + 1 = g) := by unfold Hid; rw [hg, hsU]
  have HWS : Hid (W.heap.size = g + 1) := by unfold Hid; rw [hW, hg]; simp
  go_enter Try.func10, Try.ntmps10
  go_wp2_with fail
  rw [← hU, ← hW]
  rw [HSU.out]
  rw [← hg] at HC HUB
  have HUS : Hid (U.heap.size = g) := hg.symm
  have hwg : w.heap.size + 2 = g := HSU.out
  have hsW := HWS.out
  have HW := Lib.hid (Within.refl g (g + 1) W)
  have HUC : Hid (Below U.heap.size U W) := by unfold Hid; rw [HUS.out]; exact HUB.out
  clear hU hW hbU hbW hsU hg
  have z_0_0 := HX0.out.cell (i := 0) rfl
  have z_0_1 := HX0.out.cell (i := 1) rfl
  have z_0_2 := HX0.out.cell (i := 2) rfl
  have z_1_0 := HX1.out.cell (i := 0) rfl
  have z_1_1 := HX1.out.cell (i := 1) rfl
  have z_1_2 := HX1.out.cell (i := 2) rfl
  have z_1_3 := HX1.out.cell (i := 3) rfl
  try (go_wp2_with fail)
  clear z_0_0 z_0_1 z_0_2 z_1_0 z_1_1 z_1_2 z_1_3
  refine (spec_counted U g _ _ HC.out (HW.out.belowOf HUC.out (Nat.le_of_eq HUS.out)) (by omega)).mono ?_
  rintro e u1 ⟨⟨P, Q, G, rfl, P1, Q1, G1⟩, hc, hw⟩
  have HGR : Hid (GrB ⟨P, Q, G⟩) := ⟨P1, Q1, G1⟩
  clear P1 Q1 G1
  have hsz1 := hw.size
  replace HX0 := Lib.hid (HX0.out.kept hw (.inl (by omega)))
  replace HX1 := Lib.hid (HX1.out.kept hw (.inl (by omega)))
  replace HW := Lib.hid (HW.out.trans hw)
  replace HC := Lib.hid hc
  clear hc hw
  have z_0_0 := HX0.out.cell (i := 0) rfl
  have z_0_1 := HX0.out.cell (i := 1) rfl
  have z_0_2 := HX0.out.cell (i := 2) rfl
  have z_1_0 := HX1.out.cell (i := 0) rfl
  have z_1_1 := HX1.out.cell (i := 1) rfl
  have z_1_2 := HX1.out.cell (i := 2) rfl
  have z_1_3 := HX1.out.cell (i := 3) rfl
  have lt_HX0 := HX0.out.lt
  have lt_HX1 := HX1.out.lt
  obtain ⟨V2, hV⟩ : ∃ V, V = u1.alloc (.cells #[.int .i64 P, .int .i64 Q, .int .i64 G] 24) := ⟨_, rfl⟩
  have hbV : Below u1.heap.size u1 V2 := by rw [hV]; (repeat (first | exact Below.refl _ _ | assumption | refine Below.drew ?_ | refine Below.alloc ?_ (by first | (simp; done) | (simp; omega)) _ | refine Below.setCell ?_ (by first | (simp; done) | (simp; omega)) _))
  have HZ1 : Hid (BoxN V2 u1.heap.size 24 [.int .i64 P, .int .i64 Q, .int .i64 G]) := by unfold Hid; rw [hV]; have h := (BoxN.new u1 [.int .i64 P, .int .i64 Q, .int .i64 G] 24); simpa using h
  have hgc : g < u1.heap.size := HC.out.lt
  go_wp2_with fail
  rw [← hV]
  have hsV2 : V2.heap.size = u1.heap.size + 1 := by rw [hV]; simp
  clear hV hgc
  replace HX0 := Lib.hid (HX0.out.below hbV)
  replace HX1 := Lib.hid (HX1.out.below hbV)
  replace HW := Lib.hid (HW.out.trans (Within.of_below hbV))
  replace HC := Lib.hid (HC.out.keep hbV)
  clear hbV
  clear z_0_0 z_0_1 z_0_2 z_1_0 z_1_1 z_1_2 z_1_3
  clear lt_HX0
  clear lt_HX1
  refine (spec_equal U g _ P Q G _ HC.out (HW.out.belowOf HUC.out (Nat.le_of_eq HUS.out)) (by omega) HGR.out).mono ?_
  rintro e u3 ⟨⟨x31, x32, x33, x34, x3x, rfl, ⟨⟨x31l, x31u⟩, ⟨x32l, x32u⟩⟩, ⟨⟨x33l, x33u⟩, ⟨x34l, x34u⟩⟩, ⟨x3xl, x3xu⟩⟩, hc, hw⟩
  have hsz3 := hw.size
  replace HX0 := Lib.hid (HX0.out.kept hw (.inl (by omega)))
  replace HX1 := Lib.hid (HX1.out.kept hw (.inl (by omega)))
  replace HZ1 := Lib.hid (HZ1.out.kept hw (.inr (by omega)))
  replace HW := Lib.hid (HW.out.trans hw)
  replace HC := Lib.hid hc
  clear hc hw
  have z_0_0 := HX0.out.cell (i := 0) rfl
  have z_0_1 := HX0.out.cell (i := 1) rfl
  have z_0_2 := HX0.out.cell (i := 2) rfl
  have z_1_0 := HX1.out.cell (i := 0) rfl
  have z_1_1 := HX1.out.cell (i := 1) rfl
  have z_1_2 := HX1.out.cell (i := 2) rfl
  have z_1_3 := HX1.out.cell (i := 3) rfl
  have z_2_0 := HZ1.out.cell (i := 0) rfl
  have z_2_1 := HZ1.out.cell (i := 1) rfl
  have z_2_2 := HZ1.out.cell (i := 2) rfl
  have lt_HX0 := HX0.out.lt
  have lt_HX1 := HX1.out.lt
  have lt_HZ1 := HZ1.out.lt
  obtain ⟨V4, hV⟩ : ∃ V, V = u3.alloc (.cells #[.int .i64 x31, .int .i64 x32, .int .i64 x33, .int .i64 x34] 31) := ⟨_, rfl⟩
  have hbV : Below u3.heap.size u3 V4 := by rw [hV]; (repeat (first | exact Below.refl _ _ | assumption | refine Below.drew ?_ | refine Below.alloc ?_ (by first | (simp; done) | (simp; omega)) _ | refine Below.setCell ?_ (by first | (simp; done) | (simp; omega)) _))
  have HZ2 : Hid (BoxN V4 u3.heap.size 31 [.int .i64 x31, .int .i64 x32, .int .i64 x33, .int .i64 x34]) := by unfold Hid; rw [hV]; have h := (BoxN.new u3 [.int .i64 x31, .int .i64 x32, .int .i64 x33, .int .i64 x34] 31); simpa using h
  have hgc : g < u3.heap.size := HC.out.lt
  go_wp2_with fail
  rw [← hV]
  have hsV4 : V4.heap.size = u3.heap.size + 1 := by rw [hV]; simp
  clear hV hgc
  replace HX0 := Lib.hid (HX0.out.below hbV)
  replace HX1 := Lib.hid (HX1.out.below hbV)
  replace HZ1 := Lib.hid (HZ1.out.below hbV)
  replace HW := Lib.hid (HW.out.trans (Within.of_below hbV))
  replace HC := Lib.hid (HC.out.keep hbV)
  clear hbV
  clear z_0_0 z_0_1 z_0_2 z_1_0 z_1_1 z_1_2 z_1_3 z_2_0 z_2_1 z_2_2
  clear lt_HX0
  clear lt_HX1
  clear lt_HZ1
  refine (spec_one U g _ 2 _ HC.out (HW.out.belowOf HUC.out (Nat.le_of_eq HUS.out)) (by omega) ).mono ?_
  rintro e u5 ⟨⟨b5, rfl⟩, hc, hw⟩
  have hsz5 := hw.size
  replace HX0 := Lib.hid (HX0.out.kept hw (.inl (by omega)))
  replace HX1 := Lib.hid (HX1.out.kept hw (.inl (by omega)))
  replace HZ1 := Lib.hid (HZ1.out.kept hw (.inr (by omega)))
  replace HZ2 := Lib.hid (HZ2.out.kept hw (.inr (by omega)))
  replace HW := Lib.hid (HW.out.trans hw)
  replace HC := Lib.hid hc
  clear hc hw
  cases b5 with
  | false =>
    have z_0_0 := HX0.out.cell (i := 0) rfl
    have z_0_1 := HX0.out.cell (i := 1) rfl
    have z_0_2 := HX0.out.cell (i := 2) rfl
    have z_1_0 := HX1.out.cell (i := 0) rfl
    have z_1_1 := HX1.out.cell (i := 1) rfl
    have z_1_2 := HX1.out.cell (i := 2) rfl
    have z_1_3 := HX1.out.cell (i := 3) rfl
    have z_2_0 := HZ1.out.cell (i := 0) rfl
    have z_2_1 := HZ1.out.cell (i := 1) rfl
    have z_2_2 := HZ1.out.cell (i := 2) rfl
    have z_3_0 := HZ2.out.cell (i := 0) rfl
    have z_3_1 := HZ2.out.cell (i := 1) rfl
    have z_3_2 := HZ2.out.cell (i := 2) rfl
    have z_3_3 := HZ2.out.cell (i := 3) rfl
    try (go_wp2_with fail)
    clear z_0_0 z_0_1 z_0_2 z_1_0 z_1_1 z_1_2 z_1_3 z_2_0 z_2_1 z_2_2 z_3_0 z_3_1 z_3_2 z_3_3
    refine (spec_one U g _ 2 _ HC.out (HW.out.belowOf HUC.out (Nat.le_of_eq HUS.out)) (by omega) ).mono ?_
    rintro e u6 ⟨⟨b6, rfl⟩, hc, hw⟩
    have hsz6 := hw.size
    replace HX0 := Lib.hid (HX0.out.kept hw (.inl (by omega)))
    replace HX1 := Lib.hid (HX1.out.kept hw (.inl (by omega)))
    replace HZ1 := Lib.hid (HZ1.out.kept hw (.inr (by omega)))
    replace HZ2 := Lib.hid (HZ2.out.kept hw (.inr (by omega)))
    replace HW := Lib.hid (HW.out.trans hw)
    replace HC := Lib.hid hc
    clear hc hw
    cases b6 with
    | false =>
      have z_0_0 := HX0.out.cell (i := 0) rfl
      have z_0_1 := HX0.out.cell (i := 1) rfl
      have z_0_2 := HX0.out.cell (i := 2) rfl
      have z_1_0 := HX1.out.cell (i := 0) rfl
      have z_1_1 := HX1.out.cell (i := 1) rfl
      have z_1_2 := HX1.out.cell (i := 2) rfl
      have z_1_3 := HX1.out.cell (i := 3) rfl
      have z_2_0 := HZ1.out.cell (i := 0) rfl
      have z_2_1 := HZ1.out.cell (i := 1) rfl
      have z_2_2 := HZ1.out.cell (i := 2) rfl
      have z_3_0 := HZ2.out.cell (i := 0) rfl
      have z_3_1 := HZ2.out.cell (i := 1) rfl
      have z_3_2 := HZ2.out.cell (i := 2) rfl
      have z_3_3 := HZ2.out.cell (i := 3) rfl
      try (go_wp2_with fail)
      clear z_0_0
      clear z_0_1
      clear z_0_2
      clear z_1_0
      clear z_1_1
      clear z_1_2
      clear z_1_3
      refine wp_region_noPanic ?_
      refine wp_region_V (fun w' => w'.cell? ⟨u1.heap.size, 0, none⟩ = some (.int .i64 P) ∧ w'.cell? ⟨u1.heap.size, 1, none⟩ = some (.int .i64 Q) ∧ w'.cell? ⟨u1.heap.size, 2, none⟩ = some (.int .i64 G) ∧ w'.cell? ⟨u3.heap.size, 0, none⟩ = some (.int .i64 x31) ∧ w'.cell? ⟨u3.heap.size, 1, none⟩ = some (.int .i64 x32) ∧ w'.cell? ⟨u3.heap.size, 2, none⟩ = some (.int .i64 x33) ∧ w'.cell? ⟨u3.heap.size, 3, none⟩ = some (.int .i64 x34)) 14 10 (.rd 0 (.rd 1 (.rd 2 (.rd 3 (.rd 5 (.rd 6 (.alt 4 (.alt 7 (.alt 8 (.alt 9 .done .nil) .nil) .nil) .nil))))))) [10, 11] (by kernel_rfl) (by kernel_rfl) rfl (fun _ _ _ _ _ h => h) ⟨box_at z_2_0 (Below.refl _ _).drew, box_at z_2_1 (Below.refl _ _).drew, box_at z_2_2 (Below.refl _ _).drew, box_at z_3_0 (Below.refl _ _).drew, box_at z_3_1 (Below.refl _ _).drew, box_at z_3_2 (Below.refl _ _).drew, box_at z_3_3 (Below.refl _ _).drew⟩ ?_
      simp only [pickV, pickN, List.getElem?_cons_zero, List.getElem?_cons_succ]
      repeat (refine' wpV_read _ (by kernel_rfl) (fun w' hS' => ?_) ?_; rotate_left; (focus ((try dsimp only at hS'); go_simp; (try with_reducible rfl))); (try simp only [Act.put, List.setIfInBounds_toArray, List.set_cons_zero, List.set_cons_succ]))
      have hdr : Below u6.heap.size u6 u6.drew := (Below.refl _ _).drew
      have hszd := hdr.size
      replace HX0 := Lib.hid (HX0.out.below hdr)
      replace HX1 := Lib.hid (HX1.out.below hdr)
      replace HZ1 := Lib.hid (HZ1.out.below hdr)
      replace HZ2 := Lib.hid (HZ2.out.below hdr)
      replace HW := Lib.hid (HW.out.trans (Within.of_below hdr))
      replace HC := Lib.hid (HC.out.keep hdr)
      clear hdr
      refine wpV_do (by kernel_rfl) (fun K hK => ?_)
      -- 4: call
      go_simp
      go_at_call 44
      refine (spec_anyElement U g _ P Q G _ HC.out (HW.out.belowOf HUC.out (Nat.le_of_eq HUS.out)) (by omega) HGR.out).mono ?_
      rintro e ut1 ⟨⟨xt1, rfl, xt1l, xt1u⟩, hc, hw⟩
      have hszt1 := hw.size
      replace HX0 := Lib.hid (HX0.out.kept hw (.inl (by omega)))
      replace HX1 := Lib.hid (HX1.out.kept hw (.inl (by omega)))
      replace HZ1 := Lib.hid (HZ1.out.kept hw (.inr (by omega)))
      replace HZ2 := Lib.hid (HZ2.out.kept hw (.inr (by omega)))
      replace HW := Lib.hid (HW.out.trans hw)
      replace HC := Lib.hid hc
      clear hc hw
      clear z_2_0 z_2_1 z_2_2 z_3_0 z_3_1 z_3_2 z_3_3
      have z_2_0 := HZ1.out.cell (i := 0) rfl
      have z_2_1 := HZ1.out.cell (i := 1) rfl
      have z_2_2 := HZ1.out.cell (i := 2) rfl
      have z_3_0 := HZ2.out.cell (i := 0) rfl
      have z_3_1 := HZ2.out.cell (i := 1) rfl
      have z_3_2 := HZ2.out.cell (i := 2) rfl
      have z_3_3 := HZ2.out.cell (i := 3) rfl
      refine hK.out _ _ ⟨z_2_0, z_2_1, z_2_2, z_3_0, z_3_1, z_3_2, z_3_3⟩ (fun _ => ?_)
      clear hK K
      (try simp only [Act.put, List.setIfInBounds_toArray, List.set_cons_zero, List.set_cons_succ])
      refine wpV_do (by kernel_rfl) (fun K hK => ?_)
      -- 7: call
      go_simp
      go_at_call 44
      refine (spec_anyElement U g _ P Q G _ HC.out (HW.out.belowOf HUC.out (Nat.le_of_eq HUS.out)) (by omega) HGR.out).mono ?_
      rintro e ut2 ⟨⟨xt2, rfl, xt2l, xt2u⟩, hc, hw⟩
      have hszt2 := hw.size
      replace HX0 := Lib.hid (HX0.out.kept hw (.inl (by omega)))
      replace HX1 := Lib.hid (HX1.out.kept hw (.inl (by omega)))
      replace HZ1 := Lib.hid (HZ1.out.kept hw (.inr (by omega)))
      replace HZ2 := Lib.hid (HZ2.out.kept hw (.inr (by omega)))
      replace HW := Lib.hid (HW.out.trans hw)
      replace HC := Lib.hid hc
      clear hc hw
      clear z_2_0 z_2_1 z_2_2 z_3_0 z_3_1 z_3_2 z_3_3
      have z_2_0 := HZ1.out.cell (i := 0) rfl
      have z_2_1 := HZ1.out.cell (i := 1) rfl
      have z_2_2 := HZ1.out.cell (i := 2) rfl
      have z_3_0 := HZ2.out.cell (i := 0) rfl
      have z_3_1 := HZ2.out.cell (i := 1) rfl
      have z_3_2 := HZ2.out.cell (i := 2) rfl
      have z_3_3 := HZ2.out.cell (i := 3) rfl
      refine hK.out _ _ ⟨z_2_0, z_2_1, z_2_2, z_3_0, z_3_1, z_3_2, z_3_3⟩ (fun _ => ?_)
      clear hK K
      (try simp only [Act.put, List.setIfInBounds_toArray, List.set_cons_zero, List.set_cons_succ])
      refine wpV_do (by kernel_rfl) (fun K hK => ?_)
      -- 8: store
      have r0 := HX0.out.cell (i := 0) rfl
      have r1 := HX0.out.cell (i := 1) rfl
      have r2 := HX0.out.cell (i := 2) rfl
      have fr := fun j => HX0.out.frozen j
      obtain ⟨Y3, hY⟩ : ∃ Y, Y = ((ut2.setCell ⟨w.heap.size, 0, none⟩ (.int .i64 P)).setCell ⟨w.heap.size, 1, none⟩ (.int .i64 Q)).setCell ⟨w.heap.size, 2, none⟩ (.int .i64 G) := ⟨_, rfl⟩
      have hYl : Within (w.heap.size) (w.heap.size + 1) ut2 Y3 := by rw [hY]; exact ((((Within.refl (w.heap.size) (w.heap.size + 1) ut2).setCell (b := w.heap.size) (by omega) (by omega) 0 (.int .i64 P)).setCell (b := w.heap.size) (by omega) (by omega) 1 (.int .i64 Q)).setCell (b := w.heap.size) (by omega) (by omega) 2 (.int .i64 G))
      have HYW : Hid (Within w.heap.size (w.heap.size + 2) ut2 Y3) := hYl.mono (by omega) (by omega)
      have HYB : Hid (Below w.heap.size w Y3) := hYl.belowU (HW.out.belowOf HBW.out (by omega)) (by omega)
      have HCS : Hid (∀ w', Within w.heap.size (w.heap.size + 2) ut2 w' → w'.cell? ⟨u1.heap.size, 0, none⟩ = some (.int .i64 P) ∧ w'.cell? ⟨u1.heap.size, 1, none⟩ = some (.int .i64 Q) ∧ w'.cell? ⟨u1.heap.size, 2, none⟩ = some (.int .i64 G) ∧ w'.cell? ⟨u3.heap.size, 0, none⟩ = some (.int .i64 x31) ∧ w'.cell? ⟨u3.heap.size, 1, none⟩ = some (.int .i64 x32) ∧ w'.cell? ⟨u3.heap.size, 2, none⟩ = some (.int .i64 x33) ∧ w'.cell? ⟨u3.heap.size, 3, none⟩ = some (.int .i64 x34)) := fun w' h => ⟨within_at h z_2_0 (by omega), within_at h z_2_1 (by omega), within_at h z_2_2 (by omega), within_at h z_3_0 (by omega), within_at h z_3_1 (by omega), within_at h z_3_2 (by omega), within_at h z_3_3 (by omega)⟩
      go_simp
      refine hK.out _ _ ?_ (fun _ => ?_)
      · rw [← hY]; exact HCS.out _ HYW.out
      rw [← hY]
      clear hK K fr r0 r1 r2
      replace HX0 : Hid (BoxN Y3 w.heap.size 24 [.int .i64 P, .int .i64 Q, .int .i64 G]) := by unfold Hid; rw [hY]; exact (((HX0.out.set 0 (.int .i64 P)).set 1 (.int .i64 Q)).set 2 (.int .i64 G))
      replace HX1 := Lib.hid (HX1.out.kept hYl (by omega))
      clear hY hYl
      (try simp only [Act.put, List.setIfInBounds_toArray, List.set_cons_zero, List.set_cons_succ])
      clear z_2_0 z_2_1 z_2_2 z_3_0 z_3_1 z_3_2 z_3_3
      obtain ⟨z_2_0, z_2_1, z_2_2, z_3_0, z_3_1, z_3_2, z_3_3⟩ := HCS.out _ HYW.out
      refine wpV_do (by kernel_rfl) (fun K hK => ?_)
      -- 9: store
      have r0 := HX1.out.cell (i := 0) rfl
      have r1 := HX1.out.cell (i := 1) rfl
      have r2 := HX1.out.cell (i := 2) rfl
      have r3 := HX1.out.cell (i := 3) rfl
      have fr := fun j => HX1.out.frozen j
      obtain ⟨Y4, hY⟩ : ∃ Y, Y = (((Y3.setCell ⟨w.heap.size + 1, 0, none⟩ (.int .i64 x31)).setCell ⟨w.heap.size + 1, 1, none⟩ (.int .i64 x32)).setCell ⟨w.heap.size + 1, 2, none⟩ (.int .i64 x33)).setCell ⟨w.heap.size + 1, 3, none⟩ (.int .i64 x34) := ⟨_, rfl⟩
      have hYl : Within (w.heap.size + 1) (w.heap.size + 1 + 1) Y3 Y4 := by rw [hY]; exact (((((Within.refl (w.heap.size + 1) (w.heap.size + 1 + 1) Y3).setCell (b := w.heap.size + 1) (by omega) (by omega) 0 (.int .i64 x31)).setCell (b := w.heap.size + 1) (by omega) (by omega) 1 (.int .i64 x32)).setCell (b := w.heap.size + 1) (by omega) (by omega) 2 (.int .i64 x33)).setCell (b := w.heap.size + 1) (by omega) (by omega) 3 (.int .i64 x34))
      replace HYW := Lib.hid (HYW.out.trans (hYl.mono (by omega) (by omega)))
      replace HYB := Lib.hid (hYl.belowU HYB.out (by omega))
      go_simp
      refine hK.out _ _ ?_ (fun _ => ?_)
      · rw [← hY]; exact HCS.out _ HYW.out
      rw [← hY]
      clear hK K fr r0 r1 r2 r3
      replace HX1 : Hid (BoxN Y4 (w.heap.size + 1) 31 [.int .i64 x31, .int .i64 x32, .int .i64 x33, .int .i64 x34]) := by unfold Hid; rw [hY]; exact ((((HX1.out.set 0 (.int .i64 x31)).set 1 (.int .i64 x32)).set 2 (.int .i64 x33)).set 3 (.int .i64 x34))
      replace HX0 := Lib.hid (HX0.out.kept hYl (by omega))
      clear hY hYl
      (try simp only [Act.put, List.setIfInBounds_toArray, List.set_cons_zero, List.set_cons_succ])
      clear z_2_0 z_2_1 z_2_2 z_3_0 z_3_1 z_3_2 z_3_3
      obtain ⟨z_2_0, z_2_1, z_2_2, z_3_0, z_3_1, z_3_2, z_3_3⟩ := HCS.out _ HYW.out
      refine wpV_done ?_
      go_wp2_with fail
      refine NoPanic.normal ?_
      clear z_2_0 z_2_1 z_2_2 z_3_0 z_3_1 z_3_2 z_3_3
      have t_HX0_0 := HX0.out.cell (i := 0) rfl
      have t_HX0_1 := HX0.out.cell (i := 1) rfl
      have t_HX0_2 := HX0.out.cell (i := 2) rfl
      have t_HX1_0 := HX1.out.cell (i := 0) rfl
      have t_HX1_1 := HX1.out.cell (i := 1) rfl
      have t_HX1_2 := HX1.out.cell (i := 2) rfl
      have t_HX1_3 := HX1.out.cell (i := 3) rfl
      try (go_wp2_with fail)
      refine bodyPost_ret (v := .tuple #[.agg #[.int .i64 P, .int .i64 Q, .int .i64 G], .agg #[.int .i64 x31, .int .i64 x32, .int .i64 x33, .int .i64 x34], .int .i64 xt1, .int .i64 xt2]) (by simp [results, Try.results10, go_sem, t_HX0_0, t_HX0_1, t_HX0_2, t_HX1_0, t_HX1_1, t_HX1_2, t_HX1_3]) rfl ⟨⟨_, _, _, _, _, _, _, _, _, rfl, HGR.out, ⟨⟨by omega, by omega⟩, ⟨by omega, by omega⟩⟩, ⟨⟨by omega, by omega⟩, ⟨by omega, by omega⟩⟩, ⟨by omega, by omega⟩, ⟨by omega, by omega⟩⟩, HYB.out⟩
    | true =>
      have z_0_0 := HX0.out.cell (i := 0) rfl
      have z_0_1 := HX0.out.cell (i := 1) rfl
      have z_0_2 := HX0.out.cell (i := 2) rfl
      have z_1_0 := HX1.out.cell (i := 0) rfl
      have z_1_1 := HX1.out.cell (i := 1) rfl
      have z_1_2 := HX1.out.cell (i := 2) rfl
      have z_1_3 := HX1.out.cell (i := 3) rfl
      have z_2_0 := HZ1.out.cell (i := 0) rfl
      have z_2_1 := HZ1.out.cell (i := 1) rfl
      have z_2_2 := HZ1.out.cell (i := 2) rfl
      have z_3_0 := HZ2.out.cell (i := 0) rfl
      have z_3_1 := HZ2.out.cell (i := 1) rfl
      have z_3_2 := HZ2.out.cell (i := 2) rfl
      have z_3_3 := HZ2.out.cell (i := 3) rfl
      try (go_wp2_with fail)
      clear z_0_0 z_0_1 z_0_2 z_1_0 z_1_1 z_1_2 z_1_3 z_2_0 z_2_1 z_2_2 z_3_0 z_3_1 z_3_2 z_3_3
      refine (spec_l2Good ⟨P, Q, G⟩ _).mono ?_
      rintro e u7 ⟨rfl, hb⟩
      obtain ⟨q7, hq7⟩ : ∃ r, goodG ⟨P, Q, G⟩ = r := ⟨_, rfl⟩
      have Hq7 := Lib.hid hq7
      rw [hq7]
      clear hq7
      have hsz7 := hb.size
      replace HX0 := Lib.hid (HX0.out.below hb)
      replace HX1 := Lib.hid (HX1.out.below hb)
      replace HZ1 := Lib.hid (HZ1.out.below hb)
      replace HZ2 := Lib.hid (HZ2.out.below hb)
      replace HW := Lib.hid (HW.out.trans (Within.of_below hb))
      replace HC := Lib.hid (HC.out.keep hb)
      clear hb
      cases q7 with
      | false =>
        have z_0_0 := HX0.out.cell (i := 0) rfl
        have z_0_1 := HX0.out.cell (i := 1) rfl
        have z_0_2 := HX0.out.cell (i := 2) rfl
        have z_1_0 := HX1.out.cell (i := 0) rfl
        have z_1_1 := HX1.out.cell (i := 1) rfl
        have z_1_2 := HX1.out.cell (i := 2) rfl
        have z_1_3 := HX1.out.cell (i := 3) rfl
        have z_2_0 := HZ1.out.cell (i := 0) rfl
        have z_2_1 := HZ1.out.cell (i := 1) rfl
        have z_2_2 := HZ1.out.cell (i := 2) rfl
        have z_3_0 := HZ2.out.cell (i := 0) rfl
        have z_3_1 := HZ2.out.cell (i := 1) rfl
        have z_3_2 := HZ2.out.cell (i := 2) rfl
        have z_3_3 := HZ2.out.cell (i := 3) rfl
        try (go_wp2_with fail)
        clear z_0_0
        clear z_0_1
        clear z_0_2
        clear z_1_0
        clear z_1_1
        clear z_1_2
        clear z_1_3
        refine wp_region_noPanic ?_
        refine wp_region_V (fun w' => w'.cell? ⟨u1.heap.size, 0, none⟩ = some (.int .i64 P) ∧ w'.cell? ⟨u1.heap.size, 1, none⟩ = some (.int .i64 Q) ∧ w'.cell? ⟨u1.heap.size, 2, none⟩ = some (.int .i64 G) ∧ w'.cell? ⟨u3.heap.size, 0, none⟩ = some (.int .i64 x31) ∧ w'.cell? ⟨u3.heap.size, 1, none⟩ = some (.int .i64 x32) ∧ w'.cell? ⟨u3.heap.size, 2, none⟩ = some (.int .i64 x33) ∧ w'.cell? ⟨u3.heap.size, 3, none⟩ = some (.int .i64 x34)) 14 10 (.rd 0 (.rd 1 (.rd 2 (.rd 3 (.rd 5 (.rd 6 (.alt 4 (.alt 7 (.alt 8 (.alt 9 .done .nil) .nil) .nil) .nil))))))) [10, 11] (by kernel_rfl) (by kernel_rfl) rfl (fun _ _ _ _ _ h => h) ⟨box_at z_2_0 (Below.refl _ _).drew, box_at z_2_1 (Below.refl _ _).drew, box_at z_2_2 (Below.refl _ _).drew, box_at z_3_0 (Below.refl _ _).drew, box_at z_3_1 (Below.refl _ _).drew, box_at z_3_2 (Below.refl _ _).drew, box_at z_3_3 (Below.refl _ _).drew⟩ ?_
        simp only [pickV, pickN, List.getElem?_cons_zero, List.getElem?_cons_succ]
        repeat (refine' wpV_read _ (by kernel_rfl) (fun w' hS' => ?_) ?_; rotate_left; (focus ((try dsimp only at hS'); go_simp; (try with_reducible rfl))); (try simp only [Act.put, List.setIfInBounds_toArray, List.set_cons_zero, List.set_cons_succ]))
        have hdr : Below u7.heap.size u7 u7.drew := (Below.refl _ _).drew
        have hszd := hdr.size
        replace HX0 := Lib.hid (HX0.out.below hdr)
        replace HX1 := Lib.hid (HX1.out.below hdr)
        replace HZ1 := Lib.hid (HZ1.out.below hdr)
        replace HZ2 := Lib.hid (HZ2.out.below hdr)
        replace HW := Lib.hid (HW.out.trans (Within.of_below hdr))
        replace HC := Lib.hid (HC.out.keep hdr)
        clear hdr
        refine wpV_do (by kernel_rfl) (fun K hK => ?_)
        -- 4: call
        go_simp
        go_at_call 44
        refine (spec_anyElement U g _ P Q G _ HC.out (HW.out.belowOf HUC.out (Nat.le_of_eq HUS.out)) (by omega) HGR.out).mono ?_
        rintro e ut1 ⟨⟨xt1, rfl, xt1l, xt1u⟩, hc, hw⟩
        have hszt1 := hw.size
        replace HX0 := Lib.hid (HX0.out.kept hw (.inl (by omega)))
        replace HX1 := Lib.hid (HX1.out.kept hw (.inl (by omega)))
        replace HZ1 := Lib.hid (HZ1.out.kept hw (.inr (by omega)))
        replace HZ2 := Lib.hid (HZ2.out.kept hw (.inr (by omega)))
        replace HW := Lib.hid (HW.out.trans hw)
        replace HC := Lib.hid hc
        clear hc hw
        clear z_2_0 z_2_1 z_2_2 z_3_0 z_3_1 z_3_2 z_3_3
        have z_2_0 := HZ1.out.cell (i := 0) rfl
        have z_2_1 := HZ1.out.cell (i := 1) rfl
        have z_2_2 := HZ1.out.cell (i := 2) rfl
        have z_3_0 := HZ2.out.cell (i := 0) rfl
        have z_3_1 := HZ2.out.cell (i := 1) rfl
        have z_3_2 := HZ2.out.cell (i := 2) rfl
        have z_3_3 := HZ2.out.cell (i := 3) rfl
        refine hK.out _ _ ⟨z_2_0, z_2_1, z_2_2, z_3_0, z_3_1, z_3_2, z_3_3⟩ (fun _ => ?_)
        clear hK K
        (try simp only [Act.put, List.setIfInBounds_toArray, List.set_cons_zero, List.set_cons_succ])
        refine wpV_do (by kernel_rfl) (fun K hK => ?_)
        -- 7: call
        go_simp
        go_at_call 44
        refine (spec_anyElement U g _ P Q G _ HC.out (HW.out.belowOf HUC.out (Nat.le_of_eq HUS.out)) (by omega) HGR.out).mono ?_
        rintro e ut2 ⟨⟨xt2, rfl, xt2l, xt2u⟩, hc, hw⟩
        have hszt2 := hw.size
        replace HX0 := Lib.hid (HX0.out.kept hw (.inl (by omega)))
        replace HX1 := Lib.hid (HX1.out.kept hw (.inl (by omega)))
        replace HZ1 := Lib.hid (HZ1.out.kept hw (.inr (by omega)))
        replace HZ2 := Lib.hid (HZ2.out.kept hw (.inr (by omega)))
        replace HW := Lib.hid (HW.out.trans hw)
        replace HC := Lib.hid hc
        clear hc hw
        clear z_2_0 z_2_1 z_2_2 z_3_0 z_3_1 z_3_2 z_3_3
        have z_2_0 := HZ1.out.cell (i := 0) rfl
        have z_2_1 := HZ1.out.cell (i := 1) rfl
        have z_2_2 := HZ1.out.cell (i := 2) rfl
        have z_3_0 := HZ2.out.cell (i := 0) rfl
        have z_3_1 := HZ2.out.cell (i := 1) rfl
        have z_3_2 := HZ2.out.cell (i := 2) rfl
        have z_3_3 := HZ2.out.cell (i := 3) rfl
        refine hK.out _ _ ⟨z_2_0, z_2_1, z_2_2, z_3_0, z_3_1, z_3_2, z_3_3⟩ (fun _ => ?_)
        clear hK K
        (try simp only [Act.put, List.setIfInBounds_toArray, List.set_cons_zero, List.set_cons_succ])
        refine wpV_do (by kernel_rfl) (fun K hK => ?_)
        -- 8: store
        have r0 := HX0.out.cell (i := 0) rfl
        have r1 := HX0.out.cell (i := 1) rfl
        have r2 := HX0.out.cell (i := 2) rfl
        have fr := fun j => HX0.out.frozen j
        obtain ⟨Y3, hY⟩ : ∃ Y, Y = ((ut2.setCell ⟨w.heap.size, 0, none⟩ (.int .i64 P)).setCell ⟨w.heap.size, 1, none⟩ (.int .i64 Q)).setCell ⟨w.heap.size, 2, none⟩ (.int .i64 G) := ⟨_, rfl⟩
        have hYl : Within (w.heap.size) (w.heap.size + 1) ut2 Y3 := by rw [hY]; exact ((((Within.refl (w.heap.size) (w.heap.size + 1) ut2).setCell (b := w.heap.size) (by omega) (by omega) 0 (.int .i64 P)).setCell (b := w.heap.size) (by omega) (by omega) 1 (.int .i64 Q)).setCell (b := w.heap.size) (by omega) (by omega) 2 (.int .i64 G))
        have HYW : Hid (Within w.heap.size (w.heap.size + 2) ut2 Y3) := hYl.mono (by omega) (by omega)
        have HYB : Hid (Below w.heap.size w Y3) := hYl.belowU (HW.out.belowOf HBW.out (by omega)) (by omega)
        have HCS : Hid (∀ w', Within w.heap.size (w.heap.size + 2) ut2 w' → w'.cell? ⟨u1.heap.size, 0, none⟩ = some (.int .i64 P) ∧ w'.cell? ⟨u1.heap.size, 1, none⟩ = some (.int .i64 Q) ∧ w'.cell? ⟨u1.heap.size, 2, none⟩ = some (.int .i64 G) ∧ w'.cell? ⟨u3.heap.size, 0, none⟩ = some (.int .i64 x31) ∧ w'.cell? ⟨u3.heap.size, 1, none⟩ = some (.int .i64 x32) ∧ w'.cell? ⟨u3.heap.size, 2, none⟩ = some (.int .i64 x33) ∧ w'.cell? ⟨u3.heap.size, 3, none⟩ = some (.int .i64 x34)) := fun w' h => ⟨within_at h z_2_0 (by omega), within_at h z_2_1 (by omega), within_at h z_2_2 (by omega), within_at h z_3_0 (by omega), within_at h z_3_1 (by omega), within_at h z_3_2 (by omega), within_at h z_3_3 (by omega)⟩
        go_simp
        refine hK.out _ _ ?_ (fun _ => ?_)
        · rw [← hY]; exact HCS.out _ HYW.out
        rw [← hY]
        clear hK K fr r0 r1 r2
        replace HX0 : Hid (BoxN Y3 w.heap.size 24 [.int .i64 P, .int .i64 Q, .int .i64 G]) := by unfold Hid; rw [hY]; exact (((HX0.out.set 0 (.int .i64 P)).set 1 (.int .i64 Q)).set 2 (.int .i64 G))
        replace HX1 := Lib.hid (HX1.out.kept hYl (by omega))
        clear hY hYl
        (try simp only [Act.put, List.setIfInBounds_toArray, List.set_cons_zero, List.set_cons_succ])
        clear z_2_0 z_2_1 z_2_2 z_3_0 z_3_1 z_3_2 z_3_3
        obtain ⟨z_2_0, z_2_1, z_2_2, z_3_0, z_3_1, z_3_2, z_3_3⟩ := HCS.out _ HYW.out
        refine wpV_do (by kernel_rfl) (fun K hK => ?_)
        -- 9: store
        have r0 := HX1.out.cell (i := 0) rfl
        have r1 := HX1.out.cell (i := 1) rfl
        have r2 := HX1.out.cell (i := 2) rfl
        have r3 := HX1.out.cell (i := 3) rfl
        have fr := fun j => HX1.out.frozen j
        obtain ⟨Y4, hY⟩ : ∃ Y, Y = (((Y3.setCell ⟨w.heap.size + 1, 0, none⟩ (.int .i64 x31)).setCell ⟨w.heap.size + 1, 1, none⟩ (.int .i64 x32)).setCell ⟨w.heap.size + 1, 2, none⟩ (.int .i64 x33)).setCell ⟨w.heap.size + 1, 3, none⟩ (.int .i64 x34) := ⟨_, rfl⟩
        have hYl : Within (w.heap.size + 1) (w.heap.size + 1 + 1) Y3 Y4 := by rw [hY]; exact (((((Within.refl (w.heap.size + 1) (w.heap.size + 1 + 1) Y3).setCell (b := w.heap.size + 1) (by omega) (by omega) 0 (.int .i64 x31)).setCell (b := w.heap.size + 1) (by omega) (by omega) 1 (.int .i64 x32)).setCell (b := w.heap.size + 1) (by omega) (by omega) 2 (.int .i64 x33)).setCell (b := w.heap.size + 1) (by omega) (by omega) 3 (.int .i64 x34))
        replace HYW := Lib.hid (HYW.out.trans (hYl.mono (by omega) (by omega)))
        replace HYB := Lib.hid (hYl.belowU HYB.out (by omega))
        go_simp
        refine hK.out _ _ ?_ (fun _ => ?_)
        · rw [← hY]; exact HCS.out _ HYW.out
        rw [← hY]
        clear hK K fr r0 r1 r2 r3
        replace HX1 : Hid (BoxN Y4 (w.heap.size + 1) 31 [.int .i64 x31, .int .i64 x32, .int .i64 x33, .int .i64 x34]) := by unfold Hid; rw [hY]; exact ((((HX1.out.set 0 (.int .i64 x31)).set 1 (.int .i64 x32)).set 2 (.int .i64 x33)).set 3 (.int .i64 x34))
        replace HX0 := Lib.hid (HX0.out.kept hYl (by omega))
        clear hY hYl
        (try simp only [Act.put, List.setIfInBounds_toArray, List.set_cons_zero, List.set_cons_succ])
        clear z_2_0 z_2_1 z_2_2 z_3_0 z_3_1 z_3_2 z_3_3
        obtain ⟨z_2_0, z_2_1, z_2_2, z_3_0, z_3_1, z_3_2, z_3_3⟩ := HCS.out _ HYW.out
        refine wpV_done ?_
        go_wp2_with fail
        refine NoPanic.normal ?_
        clear z_2_0 z_2_1 z_2_2 z_3_0 z_3_1 z_3_2 z_3_3
        have t_HX0_0 := HX0.out.cell (i := 0) rfl
        have t_HX0_1 := HX0.out.cell (i := 1) rfl
        have t_HX0_2 := HX0.out.cell (i := 2) rfl
        have t_HX1_0 := HX1.out.cell (i := 0) rfl
        have t_HX1_1 := HX1.out.cell (i := 1) rfl
        have t_HX1_2 := HX1.out.cell (i := 2) rfl
        have t_HX1_3 := HX1.out.cell (i := 3) rfl
        try (go_wp2_with fail)
        refine bodyPost_ret (v := .tuple #[.agg #[.int .i64 P, .int .i64 Q, .int .i64 G], .agg #[.int .i64 x31, .int .i64 x32, .int .i64 x33, .int .i64 x34], .int .i64 xt1, .int .i64 xt2]) (by simp [results, Try.results10, go_sem, t_HX0_0, t_HX0_1, t_HX0_2, t_HX1_0, t_HX1_1, t_HX1_2, t_HX1_3]) rfl ⟨⟨_, _, _, _, _, _, _, _, _, rfl, HGR.out, ⟨⟨by omega, by omega⟩, ⟨by omega, by omega⟩⟩, ⟨⟨by omega, by omega⟩, ⟨by omega, by omega⟩⟩, ⟨by omega, by omega⟩, ⟨by omega, by omega⟩⟩, HYB.out⟩
      | true =>
        have HGD : Hid (goodG ⟨P, Q, G⟩ = true) := Hq7.out
        have HG := Lib.hid (goodG_ok HGD.out)
        have z_0_0 := HX0.out.cell (i := 0) rfl
        have z_0_1 := HX0.out.cell (i := 1) rfl
        have z_0_2 := HX0.out.cell (i := 2) rfl
        have z_1_0 := HX1.out.cell (i := 0) rfl
        have z_1_1 := HX1.out.cell (i := 1) rfl
        have z_1_2 := HX1.out.cell (i := 2) rfl
        have z_1_3 := HX1.out.cell (i := 3) rfl
        have z_2_0 := HZ1.out.cell (i := 0) rfl
        have z_2_1 := HZ1.out.cell (i := 1) rfl
        have z_2_2 := HZ1.out.cell (i := 2) rfl
        have z_3_0 := HZ2.out.cell (i := 0) rfl
        have z_3_1 := HZ2.out.cell (i := 1) rfl
        have z_3_2 := HZ2.out.cell (i := 2) rfl
        have z_3_3 := HZ2.out.cell (i := 3) rfl
        try (go_wp2_with fail)
        clear z_0_0 z_0_1 z_0_2 z_1_0 z_1_1 z_1_2 z_1_3 z_2_0 z_2_1 z_2_2 z_3_0 z_3_1 z_3_2 z_3_3
        refine (spec_sElements ⟨P, Q, G⟩ ⟨x31, x32, x33, x34⟩ _ HG.out ⟨⟨(show I64 x31 from ⟨by omega, by omega⟩), (show I64 x32 from ⟨by omega, by omega⟩)⟩, ⟨(show I64 x33 from ⟨by omega, by omega⟩), (show I64 x34 from ⟨by omega, by omega⟩)⟩⟩).mono ?_
        rintro e u8 ⟨rfl, hb⟩
        obtain ⟨q8, hq8⟩ : ∃ r, eqEl ⟨P, Q, G⟩ ⟨x31, x32, x33, x34⟩ = r := ⟨_, rfl⟩
        have Hq8 := Lib.hid hq8
        rw [hq8]
        clear hq8
        have hsz8 := hb.size
        replace HX0 := Lib.hid (HX0.out.below hb)
        replace HX1 := Lib.hid (HX1.out.below hb)
        replace HZ1 := Lib.hid (HZ1.out.below hb)
        replace HZ2 := Lib.hid (HZ2.out.below hb)
        replace HW := Lib.hid (HW.out.trans (Within.of_below hb))
        replace HC := Lib.hid (HC.out.keep hb)
        clear hb
        cases q8 with
        | false =>
          have z_0_0 := HX0.out.cell (i := 0) rfl
          have z_0_1 := HX0.out.cell (i := 1) rfl
          have z_0_2 := HX0.out.cell (i := 2) rfl
          have z_1_0 := HX1.out.cell (i := 0) rfl
          have z_1_1 := HX1.out.cell (i := 1) rfl
          have z_1_2 := HX1.out.cell (i := 2) rfl
          have z_1_3 := HX1.out.cell (i := 3) rfl
          have z_2_0 := HZ1.out.cell (i := 0) rfl
          have z_2_1 := HZ1.out.cell (i := 1) rfl
          have z_2_2 := HZ1.out.cell (i := 2) rfl
          have z_3_0 := HZ2.out.cell (i := 0) rfl
          have z_3_1 := HZ2.out.cell (i := 1) rfl
          have z_3_2 := HZ2.out.cell (i := 2) rfl
          have z_3_3 := HZ2.out.cell (i := 3) rfl
          try (go_wp2_with fail)
          clear z_0_0
          clear z_0_1
          clear z_0_2
          clear z_1_0
          clear z_1_1
          clear z_1_2
          clear z_1_3
          refine wp_region_noPanic ?_
          refine wp_region_V (fun w' => w'.cell? ⟨u1.heap.size, 0, none⟩ = some (.int .i64 P) ∧ w'.cell? ⟨u1.heap.size, 1, none⟩ = some (.int .i64 Q) ∧ w'.cell? ⟨u1.heap.size, 2, none⟩ = some (.int .i64 G) ∧ w'.cell? ⟨u3.heap.size, 0, none⟩ = some (.int .i64 x31) ∧ w'.cell? ⟨u3.heap.size, 1, none⟩ = some (.int .i64 x32) ∧ w'.cell? ⟨u3.heap.size, 2, none⟩ = some (.int .i64 x33) ∧ w'.cell? ⟨u3.heap.size, 3, none⟩ = some (.int .i64 x34)) 14 10 (.rd 0 (.rd 1 (.rd 2 (.rd 3 (.rd 5 (.rd 6 (.alt 4 (.alt 7 (.alt 8 (.alt 9 .done .nil) .nil) .nil) .nil))))))) [10, 11] (by kernel_rfl) (by kernel_rfl) rfl (fun _ _ _ _ _ h => h) ⟨box_at z_2_0 (Below.refl _ _).drew, box_at z_2_1 (Below.refl _ _).drew, box_at z_2_2 (Below.refl _ _).drew, box_at z_3_0 (Below.refl _ _).drew, box_at z_3_1 (Below.refl _ _).drew, box_at z_3_2 (Below.refl _ _).drew, box_at z_3_3 (Below.refl _ _).drew⟩ ?_
          simp only [pickV, pickN, List.getElem?_cons_zero, List.getElem?_cons_succ]
          repeat (refine' wpV_read _ (by kernel_rfl) (fun w' hS' => ?_) ?_; rotate_left; (focus ((try dsimp only at hS'); go_simp; (try with_reducible rfl))); (try simp only [Act.put, List.setIfInBounds_toArray, List.set_cons_zero, List.set_cons_succ]))
          have hdr : Below u8.heap.size u8 u8.drew := (Below.refl _ _).drew
          have hszd := hdr.size
          replace HX0 := Lib.hid (HX0.out.below hdr)
          replace HX1 := Lib.hid (HX1.out.below hdr)
          replace HZ1 := Lib.hid (HZ1.out.below hdr)
          replace HZ2 := Lib.hid (HZ2.out.below hdr)
          replace HW := Lib.hid (HW.out.trans (Within.of_below hdr))
          replace HC := Lib.hid (HC.out.keep hdr)
          clear hdr
          refine wpV_do (by kernel_rfl) (fun K hK => ?_)
          -- 4: call
          go_simp
          go_at_call 44
          refine (spec_anyElement U g _ P Q G _ HC.out (HW.out.belowOf HUC.out (Nat.le_of_eq HUS.out)) (by omega) HGR.out).mono ?_
          rintro e ut1 ⟨⟨xt1, rfl, xt1l, xt1u⟩, hc, hw⟩
          have hszt1 := hw.size
          replace HX0 := Lib.hid (HX0.out.kept hw (.inl (by omega)))
          replace HX1 := Lib.hid (HX1.out.kept hw (.inl (by omega)))
          replace HZ1 := Lib.hid (HZ1.out.kept hw (.inr (by omega)))
          replace HZ2 := Lib.hid (HZ2.out.kept hw (.inr (by omega)))
          replace HW := Lib.hid (HW.out.trans hw)
          replace HC := Lib.hid hc
          clear hc hw
          clear z_2_0 z_2_1 z_2_2 z_3_0 z_3_1 z_3_2 z_3_3
          have z_2_0 := HZ1.out.cell (i := 0) rfl
          have z_2_1 := HZ1.out.cell (i := 1) rfl
          have z_2_2 := HZ1.out.cell (i := 2) rfl
          have z_3_0 := HZ2.out.cell (i := 0) rfl
          have z_3_1 := HZ2.out.cell (i := 1) rfl
          have z_3_2 := HZ2.out.cell (i := 2) rfl
          have z_3_3 := HZ2.out.cell (i := 3) rfl
          refine hK.out _ _ ⟨z_2_0, z_2_1, z_2_2, z_3_0, z_3_1, z_3_2, z_3_3⟩ (fun _ => ?_)
          clear hK K
          (try simp only [Act.put, List.setIfInBounds_toArray, List.set_cons_zero, List.set_cons_succ])
          refine wpV_do (by kernel_rfl) (fun K hK => ?_)
          -- 7: call
          go_simp
          go_at_call 44
          refine (spec_anyElement U g _ P Q G _ HC.out (HW.out.belowOf HUC.out (Nat.le_of_eq HUS.out)) (by omega) HGR.out).mono ?_
          rintro e ut2 ⟨⟨xt2, rfl, xt2l, xt2u⟩, hc, hw⟩
          have hszt2 := hw.size
          replace HX0 := Lib.hid (HX0.out.kept hw (.inl (by omega)))
          replace HX1 := Lib.hid (HX1.out.kept hw (.inl (by omega)))
          replace HZ1 := Lib.hid (HZ1.out.kept hw (.inr (by omega)))
          replace HZ2 := Lib.hid (HZ2.out.kept hw (.inr (by omega)))
          replace HW := Lib.hid (HW.out.trans hw)
          replace HC := Lib.hid hc
          clear hc hw
          clear z_2_0 z_2_1 z_2_2 z_3_0 z_3_1 z_3_2 z_3_3
          have z_2_0 := HZ1.out.cell (i := 0) rfl
          have z_2_1 := HZ1.out.cell (i := 1) rfl
          have z_2_2 := HZ1.out.cell (i := 2) rfl
          have z_3_0 := HZ2.out.cell (i := 0) rfl
          have z_3_1 := HZ2.out.cell (i := 1) rfl
          have z_3_2 := HZ2.out.cell (i := 2) rfl
          have z_3_3 := HZ2.out.cell (i := 3) rfl
          refine hK.out _ _ ⟨z_2_0, z_2_1, z_2_2, z_3_0, z_3_1, z_3_2, z_3_3⟩ (fun _ => ?_)
          clear hK K
          (try simp only [Act.put, List.setIfInBounds_toArray, List.set_cons_zero, List.set_cons_succ])
          refine wpV_do (by kernel_rfl) (fun K hK => ?_)
          -- 8: store
          have r0 := HX0.out.cell (i := 0) rfl
          have r1 := HX0.out.cell (i := 1) rfl
          have r2 := HX0.out.cell (i := 2) rfl
          have fr := fun j => HX0.out.frozen j
          obtain ⟨Y3, hY⟩ : ∃ Y, Y = ((ut2.setCell ⟨w.heap.size, 0, none⟩ (.int .i64 P)).setCell ⟨w.heap.size, 1, none⟩ (.int .i64 Q)).setCell ⟨w.heap.size, 2, none⟩ (.int .i64 G) := ⟨_, rfl⟩
          have hYl : Within (w.heap.size) (w.heap.size + 1) ut2 Y3 := by rw [hY]; exact ((((Within.refl (w.heap.size) (w.heap.size + 1) ut2).setCell (b := w.heap.size) (by omega) (by omega) 0 (.int .i64 P)).setCell (b := w.heap.size) (by omega) (by omega) 1 (.int .i64 Q)).setCell (b := w.heap.size) (by omega) (by omega) 2 (.int .i64 G))
          have HYW : Hid (Within w.heap.size (w.heap.size + 2) ut2 Y3) := hYl.mono (by omega) (by omega)
          have HYB : Hid (Below w.heap.size w Y3) := hYl.belowU (HW.out.belowOf HBW.out (by omega)) (by omega)
          have HCS : Hid (∀ w', Within w.heap.size (w.heap.size + 2) ut2 w' → w'.cell? ⟨u1.heap.size, 0, none⟩ = some (.int .i64 P) ∧ w'.cell? ⟨u1.heap.size, 1, none⟩ = some (.int .i64 Q) ∧ w'.cell? ⟨u1.heap.size, 2, none⟩ = some (.int .i64 G) ∧ w'.cell? ⟨u3.heap.size, 0, none⟩ = some (.int .i64 x31) ∧ w'.cell? ⟨u3.heap.size, 1, none⟩ = some (.int .i64 x32) ∧ w'.cell? ⟨u3.heap.size, 2, none⟩ = some (.int .i64 x33) ∧ w'.cell? ⟨u3.heap.size, 3, none⟩ = some (.int .i64 x34)) := fun w' h => ⟨within_at h z_2_0 (by omega), within_at h z_2_1 (by omega), within_at h z_2_2 (by omega), within_at h z_3_0 (by omega), within_at h z_3_1 (by omega), within_at h z_3_2 (by omega), within_at h z_3_3 (by omega)⟩
          go_simp
          refine hK.out _ _ ?_ (fun _ => ?_)
          · rw [← hY]; exact HCS.out _ HYW.out
          rw [← hY]
          clear hK K fr r0 r1 r2
          replace HX0 : Hid (BoxN Y3 w.heap.size 24 [.int .i64 P, .int .i64 Q, .int .i64 G]) := by unfold Hid; rw [hY]; exact (((HX0.out.set 0 (.int .i64 P)).set 1 (.int .i64 Q)).set 2 (.int .i64 G))
          replace HX1 := Lib.hid (HX1.out.kept hYl (by omega))
          clear hY hYl
          (try simp only [Act.put, List.setIfInBounds_toArray, List.set_cons_zero, List.set_cons_succ])
          clear z_2_0 z_2_1 z_2_2 z_3_0 z_3_1 z_3_2 z_3_3
          obtain ⟨z_2_0, z_2_1, z_2_2, z_3_0, z_3_1, z_3_2, z_3_3⟩ := HCS.out _ HYW.out
          refine wpV_do (by kernel_rfl) (fun K hK => ?_)
          -- 9: store
          have r0 := HX1.out.cell (i := 0) rfl
          have r1 := HX1.out.cell (i := 1) rfl
          have r2 := HX1.out.cell (i := 2) rfl
          have r3 := HX1.out.cell (i := 3) rfl
          have fr := fun j => HX1.out.frozen j
          obtain ⟨Y4, hY⟩ : ∃ Y, Y = (((Y3.setCell ⟨w.heap.size + 1, 0, none⟩ (.int .i64 x31)).setCell ⟨w.heap.size + 1, 1, none⟩ (.int .i64 x32)).setCell ⟨w.heap.size + 1, 2, none⟩ (.int .i64 x33)).setCell ⟨w.heap.size + 1, 3, none⟩ (.int .i64 x34) := ⟨_, rfl⟩
          have hYl : Within (w.heap.size + 1) (w.heap.size + 1 + 1) Y3 Y4 := by rw [hY]; exact (((((Within.refl (w.heap.size + 1) (w.heap.size + 1 + 1) Y3).setCell (b := w.heap.size + 1) (by omega) (by omega) 0 (.int .i64 x31)).setCell (b := w.heap.size + 1) (by omega) (by omega) 1 (.int .i64 x32)).setCell (b := w.heap.size + 1) (by omega) (by omega) 2 (.int .i64 x33)).setCell (b := w.heap.size + 1) (by omega) (by omega) 3 (.int .i64 x34))
          replace HYW := Lib.hid (HYW.out.trans (hYl.mono (by omega) (by omega)))
          replace HYB := Lib.hid (hYl.belowU HYB.out (by omega))
          go_simp
          refine hK.out _ _ ?_ (fun _ => ?_)
          · rw [← hY]; exact HCS.out _ HYW.out
          rw [← hY]
          clear hK K fr r0 r1 r2 r3
          replace HX1 : Hid (BoxN Y4 (w.heap.size + 1) 31 [.int .i64 x31, .int .i64 x32, .int .i64 x33, .int .i64 x34]) := by unfold Hid; rw [hY]; exact ((((HX1.out.set 0 (.int .i64 x31)).set 1 (.int .i64 x32)).set 2 (.int .i64 x33)).set 3 (.int .i64 x34))
          replace HX0 := Lib.hid (HX0.out.kept hYl (by omega))
          clear hY hYl
          (try simp only [Act.put, List.setIfInBounds_toArray, List.set_cons_zero, List.set_cons_succ])
          clear z_2_0 z_2_1 z_2_2 z_3_0 z_3_1 z_3_2 z_3_3
          obtain ⟨z_2_0, z_2_1, z_2_2, z_3_0, z_3_1, z_3_2, z_3_3⟩ := HCS.out _ HYW.out
          refine wpV_done ?_
          go_wp2_with fail
          refine NoPanic.normal ?_
          clear z_2_0 z_2_1 z_2_2 z_3_0 z_3_1 z_3_2 z_3_3
          have t_HX0_0 := HX0.out.cell (i := 0) rfl
          have t_HX0_1 := HX0.out.cell (i := 1) rfl
          have t_HX0_2 := HX0.out.cell (i := 2) rfl
          have t_HX1_0 := HX1.out.cell (i := 0) rfl
          have t_HX1_1 := HX1.out.cell (i := 1) rfl
          have t_HX1_2 := HX1.out.cell (i := 2) rfl
          have t_HX1_3 := HX1.out.cell (i := 3) rfl
          try (go_wp2_with fail)
          refine bodyPost_ret (v := .tuple #[.agg #[.int .i64 P, .int .i64 Q, .int .i64 G], .agg #[.int .i64 x31, .int .i64 x32, .int .i64 x33, .int .i64 x34], .int .i64 xt1, .int .i64 xt2]) (by simp [results, Try.results10, go_sem, t_HX0_0, t_HX0_1, t_HX0_2, t_HX1_0, t_HX1_1, t_HX1_2, t_HX1_3]) rfl ⟨⟨_, _, _, _, _, _, _, _, _, rfl, HGR.out, ⟨⟨by omega, by omega⟩, ⟨by omega, by omega⟩⟩, ⟨⟨by omega, by omega⟩, ⟨by omega, by omega⟩⟩, ⟨by omega, by omega⟩, ⟨by omega, by omega⟩⟩, HYB.out⟩
        | true =>
          obtain ⟨sme1, sme2, sme3, sme4⟩ := eqEl_small HG.out Hq8.out
          have z_0_0 := HX0.out.cell (i := 0) rfl
          have z_0_1 := HX0.out.cell (i := 1) rfl
          have z_0_2 := HX0.out.cell (i := 2) rfl
          have z_1_0 := HX1.out.cell (i := 0) rfl
          have z_1_1 := HX1.out.cell (i := 1) rfl
          have z_1_2 := HX1.out.cell (i := 2) rfl
          have z_1_3 := HX1.out.cell (i := 3) rfl
          have z_2_0 := HZ1.out.cell (i := 0) rfl
          have z_2_1 := HZ1.out.cell (i := 1) rfl
          have z_2_2 := HZ1.out.cell (i := 2) rfl
          have z_3_0 := HZ2.out.cell (i := 0) rfl
          have z_3_1 := HZ2.out.cell (i := 1) rfl
          have z_3_2 := HZ2.out.cell (i := 2) rfl
          have z_3_3 := HZ2.out.cell (i := 3) rfl
          try (go_wp2_with fail)
          clear z_0_0 z_0_1 z_0_2 z_1_0 z_1_1 z_1_2 z_1_3 z_2_0 z_2_1 z_2_2 z_3_0 z_3_1 z_3_2 z_3_3
          refine (spec_expo U g _ P Q G _ HC.out (HW.out.belowOf HUC.out (Nat.le_of_eq HUS.out)) (by omega) HGR.out).mono ?_
          rintro e u9 ⟨⟨x9, rfl, x9l, x9u⟩, hc, hw⟩
          have hsz9 := hw.size
          replace HX0 := Lib.hid (HX0.out.kept hw (.inl (by omega)))
          replace HX1 := Lib.hid (HX1.out.kept hw (.inl (by omega)))
          replace HZ1 := Lib.hid (HZ1.out.kept hw (.inr (by omega)))
          replace HZ2 := Lib.hid (HZ2.out.kept hw (.inr (by omega)))
          replace HW := Lib.hid (HW.out.trans hw)
          replace HC := Lib.hid hc
          clear hc hw
          have z_0_0 := HX0.out.cell (i := 0) rfl
          have z_0_1 := HX0.out.cell (i := 1) rfl
          have z_0_2 := HX0.out.cell (i := 2) rfl
          have z_1_0 := HX1.out.cell (i := 0) rfl
          have z_1_1 := HX1.out.cell (i := 1) rfl
          have z_1_2 := HX1.out.cell (i := 2) rfl
          have z_1_3 := HX1.out.cell (i := 3) rfl
          have z_2_0 := HZ1.out.cell (i := 0) rfl
          have z_2_1 := HZ1.out.cell (i := 1) rfl
          have z_2_2 := HZ1.out.cell (i := 2) rfl
          have z_3_0 := HZ2.out.cell (i := 0) rfl
          have z_3_1 := HZ2.out.cell (i := 1) rfl
          have z_3_2 := HZ2.out.cell (i := 2) rfl
          have z_3_3 := HZ2.out.cell (i := 3) rfl
          try (go_wp2_with fail)
          clear z_0_0
          clear z_0_1
          clear z_0_2
          clear z_1_0
          clear z_1_1
          clear z_1_2
          clear z_1_3
          refine wp_region_noPanic ?_
          refine wp_region_V (fun w' => w'.cell? ⟨u1.heap.size, 0, none⟩ = some (.int .i64 P) ∧ w'.cell? ⟨u1.heap.size, 1, none⟩ = some (.int .i64 Q) ∧ w'.cell? ⟨u1.heap.size, 2, none⟩ = some (.int .i64 G) ∧ w'.cell? ⟨u3.heap.size, 0, none⟩ = some (.int .i64 x31) ∧ w'.cell? ⟨u3.heap.size, 1, none⟩ = some (.int .i64 x32) ∧ w'.cell? ⟨u3.heap.size, 2, none⟩ = some (.int .i64 x33) ∧ w'.cell? ⟨u3.heap.size, 3, none⟩ = some (.int .i64 x34)) 18 14 (.rd 0 (.rd 1 (.rd 2 (.rd 3 (.rd 4 (.rd 5 (.rd 7 (.rd 8 (.rd 9 (.rd 10 (.alt 6 (.alt 11 (.alt 12 (.alt 13 .done .nil) .nil) .nil) .nil))))))))))) [14, 15] (by kernel_rfl) (by kernel_rfl) rfl (fun _ _ _ _ _ h => h) ⟨box_at z_2_0 (Below.refl _ _).drew, box_at z_2_1 (Below.refl _ _).drew, box_at z_2_2 (Below.refl _ _).drew, box_at z_3_0 (Below.refl _ _).drew, box_at z_3_1 (Below.refl _ _).drew, box_at z_3_2 (Below.refl _ _).drew, box_at z_3_3 (Below.refl _ _).drew⟩ ?_
          simp only [pickV, pickN, List.getElem?_cons_zero, List.getElem?_cons_succ]
          repeat (refine' wpV_read _ (by kernel_rfl) (fun w' hS' => ?_) ?_; rotate_left; (focus ((try dsimp only at hS'); go_simp; (try with_reducible rfl))); (try simp only [Act.put, List.setIfInBounds_toArray, List.set_cons_zero, List.set_cons_succ]))
          have hdr : Below u9.heap.size u9 u9.drew := (Below.refl _ _).drew
          have hszd := hdr.size
          replace HX0 := Lib.hid (HX0.out.below hdr)
          replace HX1 := Lib.hid (HX1.out.below hdr)
          replace HZ1 := Lib.hid (HZ1.out.below hdr)
          replace HZ2 := Lib.hid (HZ2.out.below hdr)
          replace HW := Lib.hid (HW.out.trans (Within.of_below hdr))
          replace HC := Lib.hid (HC.out.keep hdr)
          clear hdr
          refine wpV_do (by kernel_rfl) (fun K hK => ?_)
          -- 6: call
          go_simp
          go_at_call 57
          refine (spec_gExp ⟨P, Q, G⟩ x31 x9 _ HG.out (by first | exact sme1 | exact sme3) ⟨by omega, by omega⟩).mono ?_
          rintro e ut1 ⟨rfl, hb⟩
          obtain ⟨xt1, hxt1⟩ : ∃ z, powE ⟨P, Q, G⟩ x31 x9 = z := ⟨_, rfl⟩
          rw [hxt1]
          obtain ⟨xt1l, xt1u⟩ : 0 ≤ xt1 ∧ xt1 ≤ 2000000010 := by rw [← hxt1]; exact ⟨(powE_small HG.out _ _).1, by have := (powE_small HG.out x31 x9).2; omega⟩
          clear hxt1
          have hw := (Within.of_below hb : Within g (g + 1) _ _)
          have hc := HC.out.keep hb
          clear hb
          have hszt1 := hw.size
          replace HX0 := Lib.hid (HX0.out.kept hw (.inl (by omega)))
          replace HX1 := Lib.hid (HX1.out.kept hw (.inl (by omega)))
          replace HZ1 := Lib.hid (HZ1.out.kept hw (.inr (by omega)))
          replace HZ2 := Lib.hid (HZ2.out.kept hw (.inr (by omega)))
          replace HW := Lib.hid (HW.out.trans hw)
          replace HC := Lib.hid hc
          clear hc hw
          clear z_2_0 z_2_1 z_2_2 z_3_0 z_3_1 z_3_2 z_3_3
          have z_2_0 := HZ1.out.cell (i := 0) rfl
          have z_2_1 := HZ1.out.cell (i := 1) rfl
          have z_2_2 := HZ1.out.cell (i := 2) rfl
          have z_3_0 := HZ2.out.cell (i := 0) rfl
          have z_3_1 := HZ2.out.cell (i := 1) rfl
          have z_3_2 := HZ2.out.cell (i := 2) rfl
          have z_3_3 := HZ2.out.cell (i := 3) rfl
          refine hK.out _ _ ⟨z_2_0, z_2_1, z_2_2, z_3_0, z_3_1, z_3_2, z_3_3⟩ (fun _ => ?_)
          clear hK K
          (try simp only [Act.put, List.setIfInBounds_toArray, List.set_cons_zero, List.set_cons_succ])
          refine wpV_do (by kernel_rfl) (fun K hK => ?_)
          -- 11: call
          go_simp
          go_at_call 57
          refine (spec_gExp ⟨P, Q, G⟩ x33 x9 _ HG.out (by first | exact sme1 | exact sme3) ⟨by omega, by omega⟩).mono ?_
          rintro e ut2 ⟨rfl, hb⟩
          obtain ⟨xt2, hxt2⟩ : ∃ z, powE ⟨P, Q, G⟩ x33 x9 = z := ⟨_, rfl⟩
          rw [hxt2]
          obtain ⟨xt2l, xt2u⟩ : 0 ≤ xt2 ∧ xt2 ≤ 2000000010 := by rw [← hxt2]; exact ⟨(powE_small HG.out _ _).1, by have := (powE_small HG.out x33 x9).2; omega⟩
          clear hxt2
          have hw := (Within.of_below hb : Within g (g + 1) _ _)
          have hc := HC.out.keep hb
          clear hb
          have hszt2 := hw.size
          replace HX0 := Lib.hid (HX0.out.kept hw (.inl (by omega)))
          replace HX1 := Lib.hid (HX1.out.kept hw (.inl (by omega)))
          replace HZ1 := Lib.hid (HZ1.out.kept hw (.inr (by omega)))
          replace HZ2 := Lib.hid (HZ2.out.kept hw (.inr (by omega)))
          replace HW := Lib.hid (HW.out.trans hw)
          replace HC := Lib.hid hc
          clear hc hw
          clear z_2_0 z_2_1 z_2_2 z_3_0 z_3_1 z_3_2 z_3_3
          have z_2_0 := HZ1.out.cell (i := 0) rfl
          have z_2_1 := HZ1.out.cell (i := 1) rfl
          have z_2_2 := HZ1.out.cell (i := 2) rfl
          have z_3_0 := HZ2.out.cell (i := 0) rfl
          have z_3_1 := HZ2.out.cell (i := 1) rfl
          have z_3_2 := HZ2.out.cell (i := 2) rfl
          have z_3_3 := HZ2.out.cell (i := 3) rfl
          refine hK.out _ _ ⟨z_2_0, z_2_1, z_2_2, z_3_0, z_3_1, z_3_2, z_3_3⟩ (fun _ => ?_)
          clear hK K
          (try simp only [Act.put, List.setIfInBounds_toArray, List.set_cons_zero, List.set_cons_succ])
          refine wpV_do (by kernel_rfl) (fun K hK => ?_)
          -- 12: store
          have r0 := HX0.out.cell (i := 0) rfl
          have r1 := HX0.out.cell (i := 1) rfl
          have r2 := HX0.out.cell (i := 2) rfl
          have fr := fun j => HX0.out.frozen j
          obtain ⟨Y3, hY⟩ : ∃ Y, Y = ((ut2.setCell ⟨w.heap.size, 0, none⟩ (.int .i64 P)).setCell ⟨w.heap.size, 1, none⟩ (.int .i64 Q)).setCell ⟨w.heap.size, 2, none⟩ (.int .i64 G) := ⟨_, rfl⟩
          have hYl : Within (w.heap.size) (w.heap.size + 1) ut2 Y3 := by rw [hY]; exact ((((Within.refl (w.heap.size) (w.heap.size + 1) ut2).setCell (b := w.heap.size) (by omega) (by omega) 0 (.int .i64 P)).setCell (b := w.heap.size) (by omega) (by omega) 1 (.int .i64 Q)).setCell (b := w.heap.size) (by omega) (by omega) 2 (.int .i64 G))
          have HYW : Hid (Within w.heap.size (w.heap.size + 2) ut2 Y3) := hYl.mono (by omega) (by omega)
          have HYB : Hid (Below w.heap.size w Y3) := hYl.belowU (HW.out.belowOf HBW.out (by omega)) (by omega)
          have HCS : Hid (∀ w', Within w.heap.size (w.heap.size + 2) ut2 w' → w'.cell? ⟨u1.heap.size, 0, none⟩ = some (.int .i64 P) ∧ w'.cell? ⟨u1.heap.size, 1, none⟩ = some (.int .i64 Q) ∧ w'.cell? ⟨u1.heap.size, 2, none⟩ = some (.int .i64 G) ∧ w'.cell? ⟨u3.heap.size, 0, none⟩ = some (.int .i64 x31) ∧ w'.cell? ⟨u3.heap.size, 1, none⟩ = some (.int .i64 x32) ∧ w'.cell? ⟨u3.heap.size, 2, none⟩ = some (.int .i64 x33) ∧ w'.cell? ⟨u3.heap.size, 3, none⟩ = some (.int .i64 x34)) := fun w' h => ⟨within_at h z_2_0 (by omega), within_at h z_2_1 (by omega), within_at h z_2_2 (by omega), within_at h z_3_0 (by omega), within_at h z_3_1 (by omega), within_at h z_3_2 (by omega), within_at h z_3_3 (by omega)⟩
          go_simp
          refine hK.out _ _ ?_ (fun _ => ?_)
          · rw [← hY]; exact HCS.out _ HYW.out
          rw [← hY]
          clear hK K fr r0 r1 r2
          replace HX0 : Hid (BoxN Y3 w.heap.size 24 [.int .i64 P, .int .i64 Q, .int .i64 G]) := by unfold Hid; rw [hY]; exact (((HX0.out.set 0 (.int .i64 P)).set 1 (.int .i64 Q)).set 2 (.int .i64 G))
          replace HX1 := Lib.hid (HX1.out.kept hYl (by omega))
          clear hY hYl
          (try simp only [Act.put, List.setIfInBounds_toArray, List.set_cons_zero, List.set_cons_succ])
          clear z_2_0 z_2_1 z_2_2 z_3_0 z_3_1 z_3_2 z_3_3
          obtain ⟨z_2_0, z_2_1, z_2_2, z_3_0, z_3_1, z_3_2, z_3_3⟩ := HCS.out _ HYW.out
          refine wpV_do (by kernel_rfl) (fun K hK => ?_)
          -- 13: store
          have r0 := HX1.out.cell (i := 0) rfl
          have r1 := HX1.out.cell (i := 1) rfl
          have r2 := HX1.out.cell (i := 2) rfl
          have r3 := HX1.out.cell (i := 3) rfl
          have fr := fun j => HX1.out.frozen j
          obtain ⟨Y4, hY⟩ : ∃ Y, Y = (((Y3.setCell ⟨w.heap.size + 1, 0, none⟩ (.int .i64 x31)).setCell ⟨w.heap.size + 1, 1, none⟩ (.int .i64 x32)).setCell ⟨w.heap.size + 1, 2, none⟩ (.int .i64 x33)).setCell ⟨w.heap.size + 1, 3, none⟩ (.int .i64 x34) := ⟨_, rfl⟩
          have hYl : Within (w.heap.size + 1) (w.heap.size + 1 + 1) Y3 Y4 := by rw [hY]; exact (((((Within.refl (w.heap.size + 1) (w.heap.size + 1 + 1) Y3).setCell (b := w.heap.size + 1) (by omega) (by omega) 0 (.int .i64 x31)).setCell (b := w.heap.size + 1) (by omega) (by omega) 1 (.int .i64 x32)).setCell (b := w.heap.size + 1) (by omega) (by omega) 2 (.int .i64 x33)).setCell (b := w.heap.size + 1) (by omega) (by omega) 3 (.int .i64 x34))
          replace HYW := Lib.hid (HYW.out.trans (hYl.mono (by omega) (by omega)))
          replace HYB := Lib.hid (hYl.belowU HYB.out (by omega))
          go_simp
          refine hK.out _ _ ?_ (fun _ => ?_)
          · rw [← hY]; exact HCS.out _ HYW.out
          rw [← hY]
          clear hK K fr r0 r1 r2 r3
          replace HX1 : Hid (BoxN Y4 (w.heap.size + 1) 31 [.int .i64 x31, .int .i64 x32, .int .i64 x33, .int .i64 x34]) := by unfold Hid; rw [hY]; exact ((((HX1.out.set 0 (.int .i64 x31)).set 1 (.int .i64 x32)).set 2 (.int .i64 x33)).set 3 (.int .i64 x34))
          replace HX0 := Lib.hid (HX0.out.kept hYl (by omega))
          clear hY hYl
          (try simp only [Act.put, List.setIfInBounds_toArray, List.set_cons_zero, List.set_cons_succ])
          clear z_2_0 z_2_1 z_2_2 z_3_0 z_3_1 z_3_2 z_3_3
          obtain ⟨z_2_0, z_2_1, z_2_2, z_3_0, z_3_1, z_3_2, z_3_3⟩ := HCS.out _ HYW.out
          refine wpV_done ?_
          go_wp2_with fail
          refine NoPanic.normal ?_
          clear z_2_0 z_2_1 z_2_2 z_3_0 z_3_1 z_3_2 z_3_3
          have t_HX0_0 := HX0.out.cell (i := 0) rfl
          have t_HX0_1 := HX0.out.cell (i := 1) rfl
          have t_HX0_2 := HX0.out.cell (i := 2) rfl
          have t_HX1_0 := HX1.out.cell (i := 0) rfl
          have t_HX1_1 := HX1.out.cell (i := 1) rfl
          have t_HX1_2 := HX1.out.cell (i := 2) rfl
          have t_HX1_3 := HX1.out.cell (i := 3) rfl
          try (go_wp2_with fail)
          refine bodyPost_ret (v := .tuple #[.agg #[.int .i64 P, .int .i64 Q, .int .i64 G], .agg #[.int .i64 x31, .int .i64 x32, .int .i64 x33, .int .i64 x34], .int .i64 xt1, .int .i64 xt2]) (by simp [results, Try.results10, go_sem, t_HX0_0, t_HX0_1, t_HX0_2, t_HX1_0, t_HX1_1, t_HX1_2, t_HX1_3]) rfl ⟨⟨_, _, _, _, _, _, _, _, _, rfl, HGR.out, ⟨⟨by omega, by omega⟩, ⟨by omega, by omega⟩⟩, ⟨⟨by omega, by omega⟩, ⟨by omega, by omega⟩⟩, ⟨by omega, by omega⟩, ⟨by omega, by omega⟩⟩, HYB.out⟩
  | true =>
    have z_0_0 := HX0.out.cell (i := 0) rfl
    have z_0_1 := HX0.out.cell (i := 1) rfl
    have z_0_2 := HX0.out.cell (i := 2) rfl
    have z_1_0 := HX1.out.cell (i := 0) rfl
    have z_1_1 := HX1.out.cell (i := 1) rfl
    have z_1_2 := HX1.out.cell (i := 2) rfl
    have z_1_3 := HX1.out.cell (i := 3) rfl
    have z_2_0 := HZ1.out.cell (i := 0) rfl
    have z_2_1 := HZ1.out.cell (i := 1) rfl
    have z_2_2 := HZ1.out.cell (i := 2) rfl
    have z_3_0 := HZ2.out.cell (i := 0) rfl
    have z_3_1 := HZ2.out.cell (i := 1) rfl
    have z_3_2 := HZ2.out.cell (i := 2) rfl
    have z_3_3 := HZ2.out.cell (i := 3) rfl
    try (go_wp2_with fail)
    clear z_0_0 z_0_1 z_0_2 z_1_0 z_1_1 z_1_2 z_1_3 z_2_0 z_2_1 z_2_2 z_3_0 z_3_1 z_3_2 z_3_3
    refine (spec_element U g _ P Q G _ HC.out (HW.out.belowOf HUC.out (Nat.le_of_eq HUS.out)) (by omega) HGR.out).mono ?_
    rintro e u6 ⟨⟨x6, rfl, x6l, x6u⟩, hc, hw⟩
    have hsz6 := hw.size
    replace HX0 := Lib.hid (HX0.out.kept hw (.inl (by omega)))
    replace HX1 := Lib.hid (HX1.out.kept hw (.inl (by omega)))
    replace HZ1 := Lib.hid (HZ1.out.kept hw (.inr (by omega)))
    replace HZ2 := Lib.hid (HZ2.out.kept hw (.inr (by omega)))
    replace HW := Lib.hid (HW.out.trans hw)
    replace HC := Lib.hid hc
    clear hc hw
    have z_0_0 := HX0.out.cell (i := 0) rfl
    have z_0_1 := HX0.out.cell (i := 1) rfl
    have z_0_2 := HX0.out.cell (i := 2) rfl
    have z_1_0 := HX1.out.cell (i := 0) rfl
    have z_1_1 := HX1.out.cell (i := 1) rfl
    have z_1_2 := HX1.out.cell (i := 2) rfl
    have z_1_3 := HX1.out.cell (i := 3) rfl
    have z_2_0 := HZ1.out.cell (i := 0) rfl
    have z_2_1 := HZ1.out.cell (i := 1) rfl
    have z_2_2 := HZ1.out.cell (i := 2) rfl
    have z_3_0 := HZ2.out.cell (i := 0) rfl
    have z_3_1 := HZ2.out.cell (i := 1) rfl
    have z_3_2 := HZ2.out.cell (i := 2) rfl
    have z_3_3 := HZ2.out.cell (i := 3) rfl
    have frm := fun j => HZ2.out.frozen j
    have ltm := HZ2.out.lt
    go_wp2_with fail
    obtain ⟨Y7, hY⟩ : ∃ Y, Y = u6.setCell ⟨u3.heap.size, 3, none⟩ (.int .i64 x6) := ⟨_, rfl⟩
    have hYl : Within (u3.heap.size) (u3.heap.size + 1) u6 Y7 := by rw [hY]; exact ((Within.refl (u3.heap.size) (u3.heap.size + 1) u6).setCell (b := u3.heap.size) (by omega) (by omega) 3 (.int .i64 x6))
    have hszY7 := hYl.size
    have NHZ2 : Hid (BoxN Y7 u3.heap.size 31 [.int .i64 x31, .int .i64 x32, .int .i64 x33, .int .i64 x6]) := by unfold Hid; rw [hY]; exact (HZ2.out.set 3 (.int .i64 x6))
    have NC := Lib.hid (HC.out.setNew (b := u3.heap.size) (by omega) 3 (.int .i64 x6))
    rw [← hY] at NC
    have NW := Lib.hid (HW.out.setNew (b := u3.heap.size) (by omega) 3 (.int .i64 x6))
    rw [← hY] at NW
    replace HX0 := Lib.hid (HX0.out.kept hYl (by omega))
    replace HX1 := Lib.hid (HX1.out.kept hYl (by omega))
    replace HZ1 := Lib.hid (HZ1.out.kept hYl (by omega))
    rw [← hY]
    clear hY hYl frm ltm HZ2 HC HW
    have HZ2 := NHZ2
    have HC := NC
    have HW := NW
    clear NHZ2 NC NW
    clear z_0_0 z_0_1 z_0_2 z_1_0 z_1_1 z_1_2 z_1_3 z_2_0 z_2_1 z_2_2 z_3_0 z_3_1 z_3_2 z_3_3
    have z_0_0 := HX0.out.cell (i := 0) rfl
    have z_0_1 := HX0.out.cell (i := 1) rfl
    have z_0_2 := HX0.out.cell (i := 2) rfl
    have z_1_0 := HX1.out.cell (i := 0) rfl
    have z_1_1 := HX1.out.cell (i := 1) rfl
    have z_1_2 := HX1.out.cell (i := 2) rfl
    have z_1_3 := HX1.out.cell (i := 3) rfl
    have z_2_0 := HZ1.out.cell (i := 0) rfl
    have z_2_1 := HZ1.out.cell (i := 1) rfl
    have z_2_2 := HZ1.out.cell (i := 2) rfl
    have z_3_0 := HZ2.out.cell (i := 0) rfl
    have z_3_1 := HZ2.out.cell (i := 1) rfl
    have z_3_2 := HZ2.out.cell (i := 2) rfl
    have z_3_3 := HZ2.out.cell (i := 3) rfl
    try (go_wp2_with fail)
    clear z_0_0 z_0_1 z_0_2 z_1_0 z_1_1 z_1_2 z_1_3 z_2_0 z_2_1 z_2_2 z_3_0 z_3_1 z_3_2 z_3_3
    refine (spec_one U g _ 2 _ HC.out (HW.out.belowOf HUC.out (Nat.le_of_eq HUS.out)) (by omega) ).mono ?_
    rintro e u8 ⟨⟨b8, rfl⟩, hc, hw⟩
    have hsz8 := hw.size
    replace HX0 := Lib.hid (HX0.out.kept hw (.inl (by omega)))
    replace HX1 := Lib.hid (HX1.out.kept hw (.inl (by omega)))
    replace HZ1 := Lib.hid (HZ1.out.kept hw (.inr (by omega)))
    replace HZ2 := Lib.hid (HZ2.out.kept hw (.inr (by omega)))
    replace HW := Lib.hid (HW.out.trans hw)
    replace HC := Lib.hid hc
    clear hc hw
    cases b8 with
    | false =>
      have z_0_0 := HX0.out.cell (i := 0) rfl
      have z_0_1 := HX0.out.cell (i := 1) rfl
      have z_0_2 := HX0.out.cell (i := 2) rfl
      have z_1_0 := HX1.out.cell (i := 0) rfl
      have z_1_1 := HX1.out.cell (i := 1) rfl
      have z_1_2 := HX1.out.cell (i := 2) rfl
      have z_1_3 := HX1.out.cell (i := 3) rfl
      have z_2_0 := HZ1.out.cell (i := 0) rfl
      have z_2_1 := HZ1.out.cell (i := 1) rfl
      have z_2_2 := HZ1.out.cell (i := 2) rfl
      have z_3_0 := HZ2.out.cell (i := 0) rfl
      have z_3_1 := HZ2.out.cell (i := 1) rfl
      have z_3_2 := HZ2.out.cell (i := 2) rfl
      have z_3_3 := HZ2.out.cell (i := 3) rfl
      try (go_wp2_with fail)
      clear z_0_0
      clear z_0_1
      clear z_0_2
      clear z_1_0
      clear z_1_1
      clear z_1_2
      clear z_1_3
      refine wp_region_noPanic ?_
      refine wp_region_V (fun w' => w'.cell? ⟨u1.heap.size, 0, none⟩ = some (.int .i64 P) ∧ w'.cell? ⟨u1.heap.size, 1, none⟩ = some (.int .i64 Q) ∧ w'.cell? ⟨u1.heap.size, 2, none⟩ = some (.int .i64 G) ∧ w'.cell? ⟨u3.heap.size, 0, none⟩ = some (.int .i64 x31) ∧ w'.cell? ⟨u3.heap.size, 1, none⟩ = some (.int .i64 x32) ∧ w'.cell? ⟨u3.heap.size, 2, none⟩ = some (.int .i64 x33) ∧ w'.cell? ⟨u3.heap.size, 3, none⟩ = some (.int .i64 x6)) 14 10 (.rd 0 (.rd 1 (.rd 2 (.rd 3 (.rd 5 (.rd 6 (.alt 4 (.alt 7 (.alt 8 (.alt 9 .done .nil) .nil) .nil) .nil))))))) [10, 11] (by kernel_rfl) (by kernel_rfl) rfl (fun _ _ _ _ _ h => h) ⟨box_at z_2_0 (Below.refl _ _).drew, box_at z_2_1 (Below.refl _ _).drew, box_at z_2_2 (Below.refl _ _).drew, box_at z_3_0 (Below.refl _ _).drew, box_at z_3_1 (Below.refl _ _).drew, box_at z_3_2 (Below.refl _ _).drew, box_at z_3_3 (Below.refl _ _).drew⟩ ?_
      simp only [pickV, pickN, List.getElem?_cons_zero, List.getElem?_cons_succ]
      repeat (refine' wpV_read _ (by kernel_rfl) (fun w' hS' => ?_) ?_; rotate_left; (focus ((try dsimp only at hS'); go_simp; (try with_reducible rfl))); (try simp only [Act.put, List.setIfInBounds_toArray, List.set_cons_zero, List.set_cons_succ]))
      have hdr : Below u8.heap.size u8 u8.drew := (Below.refl _ _).drew
      have hszd := hdr.size
      replace HX0 := Lib.hid (HX0.out.below hdr)
      replace HX1 := Lib.hid (HX1.out.below hdr)
      replace HZ1 := Lib.hid (HZ1.out.below hdr)
      replace HZ2 := Lib.hid (HZ2.out.below hdr)
      replace HW := Lib.hid (HW.out.trans (Within.of_below hdr))
      replace HC := Lib.hid (HC.out.keep hdr)
      clear hdr
      refine wpV_do (by kernel_rfl) (fun K hK => ?_)
      -- 4: call
      go_simp
      go_at_call 44
      refine (spec_anyElement U g _ P Q G _ HC.out (HW.out.belowOf HUC.out (Nat.le_of_eq HUS.out)) (by omega) HGR.out).mono ?_
      rintro e ut1 ⟨⟨xt1, rfl, xt1l, xt1u⟩, hc, hw⟩
      have hszt1 := hw.size
      replace HX0 := Lib.hid (HX0.out.kept hw (.inl (by omega)))
      replace HX1 := Lib.hid (HX1.out.kept hw (.inl (by omega)))
      replace HZ1 := Lib.hid (HZ1.out.kept hw (.inr (by omega)))
      replace HZ2 := Lib.hid (HZ2.out.kept hw (.inr (by omega)))
      replace HW := Lib.hid (HW.out.trans hw)
      replace HC := Lib.hid hc
      clear hc hw
      clear z_2_0 z_2_1 z_2_2 z_3_0 z_3_1 z_3_2 z_3_3
      have z_2_0 := HZ1.out.cell (i := 0) rfl
      have z_2_1 := HZ1.out.cell (i := 1) rfl
      have z_2_2 := HZ1.out.cell (i := 2) rfl
      have z_3_0 := HZ2.out.cell (i := 0) rfl
      have z_3_1 := HZ2.out.cell (i := 1) rfl
      have z_3_2 := HZ2.out.cell (i := 2) rfl
      have z_3_3 := HZ2.out.cell (i := 3) rfl
      refine hK.out _ _ ⟨z_2_0, z_2_1, z_2_2, z_3_0, z_3_1, z_3_2, z_3_3⟩ (fun _ => ?_)
      clear hK K
      (try simp only [Act.put, List.setIfInBounds_toArray, List.set_cons_zero, List.set_cons_succ])
      refine wpV_do (by kernel_rfl) (fun K hK => ?_)
      -- 7: call
      go_simp
      go_at_call 44
      refine (spec_anyElement U g _ P Q G _ HC.out (HW.out.belowOf HUC.out (Nat.le_of_eq HUS.out)) (by omega) HGR.out).mono ?_
      rintro e ut2 ⟨⟨xt2, rfl, xt2l, xt2u⟩, hc, hw⟩
      have hszt2 := hw.size
      replace HX0 := Lib.hid (HX0.out.kept hw (.inl (by omega)))
      replace HX1 := Lib.hid (HX1.out.kept hw (.inl (by omega)))
      replace HZ1 := Lib.hid (HZ1.out.kept hw (.inr (by omega)))
      replace HZ2 := Lib.hid (HZ2.out.kept hw (.inr (by omega)))
      replace HW := Lib.hid (HW.out.trans hw)
      replace HC := Lib.hid hc
      clear hc hw
      clear z_2_0 z_2_1 z_2_2 z_3_0 z_3_1 z_3_2 z_3_3
      have z_2_0 := HZ1.out.cell (i := 0) rfl
      have z_2_1 := HZ1.out.cell (i := 1) rfl
      have z_2_2 := HZ1.out.cell (i := 2) rfl
      have z_3_0 := HZ2.out.cell (i := 0) rfl
      have z_3_1 := HZ2.out.cell (i := 1) rfl
      have z_3_2 := HZ2.out.cell (i := 2) rfl
      have z_3_3 := HZ2.out.cell (i := 3) rfl
      refine hK.out _ _ ⟨z_2_0, z_2_1, z_2_2, z_3_0, z_3_1, z_3_2, z_3_3⟩ (fun _ => ?_)
      clear hK K
      (try simp only [Act.put, List.setIfInBounds_toArray, List.set_cons_zero, List.set_cons_succ])
      refine wpV_do (by kernel_rfl) (fun K hK => ?_)
      -- 8: store
      have r0 := HX0.out.cell (i := 0) rfl
      have r1 := HX0.out.cell (i := 1) rfl
      have r2 := HX0.out.cell (i := 2) rfl
      have fr := fun j => HX0.out.frozen j
      obtain ⟨Y3, hY⟩ : ∃ Y, Y = ((ut2.setCell ⟨w.heap.size, 0, none⟩ (.int .i64 P)).setCell ⟨w.heap.size, 1, none⟩ (.int .i64 Q)).setCell ⟨w.heap.size, 2, none⟩ (.int .i64 G) := ⟨_, rfl⟩
      have hYl : Within (w.heap.size) (w.heap.size + 1) ut2 Y3 := by rw [hY]; exact ((((Within.refl (w.heap.size) (w.heap.size + 1) ut2).setCell (b := w.heap.size) (by omega) (by omega) 0 (.int .i64 P)).setCell (b := w.heap.size) (by omega) (by omega) 1 (.int .i64 Q)).setCell (b := w.heap.size) (by omega) (by omega) 2 (.int .i64 G))
      have HYW : Hid (Within w.heap.size (w.heap.size + 2) ut2 Y3) := hYl.mono (by omega) (by omega)
      have HYB : Hid (Below w.heap.size w Y3) := hYl.belowU (HW.out.belowOf HBW.out (by omega)) (by omega)
      have HCS : Hid (∀ w', Within w.heap.size (w.heap.size + 2) ut2 w' → w'.cell? ⟨u1.heap.size, 0, none⟩ = some (.int .i64 P) ∧ w'.cell? ⟨u1.heap.size, 1, none⟩ = some (.int .i64 Q) ∧ w'.cell? ⟨u1.heap.size, 2, none⟩ = some (.int .i64 G) ∧ w'.cell? ⟨u3.heap.size, 0, none⟩ = some (.int .i64 x31) ∧ w'.cell? ⟨u3.heap.size, 1, none⟩ = some (.int .i64 x32) ∧ w'.cell? ⟨u3.heap.size, 2, none⟩ = some (.int .i64 x33) ∧ w'.cell? ⟨u3.heap.size, 3, none⟩ = some (.int .i64 x6)) := fun w' h => ⟨within_at h z_2_0 (by omega), within_at h z_2_1 (by omega), within_at h z_2_2 (by omega), within_at h z_3_0 (by omega), within_at h z_3_1 (by omega), within_at h z_3_2 (by omega), within_at h z_3_3 (by omega)⟩
      go_simp
      refine hK.out _ _ ?_ (fun _ => ?_)
      · rw [← hY]; exact HCS.out _ HYW.out
      rw [← hY]
      clear hK K fr r0 r1 r2
      replace HX0 : Hid (BoxN Y3 w.heap.size 24 [.int .i64 P, .int .i64 Q, .int .i64 G]) := by unfold Hid; rw [hY]; exact (((HX0.out.set 0 (.int .i64 P)).set 1 (.int .i64 Q)).set 2 (.int .i64 G))
      replace HX1 := Lib.hid (HX1.out.kept hYl (by omega))
      clear hY hYl
      (try simp only [Act.put, List.setIfInBounds_toArray, List.set_cons_zero, List.set_cons_succ])
      clear z_2_0 z_2_1 z_2_2 z_3_0 z_3_1 z_3_2 z_3_3
      obtain ⟨z_2_0, z_2_1, z_2_2, z_3_0, z_3_1, z_3_2, z_3_3⟩ := HCS.out _ HYW.out
      refine wpV_do (by kernel_rfl) (fun K hK => ?_)
      -- 9: store
      have r0 := HX1.out.cell (i := 0) rfl
      have r1 := HX1.out.cell (i := 1) rfl
      have r2 := HX1.out.cell (i := 2) rfl
      have r3 := HX1.out.cell (i := 3) rfl
      have fr := fun j => HX1.out.frozen j
      obtain ⟨Y4, hY⟩ : ∃ Y, Y = (((Y3.setCell ⟨w.heap.size + 1, 0, none⟩ (.int .i64 x31)).setCell ⟨w.heap.size + 1, 1, none⟩ (.int .i64 x32)).setCell ⟨w.heap.size + 1, 2, none⟩ (.int .i64 x33)).setCell ⟨w.heap.size + 1, 3, none⟩ (.int .i64 x6) := ⟨_, rfl⟩
      have hYl : Within (w.heap.size + 1) (w.heap.size + 1 + 1) Y3 Y4 := by rw [hY]; exact (((((Within.refl (w.heap.size + 1) (w.heap.size + 1 + 1) Y3).setCell (b := w.heap.size + 1) (by omega) (by omega) 0 (.int .i64 x31)).setCell (b := w.heap.size + 1) (by omega) (by omega) 1 (.int .i64 x32)).setCell (b := w.heap.size + 1) (by omega) (by omega) 2 (.int .i64 x33)).setCell (b := w.heap.size + 1) (by omega) (by omega) 3 (.int .i64 x6))
      replace HYW := Lib.hid (HYW.out.trans (hYl.mono (by omega) (by omega)))
      replace HYB := Lib.hid (hYl.belowU HYB.out (by omega))
      go_simp
      refine hK.out _ _ ?_ (fun _ => ?_)
      · rw [← hY]; exact HCS.out _ HYW.out
      rw [← hY]
      clear hK K fr r0 r1 r2 r3
      replace HX1 : Hid (BoxN Y4 (w.heap.size + 1) 31 [.int .i64 x31, .int .i64 x32, .int .i64 x33, .int .i64 x6]) := by unfold Hid; rw [hY]; exact ((((HX1.out.set 0 (.int .i64 x31)).set 1 (.int .i64 x32)).set 2 (.int .i64 x33)).set 3 (.int .i64 x6))
      replace HX0 := Lib.hid (HX0.out.kept hYl (by omega))
      clear hY hYl
      (try simp only [Act.put, List.setIfInBounds_toArray, List.set_cons_zero, List.set_cons_succ])
      clear z_2_0 z_2_1 z_2_2 z_3_0 z_3_1 z_3_2 z_3_3
      obtain ⟨z_2_0, z_2_1, z_2_2, z_3_0, z_3_1, z_3_2, z_3_3⟩ := HCS.out _ HYW.out
      refine wpV_done ?_
      go_wp2_with fail
      refine NoPanic.normal ?_
      clear z_2_0 z_2_1 z_2_2 z_3_0 z_3_1 z_3_2 z_3_3
      have t_HX0_0 := HX0.out.cell (i := 0) rfl
      have t_HX0_1 := HX0.out.cell (i := 1) rfl
      have t_HX0_2 := HX0.out.cell (i := 2) rfl
      have t_HX1_0 := HX1.out.cell (i := 0) rfl
      have t_HX1_1 := HX1.out.cell (i := 1) rfl
      have t_HX1_2 := HX1.out.cell (i := 2) rfl
      have t_HX1_3 := HX1.out.cell (i := 3) rfl
      try (go_wp2_with fail)
      refine bodyPost_ret (v := .tuple #[.agg #[.int .i64 P, .int .i64 Q, .int .i64 G], .agg #[.int .i64 x31, .int .i64 x32, .int .i64 x33, .int .i64 x6], .int .i64 xt1, .int .i64 xt2]) (by simp [results, Try.results10, go_sem, t_HX0_0, t_HX0_1, t_HX0_2, t_HX1_0, t_HX1_1, t_HX1_2, t_HX1_3]) rfl ⟨⟨_, _, _, _, _, _, _, _, _, rfl, HGR.out, ⟨⟨by omega, by omega⟩, ⟨by omega, by omega⟩⟩, ⟨⟨by omega, by omega⟩, ⟨by omega, by omega⟩⟩, ⟨by omega, by omega⟩, ⟨by omega, by omega⟩⟩, HYB.out⟩
    | true =>
      have z_0_0 := HX0.out.cell (i := 0) rfl
      have z_0_1 := HX0.out.cell (i := 1) rfl
      have z_0_2 := HX0.out.cell (i := 2) rfl
      have z_1_0 := HX1.out.cell (i := 0) rfl
      have z_1_1 := HX1.out.cell (i := 1) rfl
      have z_1_2 := HX1.out.cell (i := 2) rfl
      have z_1_3 := HX1.out.cell (i := 3) rfl
      have z_2_0 := HZ1.out.cell (i := 0) rfl
      have z_2_1 := HZ1.out.cell (i := 1) rfl
      have z_2_2 := HZ1.out.cell (i := 2) rfl
      have z_3_0 := HZ2.out.cell (i := 0) rfl
      have z_3_1 := HZ2.out.cell (i := 1) rfl
      have z_3_2 := HZ2.out.cell (i := 2) rfl
      have z_3_3 := HZ2.out.cell (i := 3) rfl
      try (go_wp2_with fail)
      clear z_0_0 z_0_1 z_0_2 z_1_0 z_1_1 z_1_2 z_1_3 z_2_0 z_2_1 z_2_2 z_3_0 z_3_1 z_3_2 z_3_3
      refine (spec_l2Good ⟨P, Q, G⟩ _).mono ?_
      rintro e u9 ⟨rfl, hb⟩
      obtain ⟨q9, hq9⟩ : ∃ r, goodG ⟨P, Q, G⟩ = r := ⟨_, rfl⟩
      have Hq9 := Lib.hid hq9
      rw [hq9]
      clear hq9
      have hsz9 := hb.size
      replace HX0 := Lib.hid (HX0.out.below hb)
      replace HX1 := Lib.hid (HX1.out.below hb)
      replace HZ1 := Lib.hid (HZ1.out.below hb)
      replace HZ2 := Lib.hid (HZ2.out.below hb)
      replace HW := Lib.hid (HW.out.trans (Within.of_below hb))
      replace HC := Lib.hid (HC.out.keep hb)
      clear hb
      cases q9 with
      | false =>
        have z_0_0 := HX0.out.cell (i := 0) rfl
        have z_0_1 := HX0.out.cell (i := 1) rfl
        have z_0_2 := HX0.out.cell (i := 2) rfl
        have z_1_0 := HX1.out.cell (i := 0) rfl
        have z_1_1 := HX1.out.cell (i := 1) rfl
        have z_1_2 := HX1.out.cell (i := 2) rfl
        have z_1_3 := HX1.out.cell (i := 3) rfl
        have z_2_0 := HZ1.out.cell (i := 0) rfl
        have z_2_1 := HZ1.out.cell (i := 1) rfl
        have z_2_2 := HZ1.out.cell (i := 2) rfl
        have z_3_0 := HZ2.out.cell (i := 0) rfl
        have z_3_1 := HZ2.out.cell (i := 1) rfl
        have z_3_2 := HZ2.out.cell (i := 2) rfl
        have z_3_3 := HZ2.out.cell (i := 3) rfl
        try (go_wp2_with fail)
        clear z_0_0
        clear z_0_1
        clear z_0_2
        clear z_1_0
        clear z_1_1
        clear z_1_2
        clear z_1_3
        refine wp_region_noPanic ?_
        refine wp_region_V (fun w' => w'.cell? ⟨u1.heap.size, 0, none⟩ = some (.int .i64 P) ∧ w'.cell? ⟨u1.heap.size, 1, none⟩ = some (.int .i64 Q) ∧ w'.cell? ⟨u1.heap.size, 2, none⟩ = some (.int .i64 G) ∧ w'.cell? ⟨u3.heap.size, 0, none⟩ = some (.int .i64 x31) ∧ w'.cell? ⟨u3.heap.size, 1, none⟩ = some (.int .i64 x32) ∧ w'.cell? ⟨u3.heap.size, 2, none⟩ = some (.int .i64 x33) ∧ w'.cell? ⟨u3.heap.size, 3, none⟩ = some (.int .i64 x6)) 14 10 (.rd 0 (.rd 1 (.rd 2 (.rd 3 (.rd 5 (.rd 6 (.alt 4 (.alt 7 (.alt 8 (.alt 9 .done .nil) .nil) .nil) .nil))))))) [10, 11] (by kernel_rfl) (by kernel_rfl) rfl (fun _ _ _ _ _ h => h) ⟨box_at z_2_0 (Below.refl _ _).drew, box_at z_2_1 (Below.refl _ _).drew, box_at z_2_2 (Below.refl _ _).drew, box_at z_3_0 (Below.refl _ _).drew, box_at z_3_1 (Below.refl _ _).drew, box_at z_3_2 (Below.refl _ _).drew, box_at z_3_3 (Below.refl _ _).drew⟩ ?_
        simp only [pickV, pickN, List.getElem?_cons_zero, List.getElem?_cons_succ]
        repeat (refine' wpV_read _ (by kernel_rfl) (fun w' hS' => ?_) ?_; rotate_left; (focus ((try dsimp only at hS'); go_simp; (try with_reducible rfl))); (try simp only [Act.put, List.setIfInBounds_toArray, List.set_cons_zero, List.set_cons_succ]))
        have hdr : Below u9.heap.size u9 u9.drew := (Below.refl _ _).drew
        have hszd := hdr.size
        replace HX0 := Lib.hid (HX0.out.below hdr)
        replace HX1 := Lib.hid (HX1.out.below hdr)
        replace HZ1 := Lib.hid (HZ1.out.below hdr)
        replace HZ2 := Lib.hid (HZ2.out.below hdr)
        replace HW := Lib.hid (HW.out.trans (Within.of_below hdr))
        replace HC := Lib.hid (HC.out.keep hdr)
        clear hdr
        refine wpV_do (by kernel_rfl) (fun K hK => ?_)
        -- 4: call
        go_simp
        go_at_call 44
        refine (spec_anyElement U g _ P Q G _ HC.out (HW.out.belowOf HUC.out (Nat.le_of_eq HUS.out)) (by omega) HGR.out).mono ?_
        rintro e ut1 ⟨⟨xt1, rfl, xt1l, xt1u⟩, hc, hw⟩
        have hszt1 := hw.size
        replace HX0 := Lib.hid (HX0.out.kept hw (.inl (by omega)))
        replace HX1 := Lib.hid (HX1.out.kept hw (.inl (by omega)))
        replace HZ1 := Lib.hid (HZ1.out.kept hw (.inr (by omega)))
        replace HZ2 := Lib.hid (HZ2.out.kept hw (.inr (by omega)))
        replace HW := Lib.hid (HW.out.trans hw)
        replace HC := Lib.hid hc
        clear hc hw
        clear z_2_0 z_2_1 z_2_2 z_3_0 z_3_1 z_3_2 z_3_3
        have z_2_0 := HZ1.out.cell (i := 0) rfl
        have z_2_1 := HZ1.out.cell (i := 1) rfl
        have z_2_2 := HZ1.out.cell (i := 2) rfl
        have z_3_0 := HZ2.out.cell (i := 0) rfl
        have z_3_1 := HZ2.out.cell (i := 1) rfl
        have z_3_2 := HZ2.out.cell (i := 2) rfl
        have z_3_3 := HZ2.out.cell (i := 3) rfl
        refine hK.out _ _ ⟨z_2_0, z_2_1, z_2_2, z_3_0, z_3_1, z_3_2, z_3_3⟩ (fun _ => ?_)
        clear hK K
        (try simp only [Act.put, List.setIfInBounds_toArray, List.set_cons_zero, List.set_cons_succ])
        refine wpV_do (by kernel_rfl) (fun K hK => ?_)
        -- 7: call
        go_simp
        go_at_call 44
        refine (spec_anyElement U g _ P Q G _ HC.out (HW.out.belowOf HUC.out (Nat.le_of_eq HUS.out)) (by omega) HGR.out).mono ?_
        rintro e ut2 ⟨⟨xt2, rfl, xt2l, xt2u⟩, hc, hw⟩
        have hszt2 := hw.size
        replace HX0 := Lib.hid (HX0.out.kept hw (.inl (by omega)))
        replace HX1 := Lib.hid (HX1.out.kept hw (.inl (by omega)))
        replace HZ1 := Lib.hid (HZ1.out.kept hw (.inr (by omega)))
        replace HZ2 := Lib.hid (HZ2.out.kept hw (.inr (by omega)))
        replace HW := Lib.hid (HW.out.trans hw)
        replace HC := Lib.hid hc
        clear hc hw
        clear z_2_0 z_2_1 z_2_2 z_3_0 z_3_1 z_3_2 z_3_3
        have z_2_0 := HZ1.out.cell (i := 0) rfl
        have z_2_1 := HZ1.out.cell (i := 1) rfl
        have z_2_2 := HZ1.out.cell (i := 2) rfl
        have z_3_0 := HZ2.out.cell (i := 0) rfl
        have z_3_1 := HZ2.out.cell (i := 1) rfl
        have z_3_2 := HZ2.out.cell (i := 2) rfl
        have z_3_3 := HZ2.out.cell (i := 3) rfl
        refine hK.out _ _ ⟨z_2_0, z_2_1, z_2_2, z_3_0, z_3_1, z_3_2, z_3_3⟩ (fun _ => ?_)
        clear hK K
        (try simp only [Act.put, List.setIfInBounds_toArray, List.set_cons_zero, List.set_cons_succ])
        refine wpV_do (by kernel_rfl) (fun K hK => ?_)
        -- 8: store
        have r0 := HX0.out.cell (i := 0) rfl
        have r1 := HX0.out.cell (i := 1) rfl
        have r2 := HX0.out.cell (i := 2) rfl
        have fr := fun j => HX0.out.frozen j
        obtain ⟨Y3, hY⟩ : ∃ Y, Y = ((ut2.setCell ⟨w.heap.size, 0, none⟩ (.int .i64 P)).setCell ⟨w.heap.size, 1, none⟩ (.int .i64 Q)).setCell ⟨w.heap.size, 2, none⟩ (.int .i64 G) := ⟨_, rfl⟩
        have hYl : Within (w.heap.size) (w.heap.size + 1) ut2 Y3 := by rw [hY]; exact ((((Within.refl (w.heap.size) (w.heap.size + 1) ut2).setCell (b := w.heap.size) (by omega) (by omega) 0 (.int .i64 P)).setCell (b := w.heap.size) (by omega) (by omega) 1 (.int .i64 Q)).setCell (b := w.heap.size) (by omega) (by omega) 2 (.int .i64 G))
        have HYW : Hid (Within w.heap.size (w.heap.size + 2) ut2 Y3) := hYl.mono (by omega) (by omega)
        have HYB : Hid (Below w.heap.size w Y3) := hYl.belowU (HW.out.belowOf HBW.out (by omega)) (by omega)
        have HCS : Hid (∀ w', Within w.heap.size (w.heap.size + 2) ut2 w' → w'.cell? ⟨u1.heap.size, 0, none⟩ = some (.int .i64 P) ∧ w'.cell? ⟨u1.heap.size, 1, none⟩ = some (.int .i64 Q) ∧ w'.cell? ⟨u1.heap.size, 2, none⟩ = some (.int .i64 G) ∧ w'.cell? ⟨u3.heap.size, 0, none⟩ = some (.int .i64 x31) ∧ w'.cell? ⟨u3.heap.size, 1, none⟩ = some (.int .i64 x32) ∧ w'.cell? ⟨u3.heap.size, 2, none⟩ = some (.int .i64 x33) ∧ w'.cell? ⟨u3.heap.size, 3, none⟩ = some (.int .i64 x6)) := fun w' h => ⟨within_at h z_2_0 (by omega), within_at h z_2_1 (by omega), within_at h z_2_2 (by omega), within_at h z_3_0 (by omega), within_at h z_3_1 (by omega), within_at h z_3_2 (by omega), within_at h z_3_3 (by omega)⟩
        go_simp
        refine hK.out _ _ ?_ (fun _ => ?_)
        · rw [← hY]; exact HCS.out _ HYW.out
        rw [← hY]
        clear hK K fr r0 r1 r2
        replace HX0 : Hid (BoxN Y3 w.heap.size 24 [.int .i64 P, .int .i64 Q, .int .i64 G]) := by unfold Hid; rw [hY]; exact (((HX0.out.set 0 (.int .i64 P)).set 1 (.int .i64 Q)).set 2 (.int .i64 G))
        replace HX1 := Lib.hid (HX1.out.kept hYl (by omega))
        clear hY hYl
        (try simp only [Act.put, List.setIfInBounds_toArray, List.set_cons_zero, List.set_cons_succ])
        clear z_2_0 z_2_1 z_2_2 z_3_0 z_3_1 z_3_2 z_3_3
        obtain ⟨z_2_0, z_2_1, z_2_2, z_3_0, z_3_1, z_3_2, z_3_3⟩ := HCS.out _ HYW.out
        refine wpV_do (by kernel_rfl) (fun K hK => ?_)
        -- 9: store
        have r0 := HX1.out.cell (i := 0) rfl
        have r1 := HX1.out.cell (i := 1) rfl
        have r2 := HX1.out.cell (i := 2) rfl
        have r3 := HX1.out.cell (i := 3) rfl
        have fr := fun j => HX1.out.frozen j
        obtain ⟨Y4, hY⟩ : ∃ Y, Y = (((Y3.setCell ⟨w.heap.size + 1, 0, none⟩ (.int .i64 x31)).setCell ⟨w.heap.size + 1, 1, none⟩ (.int .i64 x32)).setCell ⟨w.heap.size + 1, 2, none⟩ (.int .i64 x33)).setCell ⟨w.heap.size + 1, 3, none⟩ (.int .i64 x6) := ⟨_, rfl⟩
        have hYl : Within (w.heap.size + 1) (w.heap.size + 1 + 1) Y3 Y4 := by rw [hY]; exact (((((Within.refl (w.heap.size + 1) (w.heap.size + 1 + 1) Y3).setCell (b := w.heap.size + 1) (by omega) (by omega) 0 (.int .i64 x31)).setCell (b := w.heap.size + 1) (by omega) (by omega) 1 (.int .i64 x32)).setCell (b := w.heap.size + 1) (by omega) (by omega) 2 (.int .i64 x33)).setCell (b := w.heap.size + 1) (by omega) (by omega) 3 (.int .i64 x6))
        replace HYW := Lib.hid (HYW.out.trans (hYl.mono (by omega) (by omega)))
        replace HYB := Lib.hid (hYl.belowU HYB.out (by omega))
        go_simp
        refine hK.out _ _ ?_ (fun _ => ?_)
        · rw [← hY]; exact HCS.out _ HYW.out
        rw [← hY]
        clear hK K fr r0 r1 r2 r3
        replace HX1 : Hid (BoxN Y4 (w.heap.size + 1) 31 [.int .i64 x31, .int .i64 x32, .int .i64 x33, .int .i64 x6]) := by unfold Hid; rw [hY]; exact ((((HX1.out.set 0 (.int .i64 x31)).set 1 (.int .i64 x32)).set 2 (.int .i64 x33)).set 3 (.int .i64 x6))
        replace HX0 := Lib.hid (HX0.out.kept hYl (by omega))
        clear hY hYl
        (try simp only [Act.put, List.setIfInBounds_toArray, List.set_cons_zero, List.set_cons_succ])
        clear z_2_0 z_2_1 z_2_2 z_3_0 z_3_1 z_3_2 z_3_3
        obtain ⟨z_2_0, z_2_1, z_2_2, z_3_0, z_3_1, z_3_2, z_3_3⟩ := HCS.out _ HYW.out
        refine wpV_done ?_
        go_wp2_with fail
        refine NoPanic.normal ?_
        clear z_2_0 z_2_1 z_2_2 z_3_0 z_3_1 z_3_2 z_3_3
        have t_HX0_0 := HX0.out.cell (i := 0) rfl
        have t_HX0_1 := HX0.out.cell (i := 1) rfl
        have t_HX0_2 := HX0.out.cell (i := 2) rfl
        have t_HX1_0 := HX1.out.cell (i := 0) rfl
        have t_HX1_1 := HX1.out.cell (i := 1) rfl
        have t_HX1_2 := HX1.out.cell (i := 2) rfl
        have t_HX1_3 := HX1.out.cell (i := 3) rfl
        try (go_wp2_with fail)
        refine bodyPost_ret (v := .tuple #[.agg #[.int .i64 P, .int .i64 Q, .int .i64 G], .agg #[.int .i64 x31, .int .i64 x32, .int .i64 x33, .int .i64 x6], .int .i64 xt1, .int .i64 xt2]) (by simp [results, Try.results10, go_sem, t_HX0_0, t_HX0_1, t_HX0_2, t_HX1_0, t_HX1_1, t_HX1_2, t_HX1_3]) rfl ⟨⟨_, _, _, _, _, _, _, _, _, rfl, HGR.out, ⟨⟨by omega, by omega⟩, ⟨by omega, by omega⟩⟩, ⟨⟨by omega, by omega⟩, ⟨by omega, by omega⟩⟩, ⟨by omega, by omega⟩, ⟨by omega, by omega⟩⟩, HYB.out⟩
      | true =>
        have HGD : Hid (goodG ⟨P, Q, G⟩ = true) := Hq9.out
        have HG := Lib.hid (goodG_ok HGD.out)
        have z_0_0 := HX0.out.cell (i := 0) rfl
        have z_0_1 := HX0.out.cell (i := 1) rfl
        have z_0_2 := HX0.out.cell (i := 2) rfl
        have z_1_0 := HX1.out.cell (i := 0) rfl
        have z_1_1 := HX1.out.cell (i := 1) rfl
        have z_1_2 := HX1.out.cell (i := 2) rfl
        have z_1_3 := HX1.out.cell (i := 3) rfl
        have z_2_0 := HZ1.out.cell (i := 0) rfl
        have z_2_1 := HZ1.out.cell (i := 1) rfl
        have z_2_2 := HZ1.out.cell (i := 2) rfl
        have z_3_0 := HZ2.out.cell (i := 0) rfl
        have z_3_1 := HZ2.out.cell (i := 1) rfl
        have z_3_2 := HZ2.out.cell (i := 2) rfl
        have z_3_3 := HZ2.out.cell (i := 3) rfl
        try (go_wp2_with fail)
        clear z_0_0 z_0_1 z_0_2 z_1_0 z_1_1 z_1_2 z_1_3 z_2_0 z_2_1 z_2_2 z_3_0 z_3_1 z_3_2 z_3_3
        refine (spec_sElements ⟨P, Q, G⟩ ⟨x31, x32, x33, x6⟩ _ HG.out ⟨⟨(show I64 x31 from ⟨by omega, by omega⟩), (show I64 x32 from ⟨by omega, by omega⟩)⟩, ⟨(show I64 x33 from ⟨by omega, by omega⟩), (show I64 x6 from ⟨by omega, by omega⟩)⟩⟩).mono ?_
        rintro e u10 ⟨rfl, hb⟩
        obtain ⟨q10, hq10⟩ : ∃ r, eqEl ⟨P, Q, G⟩ ⟨x31, x32, x33, x6⟩ = r := ⟨_, rfl⟩
        have Hq10 := Lib.hid hq10
        rw [hq10]
        clear hq10
        have hsz10 := hb.size
        replace HX0 := Lib.hid (HX0.out.below hb)
        replace HX1 := Lib.hid (HX1.out.below hb)
        replace HZ1 := Lib.hid (HZ1.out.below hb)
        replace HZ2 := Lib.hid (HZ2.out.below hb)
        replace HW := Lib.hid (HW.out.trans (Within.of_below hb))
        replace HC := Lib.hid (HC.out.keep hb)
        clear hb
        cases q10 with
        | false =>
          have z_0_0 := HX0.out.cell (i := 0) rfl
          have z_0_1 := HX0.out.cell (i := 1) rfl
          have z_0_2 := HX0.out.cell (i := 2) rfl
          have z_1_0 := HX1.out.cell (i := 0) rfl
          have z_1_1 := HX1.out.cell (i := 1) rfl
          have z_1_2 := HX1.out.cell (i := 2) rfl
          have z_1_3 := HX1.out.cell (i := 3) rfl
          have z_2_0 := HZ1.out.cell (i := 0) rfl
          have z_2_1 := HZ1.out.cell (i := 1) rfl
          have z_2_2 := HZ1.out.cell (i := 2) rfl
          have z_3_0 := HZ2.out.cell (i := 0) rfl
          have z_3_1 := HZ2.out.cell (i := 1) rfl
          have z_3_2 := HZ2.out.cell (i := 2) rfl
          have z_3_3 := HZ2.out.cell (i := 3) rfl
          try (go_wp2_with fail)
          clear z_0_0
          clear z_0_1
          clear z_0_2
          clear z_1_0
          clear z_1_1
          clear z_1_2
          clear z_1_3
          refine wp_region_noPanic ?_
          refine wp_region_V (fun w' => w'.cell? ⟨u1.heap.size, 0, none⟩ = some (.int .i64 P) ∧ w'.cell? ⟨u1.heap.size, 1, none⟩ = some (.int .i64 Q) ∧ w'.cell? ⟨u1.heap.size, 2, none⟩ = some (.int .i64 G) ∧ w'.cell? ⟨u3.heap.size, 0, none⟩ = some (.int .i64 x31) ∧ w'.cell? ⟨u3.heap.size, 1, none⟩ = some (.int .i64 x32) ∧ w'.cell? ⟨u3.heap.size, 2, none⟩ = some (.int .i64 x33) ∧ w'.cell? ⟨u3.heap.size, 3, none⟩ = some (.int .i64 x6)) 14 10 (.rd 0 (.rd 1 (.rd 2 (.rd 3 (.rd 5 (.rd 6 (.alt 4 (.alt 7 (.alt 8 (.alt 9 .done .nil) .nil) .nil) .nil))))))) [10, 11] (by kernel_rfl) (by kernel_rfl) rfl (fun _ _ _ _ _ h => h) ⟨box_at z_2_0 (Below.refl _ _).drew, box_at z_2_1 (Below.refl _ _).drew, box_at z_2_2 (Below.refl _ _).drew, box_at z_3_0 (Below.refl _ _).drew, box_at z_3_1 (Below.refl _ _).drew, box_at z_3_2 (Below.refl _ _).drew, box_at z_3_3 (Below.refl _ _).drew⟩ ?_
          simp only [pickV, pickN, List.getElem?_cons_zero, List.getElem?_cons_succ]
          repeat (refine' wpV_read _ (by kernel_rfl) (fun w' hS' => ?_) ?_; rotate_left; (focus ((try dsimp only at hS'); go_simp; (try with_reducible rfl))); (try simp only [Act.put, List.setIfInBounds_toArray, List.set_cons_zero, List.set_cons_succ]))
          have hdr : Below u10.heap.size u10 u10.drew := (Below.refl _ _).drew
          have hszd := hdr.size
          replace HX0 := Lib.hid (HX0.out.below hdr)
          replace HX1 := Lib.hid (HX1.out.below hdr)
          replace HZ1 := Lib.hid (HZ1.out.below hdr)
          replace HZ2 := Lib.hid (HZ2.out.below hdr)
          replace HW := Lib.hid (HW.out.trans (Within.of_below hdr))
          replace HC := Lib.hid (HC.out.keep hdr)
          clear hdr
          refine wpV_do (by kernel_rfl) (fun K hK => ?_)
          -- 4: call
          go_simp
          go_at_call 44
          refine (spec_anyElement U g _ P Q G _ HC.out (HW.out.belowOf HUC.out (Nat.le_of_eq HUS.out)) (by omega) HGR.out).mono ?_
          rintro e ut1 ⟨⟨xt1, rfl, xt1l, xt1u⟩, hc, hw⟩
          have hszt1 := hw.size
          replace HX0 := Lib.hid (HX0.out.kept hw (.inl (by omega)))
          replace HX1 := Lib.hid (HX1.out.kept hw (.inl (by omega)))
          replace HZ1 := Lib.hid (HZ1.out.kept hw (.inr (by omega)))
          replace HZ2 := Lib.hid (HZ2.out.kept hw (.inr (by omega)))
          replace HW := Lib.hid (HW.out.trans hw)
          replace HC := Lib.hid hc
          clear hc hw
          clear z_2_0 z_2_1 z_2_2 z_3_0 z_3_1 z_3_2 z_3_3
          have z_2_0 := HZ1.out.cell (i := 0) rfl
          have z_2_1 := HZ1.out.cell (i := 1) rfl
          have z_2_2 := HZ1.out.cell (i := 2) rfl
          have z_3_0 := HZ2.out.cell (i := 0) rfl
          have z_3_1 := HZ2.out.cell (i := 1) rfl
          have z_3_2 := HZ2.out.cell (i := 2) rfl
          have z_3_3 := HZ2.out.cell (i := 3) rfl
          refine hK.out _ _ ⟨z_2_0, z_2_1, z_2_2, z_3_0, z_3_1, z_3_2, z_3_3⟩ (fun _ => ?_)
          clear hK K
          (try simp only [Act.put, List.setIfInBounds_toArray, List.set_cons_zero, List.set_cons_succ])
          refine wpV_do (by kernel_rfl) (fun K hK => ?_)
          -- 7: call
          go_simp
          go_at_call 44
          refine (spec_anyElement U g _ P Q G _ HC.out (HW.out.belowOf HUC.out (Nat.le_of_eq HUS.out)) (by omega) HGR.out).mono ?_
          rintro e ut2 ⟨⟨xt2, rfl, xt2l, xt2u⟩, hc, hw⟩
          have hszt2 := hw.size
          replace HX0 := Lib.hid (HX0.out.kept hw (.inl (by omega)))
          replace HX1 := Lib.hid (HX1.out.kept hw (.inl (by omega)))
          replace HZ1 := Lib.hid (HZ1.out.kept hw (.inr (by omega)))
          replace HZ2 := Lib.hid (HZ2.out.kept hw (.inr (by omega)))
          replace HW := Lib.hid (HW.out.trans hw)
          replace HC := Lib.hid hc
          clear hc hw
          clear z_2_0 z_2_1 z_2_2 z_3_0 z_3_1 z_3_2 z_3_3
          have z_2_0 := HZ1.out.cell (i := 0) rfl
          have z_2_1 := HZ1.out.cell (i := 1) rfl
          have z_2_2 := HZ1.out.cell (i := 2) rfl
          have z_3_0 := HZ2.out.cell (i := 0) rfl
          have z_3_1 := HZ2.out.cell (i := 1) rfl
          have z_3_2 := HZ2.out.cell (i := 2) rfl
          have z_3_3 := HZ2.out.cell (i := 3) rfl
          refine hK.out _ _ ⟨z_2_0, z_2_1, z_2_2, z_3_0, z_3_1, z_3_2, z_3_3⟩ (fun _ => ?_)
          clear hK K
          (try simp only [Act.put, List.setIfInBounds_toArray, List.set_cons_zero, List.set_cons_succ])
          refine wpV_do (by kernel_rfl) (fun K hK => ?_)
          -- 8: store
          have r0 := HX0.out.cell (i := 0) rfl
          have r1 := HX0.out.cell (i := 1) rfl
          have r2 := HX0.out.cell (i := 2) rfl
          have fr := fun j => HX0.out.frozen j
          obtain ⟨Y3, hY⟩ : ∃ Y, Y = ((ut2.setCell ⟨w.heap.size, 0, none⟩ (.int .i64 P)).setCell ⟨w.heap.size, 1, none⟩ (.int .i64 Q)).setCell ⟨w.heap.size, 2, none⟩ (.int .i64 G) := ⟨_, rfl⟩
          have hYl : Within (w.heap.size) (w.heap.size + 1) ut2 Y3 := by rw [hY]; exact ((((Within.refl (w.heap.size) (w.heap.size + 1) ut2).setCell (b := w.heap.size) (by omega) (by omega) 0 (.int .i64 P)).setCell (b := w.heap.size) (by omega) (by omega) 1 (.int .i64 Q)).setCell (b := w.heap.size) (by omega) (by omega) 2 (.int .i64 G))
          have HYW : Hid (Within w.heap.size (w.heap.size + 2) ut2 Y3) := hYl.mono (by omega) (by omega)
          have HYB : Hid (Below w.heap.size w Y3) := hYl.belowU (HW.out.belowOf HBW.out (by omega)) (by omega)
          have HCS : Hid (∀ w', Within w.heap.size (w.heap.size + 2) ut2 w' → w'.cell? ⟨u1.heap.size, 0, none⟩ = some (.int .i64 P) ∧ w'.cell? ⟨u1.heap.size, 1, none⟩ = some (.int .i64 Q) ∧ w'.cell? ⟨u1.heap.size, 2, none⟩ = some (.int .i64 G) ∧ w'.cell? ⟨u3.heap.size, 0, none⟩ = some (.int .i64 x31) ∧ w'.cell? ⟨u3.heap.size, 1, none⟩ = some (.int .i64 x32) ∧ w'.cell? ⟨u3.heap.size, 2, none⟩ = some (.int .i64 x33) ∧ w'.cell? ⟨u3.heap.size, 3, none⟩ = some (.int .i64 x6)) := fun w' h => ⟨within_at h z_2_0 (by omega), within_at h z_2_1 (by omega), within_at h z_2_2 (by omega), within_at h z_3_0 (by omega), within_at h z_3_1 (by omega), within_at h z_3_2 (by omega), within_at h z_3_3 (by omega)⟩
          go_simp
          refine hK.out _ _ ?_ (fun _ => ?_)
          · rw [← hY]; exact HCS.out _ HYW.out
          rw [← hY]
          clear hK K fr r0 r1 r2
          replace HX0 : Hid (BoxN Y3 w.heap.size 24 [.int .i64 P, .int .i64 Q, .int .i64 G]) := by unfold Hid; rw [hY]; exact (((HX0.out.set 0 (.int .i64 P)).set 1 (.int .i64 Q)).set 2 (.int .i64 G))
          replace HX1 := Lib.hid (HX1.out.kept hYl (by omega))
          clear hY hYl
          (try simp only [Act.put, List.setIfInBounds_toArray, List.set_cons_zero, List.set_cons_succ])
          clear z_2_0 z_2_1 z_2_2 z_3_0 z_3_1 z_3_2 z_3_3
          obtain ⟨z_2_0, z_2_1, z_2_2, z_3_0, z_3_1, z_3_2, z_3_3⟩ := HCS.out _ HYW.out
          refine wpV_do (by kernel_rfl) (fun K hK => ?_)
          -- 9: store
          have r0 := HX1.out.cell (i := 0) rfl
          have r1 := HX1.out.cell (i := 1) rfl
          have r2 := HX1.out.cell (i := 2) rfl
          have r3 := HX1.out.cell (i := 3) rfl
          have fr := fun j => HX1.out.frozen j
          obtain ⟨Y4, hY⟩ : ∃ Y, Y = (((Y3.setCell ⟨w.heap.size + 1, 0, none⟩ (.int .i64 x31)).setCell ⟨w.heap.size + 1, 1, none⟩ (.int .i64 x32)).setCell ⟨w.heap.size + 1, 2, none⟩ (.int .i64 x33)).setCell ⟨w.heap.size + 1, 3, none⟩ (.int .i64 x6) := ⟨_, rfl⟩
          have hYl : Within (w.heap.size + 1) (w.heap.size + 1 + 1) Y3 Y4 := by rw [hY]; exact (((((Within.refl (w.heap.size + 1) (w.heap.size + 1 + 1) Y3).setCell (b := w.heap.size + 1) (by omega) (by omega) 0 (.int .i64 x31)).setCell (b := w.heap.size + 1) (by omega) (by omega) 1 (.int .i64 x32)).setCell (b := w.heap.size + 1) (by omega) (by omega) 2 (.int .i64 x33)).setCell (b := w.heap.size + 1) (by omega) (by omega) 3 (.int .i64 x6))
          replace HYW := Lib.hid (HYW.out.trans (hYl.mono (by omega) (by omega)))
          replace HYB := Lib.hid (hYl.belowU HYB.out (by omega))
          go_simp
          refine hK.out _ _ ?_ (fun _ => ?_)
          · rw [← hY]; exact HCS.out _ HYW.out
          rw [← hY]
          clear hK K fr r0 r1 r2 r3
          replace HX1 : Hid (BoxN Y4 (w.heap.size + 1) 31 [.int .i64 x31, .int .i64 x32, .int .i64 x33, .int .i64 x6]) := by unfold Hid; rw [hY]; exact ((((HX1.out.set 0 (.int .i64 x31)).set 1 (.int .i64 x32)).set 2 (.int .i64 x33)).set 3 (.int .i64 x6))
          replace HX0 := Lib.hid (HX0.out.kept hYl (by omega))
          clear hY hYl
          (try simp only [Act.put, List.setIfInBounds_toArray, List.set_cons_zero, List.set_cons_succ])
          clear z_2_0 z_2_1 z_2_2 z_3_0 z_3_1 z_3_2 z_3_3
          obtain ⟨z_2_0, z_2_1, z_2_2, z_3_0, z_3_1, z_3_2, z_3_3⟩ := HCS.out _ HYW.out
          refine wpV_done ?_
          go_wp2_with fail
          refine NoPanic.normal ?_
          clear z_2_0 z_2_1 z_2_2 z_3_0 z_3_1 z_3_2 z_3_3
          have t_HX0_0 := HX0.out.cell (i := 0) rfl
          have t_HX0_1 := HX0.out.cell (i := 1) rfl
          have t_HX0_2 := HX0.out.cell (i := 2) rfl
          have t_HX1_0 := HX1.out.cell (i := 0) rfl
          have t_HX1_1 := HX1.out.cell (i := 1) rfl
          have t_HX1_2 := HX1.out.cell (i := 2) rfl
          have t_HX1_3 := HX1.out.cell (i := 3) rfl
          try (go_wp2_with fail)
          refine bodyPost_ret (v := .tuple #[.agg #[.int .i64 P, .int .i64 Q, .int .i64 G], .agg #[.int .i64 x31, .int .i64 x32, .int .i64 x33, .int .i64 x6], .int .i64 xt1, .int .i64 xt2]) (by simp [results, Try.results10, go_sem, t_HX0_0, t_HX0_1, t_HX0_2, t_HX1_0, t_HX1_1, t_HX1_2, t_HX1_3]) rfl ⟨⟨_, _, _, _, _, _, _, _, _, rfl, HGR.out, ⟨⟨by omega, by omega⟩, ⟨by omega, by omega⟩⟩, ⟨⟨by omega, by omega⟩, ⟨by omega, by omega⟩⟩, ⟨by omega, by omega⟩, ⟨by omega, by omega⟩⟩, HYB.out⟩
        | true =>
          obtain ⟨sme1, sme2, sme3, sme4⟩ := eqEl_small HG.out Hq10.out
          have z_0_0 := HX0.out.cell (i := 0) rfl
          have z_0_1 := HX0.out.cell (i := 1) rfl
          have z_0_2 := HX0.out.cell (i := 2) rfl
          have z_1_0 := HX1.out.cell (i := 0) rfl
          have z_1_1 := HX1.out.cell (i := 1) rfl
          have z_1_2 := HX1.out.cell (i := 2) rfl
          have z_1_3 := HX1.out.cell (i := 3) rfl
          have z_2_0 := HZ1.out.cell (i := 0) rfl
          have z_2_1 := HZ1.out.cell (i := 1) rfl
          have z_2_2 := HZ1.out.cell (i := 2) rfl
          have z_3_0 := HZ2.out.cell (i := 0) rfl
          have z_3_1 := HZ2.out.cell (i := 1) rfl
          have z_3_2 := HZ2.out.cell (i := 2) rfl
          have z_3_3 := HZ2.out.cell (i := 3) rfl
          try (go_wp2_with fail)
          clear z_0_0 z_0_1 z_0_2 z_1_0 z_1_1 z_1_2 z_1_3 z_2_0 z_2_1 z_2_2 z_3_0 z_3_1 z_3_2 z_3_3
          refine (spec_expo U g _ P Q G _ HC.out (HW.out.belowOf HUC.out (Nat.le_of_eq HUS.out)) (by omega) HGR.out).mono ?_
          rintro e u11 ⟨⟨x11, rfl, x11l, x11u⟩, hc, hw⟩
          have hsz11 := hw.size
          replace HX0 := Lib.hid (HX0.out.kept hw (.inl (by omega)))
          replace HX1 := Lib.hid (HX1.out.kept hw (.inl (by omega)))
          replace HZ1 := Lib.hid (HZ1.out.kept hw (.inr (by omega)))
          replace HZ2 := Lib.hid (HZ2.out.kept hw (.inr (by omega)))
          replace HW := Lib.hid (HW.out.trans hw)
          replace HC := Lib.hid hc
          clear hc hw
          have z_0_0 := HX0.out.cell (i := 0) rfl
          have z_0_1 := HX0.out.cell (i := 1) rfl
          have z_0_2 := HX0.out.cell (i := 2) rfl
          have z_1_0 := HX1.out.cell (i := 0) rfl
          have z_1_1 := HX1.out.cell (i := 1) rfl
          have z_1_2 := HX1.out.cell (i := 2) rfl
          have z_1_3 := HX1.out.cell (i := 3) rfl
          have z_2_0 := HZ1.out.cell (i := 0) rfl
          have z_2_1 := HZ1.out.cell (i := 1) rfl
          have z_2_2 := HZ1.out.cell (i := 2) rfl
          have z_3_0 := HZ2.out.cell (i := 0) rfl
          have z_3_1 := HZ2.out.cell (i := 1) rfl
          have z_3_2 := HZ2.out.cell (i := 2) rfl
          have z_3_3 := HZ2.out.cell (i := 3) rfl
          try (go_wp2_with fail)
          clear z_0_0
          clear z_0_1
          clear z_0_2
          clear z_1_0
          clear z_1_1
          clear z_1_2
          clear z_1_3
          refine wp_region_noPanic ?_
          refine wp_region_V (fun w' => w'.cell? ⟨u1.heap.size, 0, none⟩ = some (.int .i64 P) ∧ w'.cell? ⟨u1.heap.size, 1, none⟩ = some (.int .i64 Q) ∧ w'.cell? ⟨u1.heap.size, 2, none⟩ = some (.int .i64 G) ∧ w'.cell? ⟨u3.heap.size, 0, none⟩ = some (.int .i64 x31) ∧ w'.cell? ⟨u3.heap.size, 1, none⟩ = some (.int .i64 x32) ∧ w'.cell? ⟨u3.heap.size, 2, none⟩ = some (.int .i64 x33) ∧ w'.cell? ⟨u3.heap.size, 3, none⟩ = some (.int .i64 x6)) 18 14 (.rd 0 (.rd 1 (.rd 2 (.rd 3 (.rd 4 (.rd 5 (.rd 7 (.rd 8 (.rd 9 (.rd 10 (.alt 6 (.alt 11 (.alt 12 (.alt 13 .done .nil) .nil) .nil) .nil))))))))))) [14, 15] (by kernel_rfl) (by kernel_rfl) rfl (fun _ _ _ _ _ h => h) ⟨box_at z_2_0 (Below.refl _ _).drew, box_at z_2_1 (Below.refl _ _).drew, box_at z_2_2 (Below.refl _ _).drew, box_at z_3_0 (Below.refl _ _).drew, box_at z_3_1 (Below.refl _ _).drew, box_at z_3_2 (Below.refl _ _).drew, box_at z_3_3 (Below.refl _ _).drew⟩ ?_
          simp only [pickV, pickN, List.getElem?_cons_zero, List.getElem?_cons_succ]
          repeat (refine' wpV_read _ (by kernel_rfl) (fun w' hS' => ?_) ?_; rotate_left; (focus ((try dsimp only at hS'); go_simp; (try with_reducible rfl))); (try simp only [Act.put, List.setIfInBounds_toArray, List.set_cons_zero, List.set_cons_succ]))
          have hdr : Below u11.heap.size u11 u11.drew := (Below.refl _ _).drew
          have hszd := hdr.size
          replace HX0 := Lib.hid (HX0.out.below hdr)
          replace HX1 := Lib.hid (HX1.out.below hdr)
          replace HZ1 := Lib.hid (HZ1.out.below hdr)
          replace HZ2 := Lib.hid (HZ2.out.below hdr)
          replace HW := Lib.hid (HW.out.trans (Within.of_below hdr))
          replace HC := Lib.hid (HC.out.keep hdr)
          clear hdr
          refine wpV_do (by kernel_rfl) (fun K hK => ?_)
          -- 6: call
          go_simp
          go_at_call 57
          refine (spec_gExp ⟨P, Q, G⟩ x31 x11 _ HG.out (by first | exact sme1 | exact sme3) ⟨by omega, by omega⟩).mono ?_
          rintro e ut1 ⟨rfl, hb⟩
          obtain ⟨xt1, hxt1⟩ : ∃ z, powE ⟨P, Q, G⟩ x31 x11 = z := ⟨_, rfl⟩
          rw [hxt1]
          obtain ⟨xt1l, xt1u⟩ : 0 ≤ xt1 ∧ xt1 ≤ 2000000010 := by rw [← hxt1]; exact ⟨(powE_small HG.out _ _).1, by have := (powE_small HG.out x31 x11).2; omega⟩
          clear hxt1
          have hw := (Within.of_below hb : Within g (g + 1) _ _)
          have hc := HC.out.keep hb
          clear hb
          have hszt1 := hw.size
          replace HX0 := Lib.hid (HX0.out.kept hw (.inl (by omega)))
          replace HX1 := Lib.hid (HX1.out.kept hw (.inl (by omega)))
          replace HZ1 := Lib.hid (HZ1.out.kept hw (.inr (by omega)))
          replace HZ2 := Lib.hid (HZ2.out.kept hw (.inr (by omega)))
          replace HW := Lib.hid (HW.out.trans hw)
          replace HC := Lib.hid hc
          clear hc hw
          clear z_2_0 z_2_1 z_2_2 z_3_0 z_3_1 z_3_2 z_3_3
          have z_2_0 := HZ1.out.cell (i := 0) rfl
          have z_2_1 := HZ1.out.cell (i := 1) rfl
          have z_2_2 := HZ1.out.cell (i := 2) rfl
          have z_3_0 := HZ2.out.cell (i := 0) rfl
          have z_3_1 := HZ2.out.cell (i := 1) rfl
          have z_3_2 := HZ2.out.cell (i := 2) rfl
          have z_3_3 := HZ2.out.cell (i := 3) rfl
          refine hK.out _ _ ⟨z_2_0, z_2_1, z_2_2, z_3_0, z_3_1, z_3_2, z_3_3⟩ (fun _ => ?_)
          clear hK K
          (try simp only [Act.put, List.setIfInBounds_toArray, List.set_cons_zero, List.set_cons_succ])
          refine wpV_do (by kernel_rfl) (fun K hK => ?_)
          -- 11: call
          go_simp
          go_at_call 57
          refine (spec_gExp ⟨P, Q, G⟩ x33 x11 _ HG.out (by first | exact sme1 | exact sme3) ⟨by omega, by omega⟩).mono ?_
          rintro e ut2 ⟨rfl, hb⟩
          obtain ⟨xt2, hxt2⟩ : ∃ z, powE ⟨P, Q, G⟩ x33 x11 = z := ⟨_, rfl⟩
          rw [hxt2]
          obtain ⟨xt2l, xt2u⟩ : 0 ≤ xt2 ∧ xt2 ≤ 2000000010 := by rw [← hxt2]; exact ⟨(powE_small HG.out _ _).1, by have := (powE_small HG.out x33 x11).2; omega⟩
          clear hxt2
          have hw := (Within.of_below hb : Within g (g + 1) _ _)
          have hc := HC.out.keep hb
          clear hb
          have hszt2 := hw.size
          replace HX0 := Lib.hid (HX0.out.kept hw (.inl (by omega)))
          replace HX1 := Lib.hid (HX1.out.kept hw (.inl (by omega)))
          replace HZ1 := Lib.hid (HZ1.out.kept hw (.inr (by omega)))
          replace HZ2 := Lib.hid (HZ2.out.kept hw (.inr (by omega)))
          replace HW := Lib.hid (HW.out.trans hw)
          replace HC := Lib.hid hc
          clear hc hw
          clear z_2_0 z_2_1 z_2_2 z_3_0 z_3_1 z_3_2 z_3_3
          have z_2_0 := HZ1.out.cell (i := 0) rfl
          have z_2_1 := HZ1.out.cell (i := 1) rfl
          have z_2_2 := HZ1.out.cell (i := 2) rfl
          have z_3_0 := HZ2.out.cell (i := 0) rfl
          have z_3_1 := HZ2.out.cell (i := 1) rfl
          have z_3_2 := HZ2.out.cell (i := 2) rfl
          have z_3_3 := HZ2.out.cell (i := 3) rfl
          refine hK.out _ _ ⟨z_2_0, z_2_1, z_2_2, z_3_0, z_3_1, z_3_2, z_3_3⟩ (fun _ => ?_)
          clear hK K
          (try simp only [Act.put, List.setIfInBounds_toArray, List.set_cons_zero, List.set_cons_succ])
          refine wpV_do (by kernel_rfl) (fun K hK => ?_)
          -- 12: store
          have r0 := HX0.out.cell (i := 0) rfl
          have r1 := HX0.out.cell (i := 1) rfl
          have r2 := HX0.out.cell (i := 2) rfl
          have fr := fun j => HX0.out.frozen j
          obtain ⟨Y3, hY⟩ : ∃ Y, Y = ((ut2.setCell ⟨w.heap.size, 0, none⟩ (.int .i64 P)).setCell ⟨w.heap.size, 1, none⟩ (.int .i64 Q)).setCell ⟨w.heap.size, 2, none⟩ (.int .i64 G) := ⟨_, rfl⟩
          have hYl : Within (w.heap.size) (w.heap.size + 1) ut2 Y3 := by rw [hY]; exact ((((Within.refl (w.heap.size) (w.heap.size + 1) ut2).setCell (b := w.heap.size) (by omega) (by omega) 0 (.int .i64 P)).setCell (b := w.heap.size) (by omega) (by omega) 1 (.int .i64 Q)).setCell (b := w.heap.size) (by omega) (by omega) 2 (.int .i64 G))
          have HYW : Hid (Within w.heap.size (w.heap.size + 2) ut2 Y3) := hYl.mono (by omega) (by omega)
          have HYB : Hid (Below w.heap.size w Y3) := hYl.belowU (HW.out.belowOf HBW.out (by omega)) (by omega)
          have HCS : Hid (∀ w', Within w.heap.size (w.heap.size + 2) ut2 w' → w'.cell? ⟨u1.heap.size, 0, none⟩ = some (.int .i64 P) ∧ w'.cell? ⟨u1.heap.size, 1, none⟩ = some (.int .i64 Q) ∧ w'.cell? ⟨u1.heap.size, 2, none⟩ = some (.int .i64 G) ∧ w'.cell? ⟨u3.heap.size, 0, none⟩ = some (.int .i64 x31) ∧ w'.cell? ⟨u3.heap.size, 1, none⟩ = some (.int .i64 x32) ∧ w'.cell? ⟨u3.heap.size, 2, none⟩ = some (.int .i64 x33) ∧ w'.cell? ⟨u3.heap.size, 3, none⟩ = some (.int .i64 x6)) := fun w' h => ⟨within_at h z_2_0 (by omega), within_at h z_2_1 (by omega), within_at h z_2_2 (by omega), within_at h z_3_0 (by omega), within_at h z_3_1 (by omega), within_at h z_3_2 (by omega), within_at h z_3_3 (by omega)⟩
          go_simp
          refine hK.out _ _ ?_ (fun _ => ?_)
          · rw [← hY]; exact HCS.out _ HYW.out
          rw [← hY]
          clear hK K fr r0 r1 r2
          replace HX0 : Hid (BoxN Y3 w.heap.size 24 [.int .i64 P, .int .i64 Q, .int .i64 G]) := by unfold Hid; rw [hY]; exact (((HX0.out.set 0 (.int .i64 P)).set 1 (.int .i64 Q)).set 2 (.int .i64 G))
          replace HX1 := Lib.hid (HX1.out.kept hYl (by omega))
          clear hY hYl
          (try simp only [Act.put, List.setIfInBounds_toArray, List.set_cons_zero, List.set_cons_succ])
          clear z_2_0 z_2_1 z_2_2 z_3_0 z_3_1 z_3_2 z_3_3
          obtain ⟨z_2_0, z_2_1, z_2_2, z_3_0, z_3_1, z_3_2, z_3_3⟩ := HCS.out _ HYW.out
          refine wpV_do (by kernel_rfl) (fun K hK => ?_)
          -- 13: store
          have r0 := HX1.out.cell (i := 0) rfl
          have r1 := HX1.out.cell (i := 1) rfl
          have r2 := HX1.out.cell (i := 2) rfl
          have r3 := HX1.out.cell (i := 3) rfl
          have fr := fun j => HX1.out.frozen j
          obtain ⟨Y4, hY⟩ : ∃ Y, Y = (((Y3.setCell ⟨w.heap.size + 1, 0, none⟩ (.int .i64 x31)).setCell ⟨w.heap.size + 1, 1, none⟩ (.int .i64 x32)).setCell ⟨w.heap.size + 1, 2, none⟩ (.int .i64 x33)).setCell ⟨w.heap.size + 1, 3, none⟩ (.int .i64 x6) := ⟨_, rfl⟩
          have hYl : Within (w.heap.size + 1) (w.heap.size + 1 + 1) Y3 Y4 := by rw [hY]; exact (((((Within.refl (w.heap.size + 1) (w.heap.size + 1 + 1) Y3).setCell (b := w.heap.size + 1) (by omega) (by omega) 0 (.int .i64 x31)).setCell (b := w.heap.size + 1) (by omega) (by omega) 1 (.int .i64 x32)).setCell (b := w.heap.size + 1) (by omega) (by omega) 2 (.int .i64 x33)).setCell (b := w.heap.size + 1) (by omega) (by omega) 3 (.int .i64 x6))
          replace HYW := Lib.hid (HYW.out.trans (hYl.mono (by omega) (by omega)))
          replace HYB := Lib.hid (hYl.belowU HYB.out (by omega))
          go_simp
          refine hK.out _ _ ?_ (fun _ => ?_)
          · rw [← hY]; exact HCS.out _ HYW.out
          rw [← hY]
          clear hK K fr r0 r1 r2 r3
          replace HX1 : Hid (BoxN Y4 (w.heap.size + 1) 31 [.int .i64 x31, .int .i64 x32, .int .i64 x33, .int .i64 x6]) := by unfold Hid; rw [hY]; exact ((((HX1.out.set 0 (.int .i64 x31)).set 1 (.int .i64 x32)).set 2 (.int .i64 x33)).set 3 (.int .i64 x6))
          replace HX0 := Lib.hid (HX0.out.kept hYl (by omega))
          clear hY hYl
          (try simp only [Act.put, List.setIfInBounds_toArray, List.set_cons_zero, List.set_cons_succ])
          clear z_2_0 z_2_1 z_2_2 z_3_0 z_3_1 z_3_2 z_3_3
          obtain ⟨z_2_0, z_2_1, z_2_2, z_3_0, z_3_1, z_3_2, z_3_3⟩ := HCS.out _ HYW.out
          refine wpV_done ?_
          go_wp2_with fail
          refine NoPanic.normal ?_
          clear z_2_0 z_2_1 z_2_2 z_3_0 z_3_1 z_3_2 z_3_3
          have t_HX0_0 := HX0.out.cell (i := 0) rfl
          have t_HX0_1 := HX0.out.cell (i := 1) rfl
          have t_HX0_2 := HX0.out.cell (i := 2) rfl
          have t_HX1_0 := HX1.out.cell (i := 0) rfl
          have t_HX1_1 := HX1.out.cell (i := 1) rfl
          have t_HX1_2 := HX1.out.cell (i := 2) rfl
          have t_HX1_3 := HX1.out.cell (i := 3) rfl
          try (go_wp2_with fail)
          refine bodyPost_ret (v := .tuple #[.agg #[.int .i64 P, .int .i64 Q, .int .i64 G], .agg #[.int .i64 x31, .int .i64 x32, .int .i64 x33, .int .i64 x6], .int .i64 xt1, .int .i64 xt2]) (by simp [results, Try.results10, go_sem, t_HX0_0, t_HX0_1, t_HX0_2, t_HX1_0, t_HX1_1, t_HX1_2, t_HX1_3]) rfl ⟨⟨_, _, _, _, _, _, _, _, _, rfl, HGR.out, ⟨⟨by omega, by omega⟩, ⟨by omega, by omega⟩⟩, ⟨⟨by omega, by omega⟩, ⟨by omega, by omega⟩⟩, ⟨by omega, by omega⟩, ⟨by omega, by omega⟩⟩, HYB.out⟩
end Go.Proofs.Ytacpnphfopmofaa

/- Draws: equivocations (printed by gen_com3.py). -/
import Derived.Test.YtboahnklilmdpaaDrC1
namespace Go.Proofs.Ytboahnklilmdpaa
open Go.RowKit
set_option linter.unusedSimpArgs false
set_option linter.unusedVariables false
set_option maxRecDepth 100000 in
set_option maxHeartbeats 4000000 in
theorem spec_DrawEquivocate (v : Value) (w : World) (h : Bytes w v) :
    Calls Try.prog 56 #[v] w fun e w' => (∃ (P : Int) (Q : Int) (G : Int) (xr1 : Int) (xr2 : Int) (xr3 : Int) (xr4 : Int), e = .returned (.tuple #[.agg #[.int .i64 P, .int .i64 Q, .int .i64 G], .int .i64 xr1, .int .i64 xr2, .int .i64 xr3, .int .i64 xr4]) ∧ GrB ⟨P, Q, G⟩ ∧ (-10 ≤ xr1 ∧ xr1 ≤ 2000000010) ∧ (-10 ≤ xr2 ∧ xr2 ≤ 2000000010) ∧ (-10 ≤ xr3 ∧ xr3 ≤ 2000000010) ∧ (-10 ≤ xr4 ∧ xr4 ≤ 2000000010)) ∧ Below w.heap.size w w' := by
  obtain ⟨a, m, c, rfl, hk1, hk2, hv⟩ := h
  have HY : Hid (Bytes w (.slice a m c)) := ⟨a, m, c, rfl, hk1, hk2, hv⟩
  clear hv
  unfold maxLen at hk2
  obtain ⟨U, hU⟩ : ∃ U, U = w.alloc (.cells #[.int .i64 0, .int .i64 0, .int .i64 0] 39) := ⟨_, rfl⟩
  have hbU : Below w.heap.size w U := by rw [hU]; (repeat (first | exact Below.refl _ _ | assumption | refine Below.drew ?_ | refine Below.alloc ?_ (by first | (simp; done) | (simp; omega)) _ | refine Below.setCell ?_ (by first | (simp; done) | (simp; omega)) _))
  have HX0 : Hid (BoxN U w.heap.size 39 [.int .i64 0, .int .i64 0, .int .i64 0]) := by unfold Hid; rw [hU]; have h := (BoxN.new w [.int .i64 0, .int .i64 0, .int .i64 0] 39); simpa using h
  have hsU : U.heap.size = w.heap.size + 1 := by rw [hU]; simp
  obtain ⟨W, hW⟩ : ∃ W, W = U.alloc (.cells #[.slice a m c, .int .i64 0, .int .u64 0] 170) := ⟨_, rfl⟩
  have HC : Hid (Cur U W U.heap.size 0) := by unfold Hid; rw [hW]; exact Cur.new U (HY.out.below hbU)
  have hbW : Below U.heap.size U W := by rw [hW]; exact (Below.refl _ _).alloc (Nat.le_refl _) _
  have HBW := Lib.hid (Below.next hbU hbW)
  have HUB := Lib.hid hbW
  replace HX0 := Lib.hid (HX0.out.below hbW)
  obtain ⟨g, hg⟩ : ∃ g, g = U.heap.size := ⟨_, rfl⟩
  have HSU : Hid (w.heap.size + 1 = g) := by unfold Hid; rw [hg, hsU]
  have HWS : Hid (W.heap.size = g + 1) := by unfold Hid; rw [hW, hg]; simp
  go_enter Try.func56, Try.ntmps56
  go_wp2_with fail
  rw [← hU, ← hW]
  rw [HSU.out]
  rw [← hg] at HC HUB
  have HUS : Hid (U.heap.size = g) := hg.symm
  have hwg : w.heap.size + 1 = g := HSU.out
  have hsW := HWS.out
  have HW := Lib.hid (Within.refl g (g + 1) W)
  have HUC : Hid (Below U.heap.size U W) := by unfold Hid; rw [HUS.out]; exact HUB.out
  clear hU hW hbU hbW hsU hg
  have z_0_0 := HX0.out.cell (i := 0) rfl
  have z_0_1 := HX0.out.cell (i := 1) rfl
  have z_0_2 := HX0.out.cell (i := 2) rfl
  try (go_wp2_with fail)
  clear z_0_0 z_0_1 z_0_2
  refine (spec_anyGroup U g _ _ HC.out (HW.out.belowOf HUC.out (Nat.le_of_eq HUS.out)) (by omega)).mono ?_
  rintro e u1 ⟨⟨P, Q, G, rfl, P1, Q1, G1⟩, hc, hw⟩
  have HGR : Hid (GrB ⟨P, Q, G⟩) := ⟨P1, Q1, G1⟩
  clear P1 Q1 G1
  have hsz1 := hw.size
  replace HX0 := Lib.hid (HX0.out.kept hw (.inl (by omega)))
  replace HW := Lib.hid (HW.out.trans hw)
  replace HC := Lib.hid hc
  clear hc hw
  have z_0_0 := HX0.out.cell (i := 0) rfl
  have z_0_1 := HX0.out.cell (i := 1) rfl
  have z_0_2 := HX0.out.cell (i := 2) rfl
  have lt_HX0 := HX0.out.lt
  obtain ⟨V2, hV⟩ : ∃ V, V = u1.alloc (.cells #[.int .i64 P, .int .i64 Q, .int .i64 G] 39) := ⟨_, rfl⟩
  have hbV : Below u1.heap.size u1 V2 := by rw [hV]; (repeat (first | exact Below.refl _ _ | assumption | refine Below.drew ?_ | refine Below.alloc ?_ (by first | (simp; done) | (simp; omega)) _ | refine Below.setCell ?_ (by first | (simp; done) | (simp; omega)) _))
  have HZ1 : Hid (BoxN V2 u1.heap.size 39 [.int .i64 P, .int .i64 Q, .int .i64 G]) := by unfold Hid; rw [hV]; have h := (BoxN.new u1 [.int .i64 P, .int .i64 Q, .int .i64 G] 39); simpa using h
  have hgc : g < u1.heap.size := HC.out.lt
  go_wp2_with fail
  rw [← hV]
  have hsV2 : V2.heap.size = u1.heap.size + 1 := by rw [hV]; simp
  clear hV hgc
  replace HX0 := Lib.hid (HX0.out.below hbV)
  replace HW := Lib.hid (HW.out.trans (Within.of_below hbV))
  replace HC := Lib.hid (HC.out.keep hbV)
  clear hbV
  clear z_0_0 z_0_1 z_0_2
  clear lt_HX0
  have z_0_0 := HX0.out.cell (i := 0) rfl
  have z_0_1 := HX0.out.cell (i := 1) rfl
  have z_0_2 := HX0.out.cell (i := 2) rfl
  have z_1_0 := HZ1.out.cell (i := 0) rfl
  have z_1_1 := HZ1.out.cell (i := 1) rfl
  have z_1_2 := HZ1.out.cell (i := 2) rfl
  refine wp_region_noPanic ?_
  refine wp_region_Q (Within g (g + 1)) (DrawS U V2 g _ 1000000000 (fun w' => w'.cell? ⟨u1.heap.size, 0, none⟩ = some (.int .i64 P) ∧ w'.cell? ⟨u1.heap.size, 1, none⟩ = some (.int .i64 Q) ∧ w'.cell? ⟨u1.heap.size, 2, none⟩ = some (.int .i64 G))) 20 [(0, []), (1, []), (2, []), (3, [1, 0]), (4, []), (5, []), (6, [1, 0]), (7, []), (8, []), (9, [1, 0]), (10, []), (11, []), (12, [1, 0])] [13, 14, 15, 16, 17] (by kernel_rfl) (by kernel_rfl) (by kernel_rfl) rfl (fun _ _ _ _ h => h) (DrawS.good _ _ _ _ _ _) ⟨(Within.refl _ _ _).drew, by simpa using HC.out.keep (Below.refl _ _).drew, ⟨box_at z_1_0 (Below.refl _ _).drew, box_at z_1_1 (Below.refl _ _).drew, box_at z_1_2 (Below.refl _ _).drew⟩⟩ ?_
  simp only [pickP, pickN, List.getElem?_cons_zero, List.getElem?_cons_succ]
  iterate 3 (refine' chainQ_read (DrawS.good _ _ _ _ _ _) _ rfl rfl (fun m w' hm' hS' => ?_) ?_; rotate_left; · (simp only [lookP, allP, Act.put, List.getElem?_cons_zero, List.getElem?_cons_succ, List.setIfInBounds_toArray, List.set_cons_zero, List.set_cons_succ]; (try dsimp only [DrawS] at hS'); go_simp; (try with_reducible rfl)))
  -- 3: call { callee := value (func 147), args := #[t15, t16], argTypes := #[167, 39] }
  refine chainQ_do (d := (some 17)) (fun v u => ∃ (xq3 : Int), v = (.int .i64 xq3) ∧ (-10 ≤ xq3 ∧ xq3 ≤ 2000000010)) (fun v w1 w2 hw h => h) rfl rfl (fun m w' hm' hS' => ?_) ?_
  · simp only [lookP, allP, Act.put, List.getElem?_cons_zero, List.getElem?_cons_succ, List.setIfInBounds_toArray, List.set_cons_zero, List.set_cons_succ]
    intro K hK
    replace hm' : m < 13 := hm'
    go_simp
    go_at_call 147
    refine (spec_anyExpo U g _ P Q G _ hS'.2.1 (hS'.1.belowOf (HW.out.belowOf HUC.out (Nat.le_of_eq HUS.out)) (by have := HUS.out; omega)) (by omega) HGR.out).mono ?_
    rintro e u ⟨⟨xq3, rfl, xq3l, xq3u⟩, hc, hw⟩
    exact hK.out _ _ hw ⟨hS'.1.trans hw, hc.mono (by omega), ⟨within_at (hS'.1.trans hw) z_1_0 (.inr (by omega)), within_at (hS'.1.trans hw) z_1_1 (.inr (by omega)), within_at (hS'.1.trans hw) z_1_2 (.inr (by omega))⟩⟩ ⟨xq3, rfl, ⟨xq3l, xq3u⟩⟩
  iterate 2 (refine' chainQ_read (DrawS.good _ _ _ _ _ _) _ rfl rfl (fun m w' hm' hS' => ?_) ?_; rotate_left; · (simp only [lookP, allP, Act.put, List.getElem?_cons_zero, List.getElem?_cons_succ, List.setIfInBounds_toArray, List.set_cons_zero, List.set_cons_succ]; (try dsimp only [DrawS] at hS'); go_simp; (try with_reducible rfl)))
  -- 6: call { callee := value (func 147), args := #[t18, t19], argTypes := #[167, 39] }
  refine chainQ_do (d := (some 20)) (fun v u => ∃ (xq6 : Int), v = (.int .i64 xq6) ∧ (-10 ≤ xq6 ∧ xq6 ≤ 2000000010)) (fun v w1 w2 hw h => h) rfl rfl (fun m w' hm' hS' => ?_) ?_
  · simp only [lookP, allP, Act.put, List.getElem?_cons_zero, List.getElem?_cons_succ, List.setIfInBounds_toArray, List.set_cons_zero, List.set_cons_succ]
    intro K hK
    replace hm' : m < 13 := hm'
    go_simp
    go_at_call 147
    refine (spec_anyExpo U g _ P Q G _ hS'.2.1 (hS'.1.belowOf (HW.out.belowOf HUC.out (Nat.le_of_eq HUS.out)) (by have := HUS.out; omega)) (by omega) HGR.out).mono ?_
    rintro e u ⟨⟨xq6, rfl, xq6l, xq6u⟩, hc, hw⟩
    exact hK.out _ _ hw ⟨hS'.1.trans hw, hc.mono (by omega), ⟨within_at (hS'.1.trans hw) z_1_0 (.inr (by omega)), within_at (hS'.1.trans hw) z_1_1 (.inr (by omega)), within_at (hS'.1.trans hw) z_1_2 (.inr (by omega))⟩⟩ ⟨xq6, rfl, ⟨xq6l, xq6u⟩⟩
  iterate 2 (refine' chainQ_read (DrawS.good _ _ _ _ _ _) _ rfl rfl (fun m w' hm' hS' => ?_) ?_; rotate_left; · (simp only [lookP, allP, Act.put, List.getElem?_cons_zero, List.getElem?_cons_succ, List.setIfInBounds_toArray, List.set_cons_zero, List.set_cons_succ]; (try dsimp only [DrawS] at hS'); go_simp; (try with_reducible rfl)))
  -- 9: call { callee := value (func 147), args := #[t21, t22], argTypes := #[167, 39] }
  refine chainQ_do (d := (some 23)) (fun v u => ∃ (xq9 : Int), v = (.int .i64 xq9) ∧ (-10 ≤ xq9 ∧ xq9 ≤ 2000000010)) (fun v w1 w2 hw h => h) rfl rfl (fun m w' hm' hS' => ?_) ?_
  · simp only [lookP, allP, Act.put, List.getElem?_cons_zero, List.getElem?_cons_succ, List.setIfInBounds_toArray, List.set_cons_zero, List.set_cons_succ]
    intro K hK
    replace hm' : m < 13 := hm'
    go_simp
    go_at_call 147
    refine (spec_anyExpo U g _ P Q G _ hS'.2.1 (hS'.1.belowOf (HW.out.belowOf HUC.out (Nat.le_of_eq HUS.out)) (by have := HUS.out; omega)) (by omega) HGR.out).mono ?_
    rintro e u ⟨⟨xq9, rfl, xq9l, xq9u⟩, hc, hw⟩
    exact hK.out _ _ hw ⟨hS'.1.trans hw, hc.mono (by omega), ⟨within_at (hS'.1.trans hw) z_1_0 (.inr (by omega)), within_at (hS'.1.trans hw) z_1_1 (.inr (by omega)), within_at (hS'.1.trans hw) z_1_2 (.inr (by omega))⟩⟩ ⟨xq9, rfl, ⟨xq9l, xq9u⟩⟩
  iterate 2 (refine' chainQ_read (DrawS.good _ _ _ _ _ _) _ rfl rfl (fun m w' hm' hS' => ?_) ?_; rotate_left; · (simp only [lookP, allP, Act.put, List.getElem?_cons_zero, List.getElem?_cons_succ, List.setIfInBounds_toArray, List.set_cons_zero, List.set_cons_succ]; (try dsimp only [DrawS] at hS'); go_simp; (try with_reducible rfl)))
  -- 12: call { callee := value (func 147), args := #[t24, t25], argTypes := #[167, 39] }
  refine chainQ_do (d := (some 26)) (fun v u => ∃ (xq12 : Int), v = (.int .i64 xq12) ∧ (-10 ≤ xq12 ∧ xq12 ≤ 2000000010)) (fun v w1 w2 hw h => h) rfl rfl (fun m w' hm' hS' => ?_) ?_
  · simp only [lookP, allP, Act.put, List.getElem?_cons_zero, List.getElem?_cons_succ, List.setIfInBounds_toArray, List.set_cons_zero, List.set_cons_succ]
    intro K hK
    replace hm' : m < 13 := hm'
    go_simp
    go_at_call 147
    refine (spec_anyExpo U g _ P Q G _ hS'.2.1 (hS'.1.belowOf (HW.out.belowOf HUC.out (Nat.le_of_eq HUS.out)) (by have := HUS.out; omega)) (by omega) HGR.out).mono ?_
    rintro e u ⟨⟨xq12, rfl, xq12l, xq12u⟩, hc, hw⟩
    exact hK.out _ _ hw ⟨hS'.1.trans hw, hc.mono (by omega), ⟨within_at (hS'.1.trans hw) z_1_0 (.inr (by omega)), within_at (hS'.1.trans hw) z_1_1 (.inr (by omega)), within_at (hS'.1.trans hw) z_1_2 (.inr (by omega))⟩⟩ ⟨xq12, rfl, ⟨xq12l, xq12u⟩⟩
  refine chainQ_nil (fun u3 hS' => ?_)
  simp only [allP, Act.put, List.setIfInBounds_toArray, List.set_cons_zero, List.set_cons_succ]
  intro x12 hx12
  intro x9 hx9
  intro x6 hx6
  intro x3 hx3
  replace hS' : DrawS U V2 g _ 1000000000 _ 13 u3 := hS'
  obtain ⟨hw, hc, hC⟩ := hS'
  obtain ⟨xq3, rfl, xq3l, xq3u⟩ := hx3
  obtain ⟨xq6, rfl, xq6l, xq6u⟩ := hx6
  obtain ⟨xq9, rfl, xq9l, xq9u⟩ := hx9
  obtain ⟨xq12, rfl, xq12l, xq12u⟩ := hx12
  have hsz3 := hw.size
  replace HX0 := Lib.hid (HX0.out.kept hw (.inl (by omega)))
  replace HZ1 := Lib.hid (HZ1.out.kept hw (.inr (by omega)))
  replace HW := Lib.hid (HW.out.trans hw)
  replace HC := Lib.hid hc
  clear hc hw hC
  clear z_0_0 z_0_1 z_0_2 z_1_0 z_1_1 z_1_2
  have r_HX0_0 := HX0.out.cell (i := 0) rfl
  have r_HX0_1 := HX0.out.cell (i := 1) rfl
  have r_HX0_2 := HX0.out.cell (i := 2) rfl
  have fr_HX0 := fun j => HX0.out.frozen j
  go_wp2_with fail
  refine NoPanic.normal ?_
  have FHX0 := Lib.hid (((HX0.out.set 0 (.int .i64 P)).set 1 (.int .i64 Q)).set 2 (.int .i64 G))
  clear r_HX0_0 r_HX0_1 r_HX0_2 fr_HX0
  have t_HX0_0 := FHX0.out.cell (i := 0) rfl
  have t_HX0_1 := FHX0.out.cell (i := 1) rfl
  have t_HX0_2 := FHX0.out.cell (i := 2) rfl
  try (go_wp2_with fail)
  have HYS := Lib.hid ((((Within.refl w.heap.size (w.heap.size + 1) u3).setCell (b := w.heap.size) (by omega) (by omega) 0 (.int .i64 P)).setCell (b := w.heap.size) (by omega) (by omega) 1 (.int .i64 Q)).setCell (b := w.heap.size) (by omega) (by omega) 2 (.int .i64 G))
  refine bodyPost_ret (v := .tuple #[.agg #[.int .i64 P, .int .i64 Q, .int .i64 G], .int .i64 xq3, .int .i64 xq6, .int .i64 xq9, .int .i64 xq12]) (by simp [results, Try.results56, go_sem, t_HX0_0, t_HX0_1, t_HX0_2]) rfl ⟨⟨_, _, _, _, _, _, _, rfl, HGR.out, ⟨by omega, by omega⟩, ⟨by omega, by omega⟩, ⟨by omega, by omega⟩, ⟨by omega, by omega⟩⟩, ((((HW.out.belowOf HBW.out (by omega)).setCell (p := ⟨w.heap.size, 0, none⟩) (by show w.heap.size ≤ w.heap.size; omega) (.int .i64 P)).setCell (p := ⟨w.heap.size, 1, none⟩) (by show w.heap.size ≤ w.heap.size; omega) (.int .i64 Q)).setCell (p := ⟨w.heap.size, 2, none⟩) (by show w.heap.size ≤ w.heap.size; omega) (.int .i64 G))⟩
end Go.Proofs.Ytboahnklilmdpaa

/- Draws: decryptions (printed by gen_hom2.py). -/
import Derived.Test.YtboahnklilmdpaaDrC2
import Derived.Test.YtboahnklilmdpaaHom1
namespace Go.Proofs.Ytboahnklilmdpaa
open Go.RowKit
set_option linter.unusedSimpArgs false
set_option linter.unusedVariables false

theorem bd_small {x : Int} (h : Small x) : -10 ≤ x ∧ x ≤ 2000000010 := ⟨by have := h.1; omega, by have := h.2; omega⟩
set_option maxRecDepth 100000 in
set_option maxHeartbeats 4000000 in
theorem spec_DrawDecryptExp (v : Value) (w : World) (h : Bytes w v) :
    Calls Try.prog 39 #[v] w fun e w' => (∃ (P : Int) (Q : Int) (G : Int) (xr1 : Int) (xr2 : Int) (yr2 : Int) (xr3 : Int), e = .returned (.tuple #[.agg #[.int .i64 P, .int .i64 Q, .int .i64 G], .int .i64 xr1, .agg #[.int .i64 xr2, .int .i64 yr2], .int .i64 xr3]) ∧ GrB ⟨P, Q, G⟩ ∧ (-10 ≤ xr1 ∧ xr1 ≤ 2000000010) ∧ ((-10 ≤ xr2 ∧ xr2 ≤ 2000000010) ∧ (-10 ≤ yr2 ∧ yr2 ≤ 2000000010)) ∧ (-10 ≤ xr3 ∧ xr3 ≤ 2000000010)) ∧ Below w.heap.size w w' := by
  obtain ⟨a, m, c, rfl, hk1, hk2, hv⟩ := h
  have HY : Hid (Bytes w (.slice a m c)) := ⟨a, m, c, rfl, hk1, hk2, hv⟩
  clear hv
  unfold maxLen at hk2
  obtain ⟨U, hU⟩ : ∃ U, U = (w.alloc (.cells #[.int .i64 0, .int .i64 0, .int .i64 0] 39)).alloc (.cells #[.int .i64 0, .int .i64 0] 58) := ⟨_, rfl⟩
  have hbU : Below w.heap.size w U := by rw [hU]; (repeat (first | exact Below.refl _ _ | assumption | refine Below.drew ?_ | refine Below.alloc ?_ (by first | (simp; done) | (simp; omega)) _ | refine Below.setCell ?_ (by first | (simp; done) | (simp; omega)) _))
  have HX0 : Hid (BoxN U w.heap.size 39 [.int .i64 0, .int .i64 0, .int .i64 0]) := by unfold Hid; rw [hU]; have h := ((BoxN.new w [.int .i64 0, .int .i64 0, .int .i64 0] 39).alloc (.cells #[.int .i64 0, .int .i64 0] 58)); simpa using h
  have HX1 : Hid (BoxN U (w.heap.size + 1) 58 [.int .i64 0, .int .i64 0]) := by unfold Hid; rw [hU]; have h := (BoxN.new (w.alloc (.cells #[.int .i64 0, .int .i64 0, .int .i64 0] 39)) [.int .i64 0, .int .i64 0] 58); simpa using h
  have hsU : U.heap.size = w.heap.size + 1 + 1 := by rw [hU]; simp
  obtain ⟨W, hW⟩ : ∃ W, W = U.alloc (.cells #[.slice a m c, .int .i64 0, .int .u64 0] 170) := ⟨_, rfl⟩
  have HC : Hid (Cur U W U.heap.size 0) := by unfold Hid; rw [hW]; exact Cur.new U (HY.out.below hbU)
  have hbW : Below U.heap.size U W := by rw [hW]; exact (Below.refl _ _).alloc (Nat.le_refl _) _
  have HBW := Lib.hid (Below.next hbU hbW)
  have HUB := Lib.hid hbW
  replace HX0 := Lib.hid (HX0.out.below hbW)
  replace HX1 := Lib.hid (HX1.out.below hbW)
  obtain ⟨g, hg⟩ : ∃ g, g = U.heap.size := ⟨_, rfl⟩
  have HSU : Hid (w.heap.size + 1 + 1 = g) := by unfold Hid; rw [hg, hsU]
  have HWS : Hid (W.heap.size = g + 1) := by unfold Hid; rw [hW, hg]; simp
  go_enter Try.func39, Try.ntmps39
  go_wp2_with fail
  rw [← hU, ← hW]
  rw [HSU.out]
  rw [← hg] at HC HUB
  have HUS : Hid (U.heap.size = g) := hg.symm
  have hwg : w.heap.size + 2 = g := HSU.out
  have hsW := HWS.out
  have HW := Lib.hid (Within.refl g (g + 1) W)
  have HUC : Hid (Below U.heap.size U W) := by unfold Hid; rw [HUS.out]; exact HUB.out
  clear hU hW hbU hbW hsU hg
  have z_0_0 := HX0.out.cell (i := 0) rfl
  have z_0_1 := HX0.out.cell (i := 1) rfl
  have z_0_2 := HX0.out.cell (i := 2) rfl
  have z_1_0 := HX1.out.cell (i := 0) rfl
  have z_1_1 := HX1.out.cell (i := 1) rfl
  try (go_wp2_with fail)
  clear z_0_0 z_0_1 z_0_2 z_1_0 z_1_1
  refine (spec_anyGroup U g _ _ HC.out (HW.out.belowOf HUC.out (Nat.le_of_eq HUS.out)) (by omega)).mono ?_
  rintro e u1 ⟨⟨P, Q, G, rfl, P1, Q1, G1⟩, hc, hw⟩
  have HGR : Hid (GrB ⟨P, Q, G⟩) := ⟨P1, Q1, G1⟩
  clear P1 Q1 G1
  have hsz1 := hw.size
  replace HX0 := Lib.hid (HX0.out.kept hw (.inl (by omega)))
  replace HX1 := Lib.hid (HX1.out.kept hw (.inl (by omega)))
  replace HW := Lib.hid (HW.out.trans hw)
  replace HC := Lib.hid hc
  clear hc hw
  have z_0_0 := HX0.out.cell (i := 0) rfl
  have z_0_1 := HX0.out.cell (i := 1) rfl
  have z_0_2 := HX0.out.cell (i := 2) rfl
  have z_1_0 := HX1.out.cell (i := 0) rfl
  have z_1_1 := HX1.out.cell (i := 1) rfl
  have lt_HX0 := HX0.out.lt
  have lt_HX1 := HX1.out.lt
  obtain ⟨V2, hV⟩ : ∃ V, V = u1.alloc (.cells #[.int .i64 P, .int .i64 Q, .int .i64 G] 39) := ⟨_, rfl⟩
  have hbV : Below u1.heap.size u1 V2 := by rw [hV]; (repeat (first | exact Below.refl _ _ | assumption | refine Below.drew ?_ | refine Below.alloc ?_ (by first | (simp; done) | (simp; omega)) _ | refine Below.setCell ?_ (by first | (simp; done) | (simp; omega)) _))
  have HZ1 : Hid (BoxN V2 u1.heap.size 39 [.int .i64 P, .int .i64 Q, .int .i64 G]) := by unfold Hid; rw [hV]; have h := (BoxN.new u1 [.int .i64 P, .int .i64 Q, .int .i64 G] 39); simpa using h
  have hgc : g < u1.heap.size := HC.out.lt
  go_wp2_with fail
  rw [← hV]
  have hsV2 : V2.heap.size = u1.heap.size + 1 := by rw [hV]; simp
  clear hV hgc
  replace HX0 := Lib.hid (HX0.out.below hbV)
  replace HX1 := Lib.hid (HX1.out.below hbV)
  replace HW := Lib.hid (HW.out.trans (Within.of_below hbV))
  replace HC := Lib.hid (HC.out.keep hbV)
  clear hbV
  clear z_0_0 z_0_1 z_0_2 z_1_0 z_1_1
  clear lt_HX0
  clear lt_HX1
  refine (spec_anyExpo U g _ P Q G _ HC.out (HW.out.belowOf HUC.out (Nat.le_of_eq HUS.out)) (by omega) HGR.out).mono ?_
  rintro e u3 ⟨⟨x3, rfl, x3l, x3u⟩, hc, hw⟩
  have hsz3 := hw.size
  replace HX0 := Lib.hid (HX0.out.kept hw (.inl (by omega)))
  replace HX1 := Lib.hid (HX1.out.kept hw (.inl (by omega)))
  replace HZ1 := Lib.hid (HZ1.out.kept hw (.inr (by omega)))
  replace HW := Lib.hid (HW.out.trans hw)
  replace HC := Lib.hid hc
  clear hc hw
  have z_0_0 := HX0.out.cell (i := 0) rfl
  have z_0_1 := HX0.out.cell (i := 1) rfl
  have z_0_2 := HX0.out.cell (i := 2) rfl
  have z_1_0 := HX1.out.cell (i := 0) rfl
  have z_1_1 := HX1.out.cell (i := 1) rfl
  have z_2_0 := HZ1.out.cell (i := 0) rfl
  have z_2_1 := HZ1.out.cell (i := 1) rfl
  have z_2_2 := HZ1.out.cell (i := 2) rfl
  have lt_HX0 := HX0.out.lt
  have lt_HX1 := HX1.out.lt
  have lt_HZ1 := HZ1.out.lt
  obtain ⟨V4, hV⟩ : ∃ V, V = u3.alloc (.cells #[.int .i64 0, .int .i64 5, .int .i64 20, .int .i64 1000, .int .i64 1000000, .int .i64 1000001, .int .i64 (-1)] 3) := ⟨_, rfl⟩
  have hbV : Below u3.heap.size u3 V4 := by rw [hV]; (repeat (first | exact Below.refl _ _ | assumption | refine Below.drew ?_ | refine Below.alloc ?_ (by first | (simp; done) | (simp; omega)) _ | refine Below.setCell ?_ (by first | (simp; done) | (simp; omega)) _))
  have HO2 : Hid (OwnI V4 u3.heap.size (.slice (some ⟨u3.heap.size, 0, none⟩) 7 7) [0, 5, 20, 1000, 1000000, 1000001, (-1)]) := by unfold Hid; rw [hV]; have h := (OwnI.lit (B := u3.heap.size) u3 (by simp) (l := [0, 5, 20, 1000, 1000000, 1000001, (-1)]) (AllI64.cons ⟨by decide, by decide⟩ (AllI64.cons ⟨by decide, by decide⟩ (AllI64.cons ⟨by decide, by decide⟩ (AllI64.cons ⟨by decide, by decide⟩ (AllI64.cons ⟨by decide, by decide⟩ (AllI64.cons ⟨by decide, by decide⟩ (AllI64.cons ⟨by decide, by decide⟩ AllI64.nil))))))) rfl (by simp [maxLen]) 7 rfl); simpa using h
  have HZ3 : Hid (BoxN V4 u3.heap.size 3 [.int .i64 0, .int .i64 5, .int .i64 20, .int .i64 1000, .int .i64 1000000, .int .i64 1000001, .int .i64 (-1)]) := by unfold Hid; rw [hV]; have h := (BoxN.new u3 [.int .i64 0, .int .i64 5, .int .i64 20, .int .i64 1000, .int .i64 1000000, .int .i64 1000001, .int .i64 (-1)] 3); simpa using h
  have hgc : g < u3.heap.size := HC.out.lt
  go_wp2_with fail
  rw [← hV]
  have hsV4 : V4.heap.size = u3.heap.size + 1 := by rw [hV]; simp
  clear hV hgc
  replace HX0 := Lib.hid (HX0.out.below hbV)
  replace HX1 := Lib.hid (HX1.out.below hbV)
  replace HZ1 := Lib.hid (HZ1.out.below hbV)
  replace HW := Lib.hid (HW.out.trans (Within.of_below hbV))
  replace HC := Lib.hid (HC.out.keep hbV)
  clear hbV
  clear z_0_0 z_0_1 z_0_2 z_1_0 z_1_1 z_2_0 z_2_1 z_2_2
  clear lt_HX0
  clear lt_HX1
  clear lt_HZ1
  refine (spec_among U g _ _ [0, 5, 20, 1000, 1000000, 1000001, (-1)] _ HC.out (HW.out.belowOf HUC.out (Nat.le_of_eq HUS.out)) (by omega) (Apart.of_ownI HO2.out (by omega)) (by decide)).mono ?_
  rintro e u5 ⟨⟨x5, rfl, hm5⟩, hc, hw⟩
  have x5l : -10 ≤ x5 := by simp at hm5; omega
  have x5u : x5 ≤ 2000000010 := by simp at hm5; omega
  clear hm5
  have hsz5 := hw.size
  replace HX0 := Lib.hid (HX0.out.kept hw (.inl (by omega)))
  replace HX1 := Lib.hid (HX1.out.kept hw (.inl (by omega)))
  replace HZ1 := Lib.hid (HZ1.out.kept hw (.inr (by omega)))
  replace HZ3 := Lib.hid (HZ3.out.kept hw (.inr (by omega)))
  replace HW := Lib.hid (HW.out.trans hw)
  replace HC := Lib.hid hc
  clear hc hw
  have z_0_0 := HX0.out.cell (i := 0) rfl
  have z_0_1 := HX0.out.cell (i := 1) rfl
  have z_0_2 := HX0.out.cell (i := 2) rfl
  have z_1_0 := HX1.out.cell (i := 0) rfl
  have z_1_1 := HX1.out.cell (i := 1) rfl
  have z_2_0 := HZ1.out.cell (i := 0) rfl
  have z_2_1 := HZ1.out.cell (i := 1) rfl
  have z_2_2 := HZ1.out.cell (i := 2) rfl
  have z_3_0 := HZ3.out.cell (i := 0) rfl
  have z_3_1 := HZ3.out.cell (i := 1) rfl
  have z_3_2 := HZ3.out.cell (i := 2) rfl
  have z_3_3 := HZ3.out.cell (i := 3) rfl
  have z_3_4 := HZ3.out.cell (i := 4) rfl
  have z_3_5 := HZ3.out.cell (i := 5) rfl
  have z_3_6 := HZ3.out.cell (i := 6) rfl
  try (go_wp2_with fail)
  clear z_0_0 z_0_1 z_0_2 z_1_0 z_1_1 z_2_0 z_2_1 z_2_2 z_3_0 z_3_1 z_3_2 z_3_3 z_3_4 z_3_5 z_3_6
  refine (spec_one U g _ 2 _ HC.out (HW.out.belowOf HUC.out (Nat.le_of_eq HUS.out)) (by omega) ).mono ?_
  rintro e u6 ⟨⟨b6, rfl⟩, hc, hw⟩
  have hsz6 := hw.size
  replace HX0 := Lib.hid (HX0.out.kept hw (.inl (by omega)))
  replace HX1 := Lib.hid (HX1.out.kept hw (.inl (by omega)))
  replace HZ1 := Lib.hid (HZ1.out.kept hw (.inr (by omega)))
  replace HZ3 := Lib.hid (HZ3.out.kept hw (.inr (by omega)))
  replace HW := Lib.hid (HW.out.trans hw)
  replace HC := Lib.hid hc
  clear hc hw
  cases b6 with
  | false =>
    have z_0_0 := HX0.out.cell (i := 0) rfl
    have z_0_1 := HX0.out.cell (i := 1) rfl
    have z_0_2 := HX0.out.cell (i := 2) rfl
    have z_1_0 := HX1.out.cell (i := 0) rfl
    have z_1_1 := HX1.out.cell (i := 1) rfl
    have z_2_0 := HZ1.out.cell (i := 0) rfl
    have z_2_1 := HZ1.out.cell (i := 1) rfl
    have z_2_2 := HZ1.out.cell (i := 2) rfl
    have z_3_0 := HZ3.out.cell (i := 0) rfl
    have z_3_1 := HZ3.out.cell (i := 1) rfl
    have z_3_2 := HZ3.out.cell (i := 2) rfl
    have z_3_3 := HZ3.out.cell (i := 3) rfl
    have z_3_4 := HZ3.out.cell (i := 4) rfl
    have z_3_5 := HZ3.out.cell (i := 5) rfl
    have z_3_6 := HZ3.out.cell (i := 6) rfl
    try (go_wp2_with fail)
    refine wp_region_noPanic ?_
    refine wp_region_Q1 (Within g (g + 1)) (DrawS U u6 g _ 1000000000 (fun w' => w'.cell? ⟨u1.heap.size, 0, none⟩ = some (.int .i64 P) ∧ w'.cell? ⟨u1.heap.size, 1, none⟩ = some (.int .i64 Q) ∧ w'.cell? ⟨u1.heap.size, 2, none⟩ = some (.int .i64 G) ∧ w'.cell? ⟨u3.heap.size, 0, none⟩ = some (.int .i64 0) ∧ w'.cell? ⟨u3.heap.size, 1, none⟩ = some (.int .i64 5) ∧ w'.cell? ⟨u3.heap.size, 2, none⟩ = some (.int .i64 20) ∧ w'.cell? ⟨u3.heap.size, 3, none⟩ = some (.int .i64 1000) ∧ w'.cell? ⟨u3.heap.size, 4, none⟩ = some (.int .i64 1000000) ∧ w'.cell? ⟨u3.heap.size, 5, none⟩ = some (.int .i64 1000001) ∧ w'.cell? ⟨u3.heap.size, 6, none⟩ = some (.int .i64 (-1)))) 12 [1, 5] [(0, []), (2, []), (3, []), (4, [1, 0])] [6, 7, 8, 9] (by kernel_rfl) (by kernel_rfl) (by kernel_rfl) (by kernel_rfl) (by kernel_rfl) rfl (fun _ _ _ _ h => h) (DrawS.good _ _ _ _ _ _) ⟨(Within.refl _ _ _).drew, by simpa using HC.out.keep (Below.refl _ _).drew, ⟨box_at z_2_0 (Below.refl _ _).drew, box_at z_2_1 (Below.refl _ _).drew, box_at z_2_2 (Below.refl _ _).drew, box_at z_3_0 (Below.refl _ _).drew, box_at z_3_1 (Below.refl _ _).drew, box_at z_3_2 (Below.refl _ _).drew, box_at z_3_3 (Below.refl _ _).drew, box_at z_3_4 (Below.refl _ _).drew, box_at z_3_5 (Below.refl _ _).drew, box_at z_3_6 (Below.refl _ _).drew⟩⟩ ?_
    simp only [pickP, pickN, List.getElem?_cons_zero, List.getElem?_cons_succ]
    refine' wpPre_read _ (fun w' => ?_) ?_; rotate_left
    · go_simp
      (try with_reducible rfl)
    refine' wpPre_read _ (fun w' => ?_) ?_; rotate_left
    · go_simp
      (try with_reducible rfl)
    refine wpPre_nil (fun _ => ?_)
    simp only [Act.put, List.setIfInBounds_toArray, List.set_cons_zero, List.set_cons_succ]
    iterate 3 (refine' chainQ_read (DrawS.good _ _ _ _ _ _) _ rfl rfl (fun m w' hm' hS' => ?_) ?_; rotate_left; · (simp only [lookP, allP, Act.put, List.getElem?_cons_zero, List.getElem?_cons_succ, List.setIfInBounds_toArray, List.set_cons_zero, List.set_cons_succ]; (try dsimp only [DrawS] at hS'); go_simp; (try with_reducible rfl)))
    -- 4: call { callee := value (func 146), args := #[t56, t57], argTypes := #[167, 39] }
    refine chainQ_do (d := (some 58)) (fun v u => ∃ (xq4 : Int) (yq4 : Int), v = (.agg #[.int .i64 xq4, .int .i64 yq4]) ∧ ((-10 ≤ xq4 ∧ xq4 ≤ 2000000010) ∧ (-10 ≤ yq4 ∧ yq4 ≤ 2000000010))) (fun v w1 w2 hw h => h) rfl rfl (fun m w' hm' hS' => ?_) ?_
    · simp only [lookP, allP, Act.put, List.getElem?_cons_zero, List.getElem?_cons_succ, List.setIfInBounds_toArray, List.set_cons_zero, List.set_cons_succ]
      intro K hK
      replace hm' : m < 4 := hm'
      go_simp
      go_at_call 146
      refine (spec_anyCipher U g _ P Q G _ hS'.2.1 (hS'.1.belowOf (HW.out.belowOf HUC.out (Nat.le_of_eq HUS.out)) (by have := HUS.out; omega)) (by omega) HGR.out).mono ?_
      rintro e u ⟨⟨xq4, yq4, rfl, ⟨xq4l, xq4u⟩, ⟨yq4l, yq4u⟩⟩, hc, hw⟩
      exact hK.out _ _ hw ⟨hS'.1.trans hw, hc.mono (by omega), ⟨within_at (hS'.1.trans hw) z_2_0 (.inr (by omega)), within_at (hS'.1.trans hw) z_2_1 (.inr (by omega)), within_at (hS'.1.trans hw) z_2_2 (.inr (by omega)), within_at (hS'.1.trans hw) z_3_0 (.inr (by omega)), within_at (hS'.1.trans hw) z_3_1 (.inr (by omega)), within_at (hS'.1.trans hw) z_3_2 (.inr (by omega)), within_at (hS'.1.trans hw) z_3_3 (.inr (by omega)), within_at (hS'.1.trans hw) z_3_4 (.inr (by omega)), within_at (hS'.1.trans hw) z_3_5 (.inr (by omega)), within_at (hS'.1.trans hw) z_3_6 (.inr (by omega))⟩⟩ ⟨xq4, yq4, rfl, ⟨⟨xq4l, xq4u⟩, ⟨yq4l, yq4u⟩⟩⟩
    refine chainQ_nil (fun u7 hS' => ?_)
    simp only [allP, Act.put, List.setIfInBounds_toArray, List.set_cons_zero, List.set_cons_succ]
    intro x4 hx4
    replace hS' : DrawS U u6 g _ 1000000000 _ 4 u7 := hS'
    obtain ⟨hw, hc, hC⟩ := hS'
    obtain ⟨xq4, yq4, rfl, ⟨xq4l, xq4u⟩, yq4l, yq4u⟩ := hx4
    have hsz7 := hw.size
    replace HX0 := Lib.hid (HX0.out.kept hw (.inl (by omega)))
    replace HX1 := Lib.hid (HX1.out.kept hw (.inl (by omega)))
    replace HZ1 := Lib.hid (HZ1.out.kept hw (.inr (by omega)))
    replace HZ3 := Lib.hid (HZ3.out.kept hw (.inr (by omega)))
    replace HW := Lib.hid (HW.out.trans hw)
    replace HC := Lib.hid hc
    clear hc hw hC
    clear z_0_0 z_0_1 z_0_2 z_1_0 z_1_1 z_2_0 z_2_1 z_2_2 z_3_0 z_3_1 z_3_2 z_3_3 z_3_4 z_3_5 z_3_6
    have r_HX0_0 := HX0.out.cell (i := 0) rfl
    have r_HX0_1 := HX0.out.cell (i := 1) rfl
    have r_HX0_2 := HX0.out.cell (i := 2) rfl
    have fr_HX0 := fun j => HX0.out.frozen j
    have r_HX1_0 := HX1.out.cell (i := 0) rfl
    have r_HX1_1 := HX1.out.cell (i := 1) rfl
    have fr_HX1 := fun j => HX1.out.frozen j
    go_wp2_with fail
    refine NoPanic.normal ?_
    have FHX0 := Lib.hid (((((HX0.out.set 0 (.int .i64 P)).set 1 (.int .i64 Q)).set 2 (.int .i64 G)).other (b' := w.heap.size + 1) (by omega) 0 (.int .i64 xq4)).other (b' := w.heap.size + 1) (by omega) 1 (.int .i64 yq4))
    have FHX1 := Lib.hid (((((HX1.out.other (b' := w.heap.size) (by omega) 0 (.int .i64 P)).other (b' := w.heap.size) (by omega) 1 (.int .i64 Q)).other (b' := w.heap.size) (by omega) 2 (.int .i64 G)).set 0 (.int .i64 xq4)).set 1 (.int .i64 yq4))
    clear r_HX0_0 r_HX0_1 r_HX0_2 fr_HX0 r_HX1_0 r_HX1_1 fr_HX1
    have t_HX0_0 := FHX0.out.cell (i := 0) rfl
    have t_HX0_1 := FHX0.out.cell (i := 1) rfl
    have t_HX0_2 := FHX0.out.cell (i := 2) rfl
    have t_HX1_0 := FHX1.out.cell (i := 0) rfl
    have t_HX1_1 := FHX1.out.cell (i := 1) rfl
    try (go_wp2_with fail)
    have HYS := Lib.hid ((((((Within.refl w.heap.size (w.heap.size + 2) u7).setCell (b := w.heap.size) (by omega) (by omega) 0 (.int .i64 P)).setCell (b := w.heap.size) (by omega) (by omega) 1 (.int .i64 Q)).setCell (b := w.heap.size) (by omega) (by omega) 2 (.int .i64 G)).setCell (b := w.heap.size + 1) (by omega) (by omega) 0 (.int .i64 xq4)).setCell (b := w.heap.size + 1) (by omega) (by omega) 1 (.int .i64 yq4))
    refine bodyPost_ret (v := .tuple #[.agg #[.int .i64 P, .int .i64 Q, .int .i64 G], .int .i64 x3, .agg #[.int .i64 xq4, .int .i64 yq4], .int .i64 x5]) (by simp [results, Try.results39, go_sem, t_HX0_0, t_HX0_1, t_HX0_2, t_HX1_0, t_HX1_1]) rfl ⟨⟨_, _, _, _, _, _, _, rfl, HGR.out, ⟨by omega, by omega⟩, ⟨⟨by omega, by omega⟩, ⟨by omega, by omega⟩⟩, ⟨by omega, by omega⟩⟩, ((((((HW.out.belowOf HBW.out (by omega)).setCell (p := ⟨w.heap.size, 0, none⟩) (by show w.heap.size ≤ w.heap.size; omega) (.int .i64 P)).setCell (p := ⟨w.heap.size, 1, none⟩) (by show w.heap.size ≤ w.heap.size; omega) (.int .i64 Q)).setCell (p := ⟨w.heap.size, 2, none⟩) (by show w.heap.size ≤ w.heap.size; omega) (.int .i64 G)).setCell (p := ⟨w.heap.size + 1, 0, none⟩) (by show w.heap.size ≤ w.heap.size + 1; omega) (.int .i64 xq4)).setCell (p := ⟨w.heap.size + 1, 1, none⟩) (by show w.heap.size ≤ w.heap.size + 1; omega) (.int .i64 yq4))⟩
  | true =>
    have z_0_0 := HX0.out.cell (i := 0) rfl
    have z_0_1 := HX0.out.cell (i := 1) rfl
    have z_0_2 := HX0.out.cell (i := 2) rfl
    have z_1_0 := HX1.out.cell (i := 0) rfl
    have z_1_1 := HX1.out.cell (i := 1) rfl
    have z_2_0 := HZ1.out.cell (i := 0) rfl
    have z_2_1 := HZ1.out.cell (i := 1) rfl
    have z_2_2 := HZ1.out.cell (i := 2) rfl
    have z_3_0 := HZ3.out.cell (i := 0) rfl
    have z_3_1 := HZ3.out.cell (i := 1) rfl
    have z_3_2 := HZ3.out.cell (i := 2) rfl
    have z_3_3 := HZ3.out.cell (i := 3) rfl
    have z_3_4 := HZ3.out.cell (i := 4) rfl
    have z_3_5 := HZ3.out.cell (i := 5) rfl
    have z_3_6 := HZ3.out.cell (i := 6) rfl
    try (go_wp2_with fail)
    clear z_0_0 z_0_1 z_0_2 z_1_0 z_1_1 z_2_0 z_2_1 z_2_2 z_3_0 z_3_1 z_3_2 z_3_3 z_3_4 z_3_5 z_3_6
    refine (spec_l2Good ⟨P, Q, G⟩ _).mono ?_
    rintro e u7 ⟨rfl, hb⟩
    obtain ⟨q7, hq7⟩ : ∃ r, goodG ⟨P, Q, G⟩ = r := ⟨_, rfl⟩
    have Hq7 := Lib.hid hq7
    rw [hq7]
    clear hq7
    have hsz7 := hb.size
    replace HX0 := Lib.hid (HX0.out.below hb)
    replace HX1 := Lib.hid (HX1.out.below hb)
    replace HZ1 := Lib.hid (HZ1.out.below hb)
    replace HZ3 := Lib.hid (HZ3.out.below hb)
    replace HW := Lib.hid (HW.out.trans (Within.of_below hb))
    replace HC := Lib.hid (HC.out.keep hb)
    clear hb
    cases q7 with
    | false =>
      have z_0_0 := HX0.out.cell (i := 0) rfl
      have z_0_1 := HX0.out.cell (i := 1) rfl
      have z_0_2 := HX0.out.cell (i := 2) rfl
      have z_1_0 := HX1.out.cell (i := 0) rfl
      have z_1_1 := HX1.out.cell (i := 1) rfl
      have z_2_0 := HZ1.out.cell (i := 0) rfl
      have z_2_1 := HZ1.out.cell (i := 1) rfl
      have z_2_2 := HZ1.out.cell (i := 2) rfl
      have z_3_0 := HZ3.out.cell (i := 0) rfl
      have z_3_1 := HZ3.out.cell (i := 1) rfl
      have z_3_2 := HZ3.out.cell (i := 2) rfl
      have z_3_3 := HZ3.out.cell (i := 3) rfl
      have z_3_4 := HZ3.out.cell (i := 4) rfl
      have z_3_5 := HZ3.out.cell (i := 5) rfl
      have z_3_6 := HZ3.out.cell (i := 6) rfl
      try (go_wp2_with fail)
      refine wp_region_noPanic ?_
      refine wp_region_Q1 (Within g (g + 1)) (DrawS U u7 g _ 1000000000 (fun w' => w'.cell? ⟨u1.heap.size, 0, none⟩ = some (.int .i64 P) ∧ w'.cell? ⟨u1.heap.size, 1, none⟩ = some (.int .i64 Q) ∧ w'.cell? ⟨u1.heap.size, 2, none⟩ = some (.int .i64 G) ∧ w'.cell? ⟨u3.heap.size, 0, none⟩ = some (.int .i64 0) ∧ w'.cell? ⟨u3.heap.size, 1, none⟩ = some (.int .i64 5) ∧ w'.cell? ⟨u3.heap.size, 2, none⟩ = some (.int .i64 20) ∧ w'.cell? ⟨u3.heap.size, 3, none⟩ = some (.int .i64 1000) ∧ w'.cell? ⟨u3.heap.size, 4, none⟩ = some (.int .i64 1000000) ∧ w'.cell? ⟨u3.heap.size, 5, none⟩ = some (.int .i64 1000001) ∧ w'.cell? ⟨u3.heap.size, 6, none⟩ = some (.int .i64 (-1)))) 12 [1, 5] [(0, []), (2, []), (3, []), (4, [1, 0])] [6, 7, 8, 9] (by kernel_rfl) (by kernel_rfl) (by kernel_rfl) (by kernel_rfl) (by kernel_rfl) rfl (fun _ _ _ _ h => h) (DrawS.good _ _ _ _ _ _) ⟨(Within.refl _ _ _).drew, by simpa using HC.out.keep (Below.refl _ _).drew, ⟨box_at z_2_0 (Below.refl _ _).drew, box_at z_2_1 (Below.refl _ _).drew, box_at z_2_2 (Below.refl _ _).drew, box_at z_3_0 (Below.refl _ _).drew, box_at z_3_1 (Below.refl _ _).drew, box_at z_3_2 (Below.refl _ _).drew, box_at z_3_3 (Below.refl _ _).drew, box_at z_3_4 (Below.refl _ _).drew, box_at z_3_5 (Below.refl _ _).drew, box_at z_3_6 (Below.refl _ _).drew⟩⟩ ?_
      simp only [pickP, pickN, List.getElem?_cons_zero, List.getElem?_cons_succ]
      refine' wpPre_read _ (fun w' => ?_) ?_; rotate_left
      · go_simp
        (try with_reducible rfl)
      refine' wpPre_read _ (fun w' => ?_) ?_; rotate_left
      · go_simp
        (try with_reducible rfl)
      refine wpPre_nil (fun _ => ?_)
      simp only [Act.put, List.setIfInBounds_toArray, List.set_cons_zero, List.set_cons_succ]
      iterate 3 (refine' chainQ_read (DrawS.good _ _ _ _ _ _) _ rfl rfl (fun m w' hm' hS' => ?_) ?_; rotate_left; · (simp only [lookP, allP, Act.put, List.getElem?_cons_zero, List.getElem?_cons_succ, List.setIfInBounds_toArray, List.set_cons_zero, List.set_cons_succ]; (try dsimp only [DrawS] at hS'); go_simp; (try with_reducible rfl)))
      -- 4: call { callee := value (func 146), args := #[t56, t57], argTypes := #[167, 39] }
      refine chainQ_do (d := (some 58)) (fun v u => ∃ (xq4 : Int) (yq4 : Int), v = (.agg #[.int .i64 xq4, .int .i64 yq4]) ∧ ((-10 ≤ xq4 ∧ xq4 ≤ 2000000010) ∧ (-10 ≤ yq4 ∧ yq4 ≤ 2000000010))) (fun v w1 w2 hw h => h) rfl rfl (fun m w' hm' hS' => ?_) ?_
      · simp only [lookP, allP, Act.put, List.getElem?_cons_zero, List.getElem?_cons_succ, List.setIfInBounds_toArray, List.set_cons_zero, List.set_cons_succ]
        intro K hK
        replace hm' : m < 4 := hm'
        go_simp
        go_at_call 146
        refine (spec_anyCipher U g _ P Q G _ hS'.2.1 (hS'.1.belowOf (HW.out.belowOf HUC.out (Nat.le_of_eq HUS.out)) (by have := HUS.out; omega)) (by omega) HGR.out).mono ?_
        rintro e u ⟨⟨xq4, yq4, rfl, ⟨xq4l, xq4u⟩, ⟨yq4l, yq4u⟩⟩, hc, hw⟩
        exact hK.out _ _ hw ⟨hS'.1.trans hw, hc.mono (by omega), ⟨within_at (hS'.1.trans hw) z_2_0 (.inr (by omega)), within_at (hS'.1.trans hw) z_2_1 (.inr (by omega)), within_at (hS'.1.trans hw) z_2_2 (.inr (by omega)), within_at (hS'.1.trans hw) z_3_0 (.inr (by omega)), within_at (hS'.1.trans hw) z_3_1 (.inr (by omega)), within_at (hS'.1.trans hw) z_3_2 (.inr (by omega)), within_at (hS'.1.trans hw) z_3_3 (.inr (by omega)), within_at (hS'.1.trans hw) z_3_4 (.inr (by omega)), within_at (hS'.1.trans hw) z_3_5 (.inr (by omega)), within_at (hS'.1.trans hw) z_3_6 (.inr (by omega))⟩⟩ ⟨xq4, yq4, rfl, ⟨⟨xq4l, xq4u⟩, ⟨yq4l, yq4u⟩⟩⟩
      refine chainQ_nil (fun u8 hS' => ?_)
      simp only [allP, Act.put, List.setIfInBounds_toArray, List.set_cons_zero, List.set_cons_succ]
      intro x4 hx4
      replace hS' : DrawS U u7 g _ 1000000000 _ 4 u8 := hS'
      obtain ⟨hw, hc, hC⟩ := hS'
      obtain ⟨xq4, yq4, rfl, ⟨xq4l, xq4u⟩, yq4l, yq4u⟩ := hx4
      have hsz8 := hw.size
      replace HX0 := Lib.hid (HX0.out.kept hw (.inl (by omega)))
      replace HX1 := Lib.hid (HX1.out.kept hw (.inl (by omega)))
      replace HZ1 := Lib.hid (HZ1.out.kept hw (.inr (by omega)))
      replace HZ3 := Lib.hid (HZ3.out.kept hw (.inr (by omega)))
      replace HW := Lib.hid (HW.out.trans hw)
      replace HC := Lib.hid hc
      clear hc hw hC
      clear z_0_0 z_0_1 z_0_2 z_1_0 z_1_1 z_2_0 z_2_1 z_2_2 z_3_0 z_3_1 z_3_2 z_3_3 z_3_4 z_3_5 z_3_6
      have r_HX0_0 := HX0.out.cell (i := 0) rfl
      have r_HX0_1 := HX0.out.cell (i := 1) rfl
      have r_HX0_2 := HX0.out.cell (i := 2) rfl
      have fr_HX0 := fun j => HX0.out.frozen j
      have r_HX1_0 := HX1.out.cell (i := 0) rfl
      have r_HX1_1 := HX1.out.cell (i := 1) rfl
      have fr_HX1 := fun j => HX1.out.frozen j
      go_wp2_with fail
      refine NoPanic.normal ?_
      have FHX0 := Lib.hid (((((HX0.out.set 0 (.int .i64 P)).set 1 (.int .i64 Q)).set 2 (.int .i64 G)).other (b' := w.heap.size + 1) (by omega) 0 (.int .i64 xq4)).other (b' := w.heap.size + 1) (by omega) 1 (.int .i64 yq4))
      have FHX1 := Lib.hid (((((HX1.out.other (b' := w.heap.size) (by omega) 0 (.int .i64 P)).other (b' := w.heap.size) (by omega) 1 (.int .i64 Q)).other (b' := w.heap.size) (by omega) 2 (.int .i64 G)).set 0 (.int .i64 xq4)).set 1 (.int .i64 yq4))
      clear r_HX0_0 r_HX0_1 r_HX0_2 fr_HX0 r_HX1_0 r_HX1_1 fr_HX1
      have t_HX0_0 := FHX0.out.cell (i := 0) rfl
      have t_HX0_1 := FHX0.out.cell (i := 1) rfl
      have t_HX0_2 := FHX0.out.cell (i := 2) rfl
      have t_HX1_0 := FHX1.out.cell (i := 0) rfl
      have t_HX1_1 := FHX1.out.cell (i := 1) rfl
      try (go_wp2_with fail)
      have HYS := Lib.hid ((((((Within.refl w.heap.size (w.heap.size + 2) u8).setCell (b := w.heap.size) (by omega) (by omega) 0 (.int .i64 P)).setCell (b := w.heap.size) (by omega) (by omega) 1 (.int .i64 Q)).setCell (b := w.heap.size) (by omega) (by omega) 2 (.int .i64 G)).setCell (b := w.heap.size + 1) (by omega) (by omega) 0 (.int .i64 xq4)).setCell (b := w.heap.size + 1) (by omega) (by omega) 1 (.int .i64 yq4))
      refine bodyPost_ret (v := .tuple #[.agg #[.int .i64 P, .int .i64 Q, .int .i64 G], .int .i64 x3, .agg #[.int .i64 xq4, .int .i64 yq4], .int .i64 x5]) (by simp [results, Try.results39, go_sem, t_HX0_0, t_HX0_1, t_HX0_2, t_HX1_0, t_HX1_1]) rfl ⟨⟨_, _, _, _, _, _, _, rfl, HGR.out, ⟨by omega, by omega⟩, ⟨⟨by omega, by omega⟩, ⟨by omega, by omega⟩⟩, ⟨by omega, by omega⟩⟩, ((((((HW.out.belowOf HBW.out (by omega)).setCell (p := ⟨w.heap.size, 0, none⟩) (by show w.heap.size ≤ w.heap.size; omega) (.int .i64 P)).setCell (p := ⟨w.heap.size, 1, none⟩) (by show w.heap.size ≤ w.heap.size; omega) (.int .i64 Q)).setCell (p := ⟨w.heap.size, 2, none⟩) (by show w.heap.size ≤ w.heap.size; omega) (.int .i64 G)).setCell (p := ⟨w.heap.size + 1, 0, none⟩) (by show w.heap.size ≤ w.heap.size + 1; omega) (.int .i64 xq4)).setCell (p := ⟨w.heap.size + 1, 1, none⟩) (by show w.heap.size ≤ w.heap.size + 1; omega) (.int .i64 yq4))⟩
    | true =>
      have HGD : Hid (goodG ⟨P, Q, G⟩ = true) := Hq7.out
      have HG := Lib.hid (goodG_ok HGD.out)
      have hgg : Small G := ⟨by have : 2 ≤ G := HG.out.g1; omega, by have h1 : G ≤ P - 1 := HG.out.g2; have h2 : P ≤ 2000000000 := HG.out.p2; omega⟩
      have z_0_0 := HX0.out.cell (i := 0) rfl
      have z_0_1 := HX0.out.cell (i := 1) rfl
      have z_0_2 := HX0.out.cell (i := 2) rfl
      have z_1_0 := HX1.out.cell (i := 0) rfl
      have z_1_1 := HX1.out.cell (i := 1) rfl
      have z_2_0 := HZ1.out.cell (i := 0) rfl
      have z_2_1 := HZ1.out.cell (i := 1) rfl
      have z_2_2 := HZ1.out.cell (i := 2) rfl
      have z_3_0 := HZ3.out.cell (i := 0) rfl
      have z_3_1 := HZ3.out.cell (i := 1) rfl
      have z_3_2 := HZ3.out.cell (i := 2) rfl
      have z_3_3 := HZ3.out.cell (i := 3) rfl
      have z_3_4 := HZ3.out.cell (i := 4) rfl
      have z_3_5 := HZ3.out.cell (i := 5) rfl
      have z_3_6 := HZ3.out.cell (i := 6) rfl
      have lt_HX0 := HX0.out.lt
      have lt_HX1 := HX1.out.lt
      have lt_HZ1 := HZ1.out.lt
      have lt_HZ3 := HZ3.out.lt
      obtain ⟨V8, hV⟩ : ∃ V, V = u7.alloc (.cells #[.int .i64 x3] 3) := ⟨_, rfl⟩
      have hbV : Below u7.heap.size u7 V8 := by rw [hV]; (repeat (first | exact Below.refl _ _ | assumption | refine Below.drew ?_ | refine Below.alloc ?_ (by first | (simp; done) | (simp; omega)) _ | refine Below.setCell ?_ (by first | (simp; done) | (simp; omega)) _))
      have HO4 : Hid (OwnI V8 u7.heap.size (.slice (some ⟨u7.heap.size, 0, none⟩) 1 1) [x3]) := by unfold Hid; rw [hV]; have h := (OwnI.lit (B := u7.heap.size) u7 (by simp) (l := [x3]) (AllI64.cons (⟨by omega, by omega⟩ : I64 _) AllI64.nil) rfl (by simp [maxLen]) 1 rfl); simpa using h
      have HZ5 : Hid (BoxN V8 u7.heap.size 3 [.int .i64 x3]) := by unfold Hid; rw [hV]; have h := (BoxN.new u7 [.int .i64 x3] 3); simpa using h
      have hgc : g < u7.heap.size := HC.out.lt
      go_wp2_with fail
      rw [← hV]
      have hsV8 : V8.heap.size = u7.heap.size + 1 := by rw [hV]; simp
      clear hV hgc
      replace HX0 := Lib.hid (HX0.out.below hbV)
      replace HX1 := Lib.hid (HX1.out.below hbV)
      replace HZ1 := Lib.hid (HZ1.out.below hbV)
      replace HZ3 := Lib.hid (HZ3.out.below hbV)
      replace HW := Lib.hid (HW.out.trans (Within.of_below hbV))
      replace HC := Lib.hid (HC.out.keep hbV)
      clear hbV
      clear z_0_0 z_0_1 z_0_2 z_1_0 z_1_1 z_2_0 z_2_1 z_2_2 z_3_0 z_3_1 z_3_2 z_3_3 z_3_4 z_3_5 z_3_6
      clear lt_HX0
      clear lt_HX1
      clear lt_HZ1
      clear lt_HZ3
      refine (spec_gExps ⟨P, Q, G⟩ _ [x3] _ HG.out HO4.out.ints).mono ?_
      rintro e u9 ⟨rfl, hb⟩
      obtain ⟨q9, hq9⟩ : ∃ r, [x3].all (expB ⟨P, Q, G⟩) = r := ⟨_, rfl⟩
      have Hq9 := Lib.hid hq9
      rw [hq9]
      clear hq9
      have hsz9 := hb.size
      replace HX0 := Lib.hid (HX0.out.below hb)
      replace HX1 := Lib.hid (HX1.out.below hb)
      replace HZ1 := Lib.hid (HZ1.out.below hb)
      replace HZ3 := Lib.hid (HZ3.out.below hb)
      replace HZ5 := Lib.hid (HZ5.out.below hb)
      replace HW := Lib.hid (HW.out.trans (Within.of_below hb))
      replace HC := Lib.hid (HC.out.keep hb)
      clear hb
      cases q9 with
      | false =>
        have z_0_0 := HX0.out.cell (i := 0) rfl
        have z_0_1 := HX0.out.cell (i := 1) rfl
        have z_0_2 := HX0.out.cell (i := 2) rfl
        have z_1_0 := HX1.out.cell (i := 0) rfl
        have z_1_1 := HX1.out.cell (i := 1) rfl
        have z_2_0 := HZ1.out.cell (i := 0) rfl
        have z_2_1 := HZ1.out.cell (i := 1) rfl
        have z_2_2 := HZ1.out.cell (i := 2) rfl
        have z_3_0 := HZ3.out.cell (i := 0) rfl
        have z_3_1 := HZ3.out.cell (i := 1) rfl
        have z_3_2 := HZ3.out.cell (i := 2) rfl
        have z_3_3 := HZ3.out.cell (i := 3) rfl
        have z_3_4 := HZ3.out.cell (i := 4) rfl
        have z_3_5 := HZ3.out.cell (i := 5) rfl
        have z_3_6 := HZ3.out.cell (i := 6) rfl
        have z_4_0 := HZ5.out.cell (i := 0) rfl
        try (go_wp2_with fail)
        refine wp_region_noPanic ?_
        refine wp_region_Q1 (Within g (g + 1)) (DrawS U u9 g _ 1000000000 (fun w' => w'.cell? ⟨u1.heap.size, 0, none⟩ = some (.int .i64 P) ∧ w'.cell? ⟨u1.heap.size, 1, none⟩ = some (.int .i64 Q) ∧ w'.cell? ⟨u1.heap.size, 2, none⟩ = some (.int .i64 G) ∧ w'.cell? ⟨u3.heap.size, 0, none⟩ = some (.int .i64 0) ∧ w'.cell? ⟨u3.heap.size, 1, none⟩ = some (.int .i64 5) ∧ w'.cell? ⟨u3.heap.size, 2, none⟩ = some (.int .i64 20) ∧ w'.cell? ⟨u3.heap.size, 3, none⟩ = some (.int .i64 1000) ∧ w'.cell? ⟨u3.heap.size, 4, none⟩ = some (.int .i64 1000000) ∧ w'.cell? ⟨u3.heap.size, 5, none⟩ = some (.int .i64 1000001) ∧ w'.cell? ⟨u3.heap.size, 6, none⟩ = some (.int .i64 (-1)) ∧ w'.cell? ⟨u7.heap.size, 0, none⟩ = some (.int .i64 x3))) 12 [1, 5] [(0, []), (2, []), (3, []), (4, [1, 0])] [6, 7, 8, 9] (by kernel_rfl) (by kernel_rfl) (by kernel_rfl) (by kernel_rfl) (by kernel_rfl) rfl (fun _ _ _ _ h => h) (DrawS.good _ _ _ _ _ _) ⟨(Within.refl _ _ _).drew, by simpa using HC.out.keep (Below.refl _ _).drew, ⟨box_at z_2_0 (Below.refl _ _).drew, box_at z_2_1 (Below.refl _ _).drew, box_at z_2_2 (Below.refl _ _).drew, box_at z_3_0 (Below.refl _ _).drew, box_at z_3_1 (Below.refl _ _).drew, box_at z_3_2 (Below.refl _ _).drew, box_at z_3_3 (Below.refl _ _).drew, box_at z_3_4 (Below.refl _ _).drew, box_at z_3_5 (Below.refl _ _).drew, box_at z_3_6 (Below.refl _ _).drew, box_at z_4_0 (Below.refl _ _).drew⟩⟩ ?_
        simp only [pickP, pickN, List.getElem?_cons_zero, List.getElem?_cons_succ]
        refine' wpPre_read _ (fun w' => ?_) ?_; rotate_left
        · go_simp
          (try with_reducible rfl)
        refine' wpPre_read _ (fun w' => ?_) ?_; rotate_left
        · go_simp
          (try with_reducible rfl)
        refine wpPre_nil (fun _ => ?_)
        simp only [Act.put, List.setIfInBounds_toArray, List.set_cons_zero, List.set_cons_succ]
        iterate 3 (refine' chainQ_read (DrawS.good _ _ _ _ _ _) _ rfl rfl (fun m w' hm' hS' => ?_) ?_; rotate_left; · (simp only [lookP, allP, Act.put, List.getElem?_cons_zero, List.getElem?_cons_succ, List.setIfInBounds_toArray, List.set_cons_zero, List.set_cons_succ]; (try dsimp only [DrawS] at hS'); go_simp; (try with_reducible rfl)))
        -- 4: call { callee := value (func 146), args := #[t56, t57], argTypes := #[167, 39] }
        refine chainQ_do (d := (some 58)) (fun v u => ∃ (xq4 : Int) (yq4 : Int), v = (.agg #[.int .i64 xq4, .int .i64 yq4]) ∧ ((-10 ≤ xq4 ∧ xq4 ≤ 2000000010) ∧ (-10 ≤ yq4 ∧ yq4 ≤ 2000000010))) (fun v w1 w2 hw h => h) rfl rfl (fun m w' hm' hS' => ?_) ?_
        · simp only [lookP, allP, Act.put, List.getElem?_cons_zero, List.getElem?_cons_succ, List.setIfInBounds_toArray, List.set_cons_zero, List.set_cons_succ]
          intro K hK
          replace hm' : m < 4 := hm'
          go_simp
          go_at_call 146
          refine (spec_anyCipher U g _ P Q G _ hS'.2.1 (hS'.1.belowOf (HW.out.belowOf HUC.out (Nat.le_of_eq HUS.out)) (by have := HUS.out; omega)) (by omega) HGR.out).mono ?_
          rintro e u ⟨⟨xq4, yq4, rfl, ⟨xq4l, xq4u⟩, ⟨yq4l, yq4u⟩⟩, hc, hw⟩
          exact hK.out _ _ hw ⟨hS'.1.trans hw, hc.mono (by omega), ⟨within_at (hS'.1.trans hw) z_2_0 (.inr (by omega)), within_at (hS'.1.trans hw) z_2_1 (.inr (by omega)), within_at (hS'.1.trans hw) z_2_2 (.inr (by omega)), within_at (hS'.1.trans hw) z_3_0 (.inr (by omega)), within_at (hS'.1.trans hw) z_3_1 (.inr (by omega)), within_at (hS'.1.trans hw) z_3_2 (.inr (by omega)), within_at (hS'.1.trans hw) z_3_3 (.inr (by omega)), within_at (hS'.1.trans hw) z_3_4 (.inr (by omega)), within_at (hS'.1.trans hw) z_3_5 (.inr (by omega)), within_at (hS'.1.trans hw) z_3_6 (.inr (by omega)), within_at (hS'.1.trans hw) z_4_0 (.inr (by omega))⟩⟩ ⟨xq4, yq4, rfl, ⟨⟨xq4l, xq4u⟩, ⟨yq4l, yq4u⟩⟩⟩
        refine chainQ_nil (fun u10 hS' => ?_)
        simp only [allP, Act.put, List.setIfInBounds_toArray, List.set_cons_zero, List.set_cons_succ]
        intro x4 hx4
        replace hS' : DrawS U u9 g _ 1000000000 _ 4 u10 := hS'
        obtain ⟨hw, hc, hC⟩ := hS'
        obtain ⟨xq4, yq4, rfl, ⟨xq4l, xq4u⟩, yq4l, yq4u⟩ := hx4
        have hsz10 := hw.size
        replace HX0 := Lib.hid (HX0.out.kept hw (.inl (by omega)))
        replace HX1 := Lib.hid (HX1.out.kept hw (.inl (by omega)))
        replace HZ1 := Lib.hid (HZ1.out.kept hw (.inr (by omega)))
        replace HZ3 := Lib.hid (HZ3.out.kept hw (.inr (by omega)))
        replace HZ5 := Lib.hid (HZ5.out.kept hw (.inr (by omega)))
        replace HW := Lib.hid (HW.out.trans hw)
        replace HC := Lib.hid hc
        clear hc hw hC
        clear z_0_0 z_0_1 z_0_2 z_1_0 z_1_1 z_2_0 z_2_1 z_2_2 z_3_0 z_3_1 z_3_2 z_3_3 z_3_4 z_3_5 z_3_6 z_4_0
        have r_HX0_0 := HX0.out.cell (i := 0) rfl
        have r_HX0_1 := HX0.out.cell (i := 1) rfl
        have r_HX0_2 := HX0.out.cell (i := 2) rfl
        have fr_HX0 := fun j => HX0.out.frozen j
        have r_HX1_0 := HX1.out.cell (i := 0) rfl
        have r_HX1_1 := HX1.out.cell (i := 1) rfl
        have fr_HX1 := fun j => HX1.out.frozen j
        go_wp2_with fail
        refine NoPanic.normal ?_
        have FHX0 := Lib.hid (((((HX0.out.set 0 (.int .i64 P)).set 1 (.int .i64 Q)).set 2 (.int .i64 G)).other (b' := w.heap.size + 1) (by omega) 0 (.int .i64 xq4)).other (b' := w.heap.size + 1) (by omega) 1 (.int .i64 yq4))
        have FHX1 := Lib.hid (((((HX1.out.other (b' := w.heap.size) (by omega) 0 (.int .i64 P)).other (b' := w.heap.size) (by omega) 1 (.int .i64 Q)).other (b' := w.heap.size) (by omega) 2 (.int .i64 G)).set 0 (.int .i64 xq4)).set 1 (.int .i64 yq4))
        clear r_HX0_0 r_HX0_1 r_HX0_2 fr_HX0 r_HX1_0 r_HX1_1 fr_HX1
        have t_HX0_0 := FHX0.out.cell (i := 0) rfl
        have t_HX0_1 := FHX0.out.cell (i := 1) rfl
        have t_HX0_2 := FHX0.out.cell (i := 2) rfl
        have t_HX1_0 := FHX1.out.cell (i := 0) rfl
        have t_HX1_1 := FHX1.out.cell (i := 1) rfl
        try (go_wp2_with fail)
        have HYS := Lib.hid ((((((Within.refl w.heap.size (w.heap.size + 2) u10).setCell (b := w.heap.size) (by omega) (by omega) 0 (.int .i64 P)).setCell (b := w.heap.size) (by omega) (by omega) 1 (.int .i64 Q)).setCell (b := w.heap.size) (by omega) (by omega) 2 (.int .i64 G)).setCell (b := w.heap.size + 1) (by omega) (by omega) 0 (.int .i64 xq4)).setCell (b := w.heap.size + 1) (by omega) (by omega) 1 (.int .i64 yq4))
        refine bodyPost_ret (v := .tuple #[.agg #[.int .i64 P, .int .i64 Q, .int .i64 G], .int .i64 x3, .agg #[.int .i64 xq4, .int .i64 yq4], .int .i64 x5]) (by simp [results, Try.results39, go_sem, t_HX0_0, t_HX0_1, t_HX0_2, t_HX1_0, t_HX1_1]) rfl ⟨⟨_, _, _, _, _, _, _, rfl, HGR.out, ⟨by omega, by omega⟩, ⟨⟨by omega, by omega⟩, ⟨by omega, by omega⟩⟩, ⟨by omega, by omega⟩⟩, ((((((HW.out.belowOf HBW.out (by omega)).setCell (p := ⟨w.heap.size, 0, none⟩) (by show w.heap.size ≤ w.heap.size; omega) (.int .i64 P)).setCell (p := ⟨w.heap.size, 1, none⟩) (by show w.heap.size ≤ w.heap.size; omega) (.int .i64 Q)).setCell (p := ⟨w.heap.size, 2, none⟩) (by show w.heap.size ≤ w.heap.size; omega) (.int .i64 G)).setCell (p := ⟨w.heap.size + 1, 0, none⟩) (by show w.heap.size ≤ w.heap.size + 1; omega) (.int .i64 xq4)).setCell (p := ⟨w.heap.size + 1, 1, none⟩) (by show w.heap.size ≤ w.heap.size + 1; omega) (.int .i64 yq4))⟩
      | true =>
        have z_0_0 := HX0.out.cell (i := 0) rfl
        have z_0_1 := HX0.out.cell (i := 1) rfl
        have z_0_2 := HX0.out.cell (i := 2) rfl
        have z_1_0 := HX1.out.cell (i := 0) rfl
        have z_1_1 := HX1.out.cell (i := 1) rfl
        have z_2_0 := HZ1.out.cell (i := 0) rfl
        have z_2_1 := HZ1.out.cell (i := 1) rfl
        have z_2_2 := HZ1.out.cell (i := 2) rfl
        have z_3_0 := HZ3.out.cell (i := 0) rfl
        have z_3_1 := HZ3.out.cell (i := 1) rfl
        have z_3_2 := HZ3.out.cell (i := 2) rfl
        have z_3_3 := HZ3.out.cell (i := 3) rfl
        have z_3_4 := HZ3.out.cell (i := 4) rfl
        have z_3_5 := HZ3.out.cell (i := 5) rfl
        have z_3_6 := HZ3.out.cell (i := 6) rfl
        have z_4_0 := HZ5.out.cell (i := 0) rfl
        try (go_wp2_with fail)
        clear z_0_0 z_0_1 z_0_2 z_1_0 z_1_1 z_2_0 z_2_1 z_2_2 z_3_0 z_3_1 z_3_2 z_3_3 z_3_4 z_3_5 z_3_6 z_4_0
        refine (spec_gExp ⟨P, Q, G⟩ G x3 _ HG.out hgg ⟨by omega, by omega⟩).mono ?_
        rintro e u10 ⟨rfl, hb⟩
        obtain ⟨r10, hr10⟩ : ∃ r, powE ⟨P, Q, G⟩ G x3 = r := ⟨_, rfl⟩
        have Hr10 := Lib.hid hr10
        rw [hr10]
        clear hr10
        have hsr10 : Small r10 := by rw [← Hr10.out]; exact powE_small HG.out _ _
        have hsz10 := hb.size
        replace HX0 := Lib.hid (HX0.out.below hb)
        replace HX1 := Lib.hid (HX1.out.below hb)
        replace HZ1 := Lib.hid (HZ1.out.below hb)
        replace HZ3 := Lib.hid (HZ3.out.below hb)
        replace HZ5 := Lib.hid (HZ5.out.below hb)
        replace HW := Lib.hid (HW.out.trans (Within.of_below hb))
        replace HC := Lib.hid (HC.out.keep hb)
        clear hb
        have z_0_0 := HX0.out.cell (i := 0) rfl
        have z_0_1 := HX0.out.cell (i := 1) rfl
        have z_0_2 := HX0.out.cell (i := 2) rfl
        have z_1_0 := HX1.out.cell (i := 0) rfl
        have z_1_1 := HX1.out.cell (i := 1) rfl
        have z_2_0 := HZ1.out.cell (i := 0) rfl
        have z_2_1 := HZ1.out.cell (i := 1) rfl
        have z_2_2 := HZ1.out.cell (i := 2) rfl
        have z_3_0 := HZ3.out.cell (i := 0) rfl
        have z_3_1 := HZ3.out.cell (i := 1) rfl
        have z_3_2 := HZ3.out.cell (i := 2) rfl
        have z_3_3 := HZ3.out.cell (i := 3) rfl
        have z_3_4 := HZ3.out.cell (i := 4) rfl
        have z_3_5 := HZ3.out.cell (i := 5) rfl
        have z_3_6 := HZ3.out.cell (i := 6) rfl
        have z_4_0 := HZ5.out.cell (i := 0) rfl
        try (go_wp2_with fail)
        refine wp_region_noPanic ?_
        refine wp_region_Q1 (Within g (g + 1)) (DrawS U u10 g _ 1000000000 (fun w' => w'.cell? ⟨u1.heap.size, 0, none⟩ = some (.int .i64 P) ∧ w'.cell? ⟨u1.heap.size, 1, none⟩ = some (.int .i64 Q) ∧ w'.cell? ⟨u1.heap.size, 2, none⟩ = some (.int .i64 G) ∧ w'.cell? ⟨u3.heap.size, 0, none⟩ = some (.int .i64 0) ∧ w'.cell? ⟨u3.heap.size, 1, none⟩ = some (.int .i64 5) ∧ w'.cell? ⟨u3.heap.size, 2, none⟩ = some (.int .i64 20) ∧ w'.cell? ⟨u3.heap.size, 3, none⟩ = some (.int .i64 1000) ∧ w'.cell? ⟨u3.heap.size, 4, none⟩ = some (.int .i64 1000000) ∧ w'.cell? ⟨u3.heap.size, 5, none⟩ = some (.int .i64 1000001) ∧ w'.cell? ⟨u3.heap.size, 6, none⟩ = some (.int .i64 (-1)) ∧ w'.cell? ⟨u7.heap.size, 0, none⟩ = some (.int .i64 x3))) 21 [1, 14] [(0, []), (2, []), (3, []), (4, []), (5, []), (6, [0]), (7, []), (8, [0]), (9, [4, 2, 0]), (10, []), (11, []), (12, [1, 0]), (13, [10, 9, 3, 0])] [15, 16, 17, 18] (by kernel_rfl) (by kernel_rfl) (by kernel_rfl) (by kernel_rfl) (by kernel_rfl) rfl (fun _ _ _ _ h => h) (DrawS.good _ _ _ _ _ _) ⟨(Within.refl _ _ _).drew, by simpa using HC.out.keep (Below.refl _ _).drew, ⟨box_at z_2_0 (Below.refl _ _).drew, box_at z_2_1 (Below.refl _ _).drew, box_at z_2_2 (Below.refl _ _).drew, box_at z_3_0 (Below.refl _ _).drew, box_at z_3_1 (Below.refl _ _).drew, box_at z_3_2 (Below.refl _ _).drew, box_at z_3_3 (Below.refl _ _).drew, box_at z_3_4 (Below.refl _ _).drew, box_at z_3_5 (Below.refl _ _).drew, box_at z_3_6 (Below.refl _ _).drew, box_at z_4_0 (Below.refl _ _).drew⟩⟩ ?_
        simp only [pickP, pickN, List.getElem?_cons_zero, List.getElem?_cons_succ]
        refine' wpPre_read _ (fun w' => ?_) ?_; rotate_left
        · go_simp
          (try with_reducible rfl)
        refine' wpPre_read _ (fun w' => ?_) ?_; rotate_left
        · go_simp
          (try with_reducible rfl)
        refine wpPre_nil (fun _ => ?_)
        simp only [Act.put, List.setIfInBounds_toArray, List.set_cons_zero, List.set_cons_succ]
        iterate 7 (refine' chainQ_read (DrawS.good _ _ _ _ _ _) _ rfl rfl (fun m w' hm' hS' => ?_) ?_; rotate_left; · (simp only [lookP, allP, Act.put, List.getElem?_cons_zero, List.getElem?_cons_succ, List.setIfInBounds_toArray, List.set_cons_zero, List.set_cons_succ]; (try dsimp only [DrawS] at hS'); go_simp; (try with_reducible rfl)))
        -- 8: call { callee := value (func 158), args := #[t46, const (int i64 20)], argTypes := #[167, 3] }
        refine chainQ_do (d := (some 47)) (fun v u => ∃ (xq8 : Int), v = (.int .i64 xq8) ∧ (-10 ≤ xq8 ∧ xq8 ≤ 2000000010)) (fun v w1 w2 hw h => h) rfl rfl (fun m w' hm' hS' => ?_) ?_
        · simp only [lookP, allP, Act.put, List.getElem?_cons_zero, List.getElem?_cons_succ, List.setIfInBounds_toArray, List.set_cons_zero, List.set_cons_succ]
          intro K hK
          replace hm' : m < 13 := hm'
          go_simp
          go_at_call 158
          refine (spec_pick U g _ 20 _ hS'.2.1 (hS'.1.belowOf (HW.out.belowOf HUC.out (Nat.le_of_eq HUS.out)) (by have := HUS.out; omega)) (by omega) ).mono ?_
          rintro e u ⟨⟨xq8, rfl, xq8l, xq8u, xq8m, _⟩, hc, hw⟩
          exact hK.out _ _ hw ⟨hS'.1.trans hw, hc.mono (by omega), ⟨within_at (hS'.1.trans hw) z_2_0 (.inr (by omega)), within_at (hS'.1.trans hw) z_2_1 (.inr (by omega)), within_at (hS'.1.trans hw) z_2_2 (.inr (by omega)), within_at (hS'.1.trans hw) z_3_0 (.inr (by omega)), within_at (hS'.1.trans hw) z_3_1 (.inr (by omega)), within_at (hS'.1.trans hw) z_3_2 (.inr (by omega)), within_at (hS'.1.trans hw) z_3_3 (.inr (by omega)), within_at (hS'.1.trans hw) z_3_4 (.inr (by omega)), within_at (hS'.1.trans hw) z_3_5 (.inr (by omega)), within_at (hS'.1.trans hw) z_3_6 (.inr (by omega)), within_at (hS'.1.trans hw) z_4_0 (.inr (by omega))⟩⟩ ⟨xq8, rfl, ⟨by omega, by omega⟩⟩
        -- 9: call { callee := value (func 156), args := #[t43, t45, t47], argTypes := #[39, 3, 3] }
        refine chainQ_do (d := (some 48)) (fun v u => ∃ (xq9 : Int), v = (.int .i64 xq9) ∧ (0 ≤ xq9 ∧ xq9 ≤ 2000000000)) (fun v w1 w2 hw h => h) rfl rfl (fun m w' hm' hS' => ?_) ?_
        · simp only [lookP, allP, Act.put, List.getElem?_cons_zero, List.getElem?_cons_succ, List.setIfInBounds_toArray, List.set_cons_zero, List.set_cons_succ]
          intro x8 hx8
          intro K hK
          replace hm' : m < 13 := hm'
          obtain ⟨xq8, rfl, xq8l, xq8u⟩ := hx8
          go_simp
          go_at_call 156
          refine (spec_gExp ⟨P, Q, G⟩ G xq8 _ HG.out hgg ⟨by omega, by omega⟩).mono ?_
          rintro e u ⟨rfl, hq⟩
          have hw := (Within.of_below hq : Within g (g + 1) _ _)
          exact hK.out _ _ hw ⟨hS'.1.trans hw, (hS'.2.1.keep hq).mono (by omega), ⟨within_at (hS'.1.trans hw) z_2_0 (.inr (by omega)), within_at (hS'.1.trans hw) z_2_1 (.inr (by omega)), within_at (hS'.1.trans hw) z_2_2 (.inr (by omega)), within_at (hS'.1.trans hw) z_3_0 (.inr (by omega)), within_at (hS'.1.trans hw) z_3_1 (.inr (by omega)), within_at (hS'.1.trans hw) z_3_2 (.inr (by omega)), within_at (hS'.1.trans hw) z_3_3 (.inr (by omega)), within_at (hS'.1.trans hw) z_3_4 (.inr (by omega)), within_at (hS'.1.trans hw) z_3_5 (.inr (by omega)), within_at (hS'.1.trans hw) z_3_6 (.inr (by omega)), within_at (hS'.1.trans hw) z_4_0 (.inr (by omega))⟩⟩ ⟨_, rfl, ⟨(powE_small HG.out _ _).1, (powE_small HG.out _ _).2⟩⟩
        iterate 2 (refine' chainQ_read (DrawS.good _ _ _ _ _ _) _ rfl rfl (fun m w' hm' hS' => ?_) ?_; rotate_left; · (simp only [lookP, allP, Act.put, List.getElem?_cons_zero, List.getElem?_cons_succ, List.setIfInBounds_toArray, List.set_cons_zero, List.set_cons_succ]; (try dsimp only [DrawS] at hS'); go_simp; (try with_reducible rfl)))
        -- 12: call { callee := value (func 159), args := #[t49, t50], argTypes := #[167, 39] }
        refine chainQ_do (d := (some 51)) (fun v u => ∃ (xq12 : Int), v = (.int .i64 xq12) ∧ (-10 ≤ xq12 ∧ xq12 ≤ 2000000010)) (fun v w1 w2 hw h => h) rfl rfl (fun m w' hm' hS' => ?_) ?_
        · simp only [lookP, allP, Act.put, List.getElem?_cons_zero, List.getElem?_cons_succ, List.setIfInBounds_toArray, List.set_cons_zero, List.set_cons_succ]
          intro K hK
          replace hm' : m < 13 := hm'
          go_simp
          go_at_call 159
          refine (spec_expo U g _ P Q G _ hS'.2.1 (hS'.1.belowOf (HW.out.belowOf HUC.out (Nat.le_of_eq HUS.out)) (by have := HUS.out; omega)) (by omega) HGR.out).mono ?_
          rintro e u ⟨⟨xq12, rfl, xq12l, xq12u⟩, hc, hw⟩
          exact hK.out _ _ hw ⟨hS'.1.trans hw, hc.mono (by omega), ⟨within_at (hS'.1.trans hw) z_2_0 (.inr (by omega)), within_at (hS'.1.trans hw) z_2_1 (.inr (by omega)), within_at (hS'.1.trans hw) z_2_2 (.inr (by omega)), within_at (hS'.1.trans hw) z_3_0 (.inr (by omega)), within_at (hS'.1.trans hw) z_3_1 (.inr (by omega)), within_at (hS'.1.trans hw) z_3_2 (.inr (by omega)), within_at (hS'.1.trans hw) z_3_3 (.inr (by omega)), within_at (hS'.1.trans hw) z_3_4 (.inr (by omega)), within_at (hS'.1.trans hw) z_3_5 (.inr (by omega)), within_at (hS'.1.trans hw) z_3_6 (.inr (by omega)), within_at (hS'.1.trans hw) z_4_0 (.inr (by omega))⟩⟩ ⟨xq12, rfl, ⟨by omega, xq12u⟩⟩
        -- 13: call { callee := value (func 157), args := #[t41, t42, t48, t51], argTypes := #[39, 3, 3, 3] }
        refine chainQ_do (d := (some 52)) (fun v u => ∃ (xq13 : Int) (yq13 : Int), v = (.agg #[.int .i64 xq13, .int .i64 yq13]) ∧ ((-10 ≤ xq13 ∧ xq13 ≤ 2000000010) ∧ (-10 ≤ yq13 ∧ yq13 ≤ 2000000010))) (fun v w1 w2 hw h => h) rfl rfl (fun m w' hm' hS' => ?_) ?_
        · simp only [lookP, allP, Act.put, List.getElem?_cons_zero, List.getElem?_cons_succ, List.setIfInBounds_toArray, List.set_cons_zero, List.set_cons_succ]
          intro x9 hx9
          intro x12 hx12
          intro K hK
          replace hm' : m < 13 := hm'
          obtain ⟨xq9, rfl, xq9l, xq9u⟩ := hx9
          obtain ⟨xq12, rfl, xq12l, xq12u⟩ := hx12
          go_simp
          go_at_call 157
          refine (spec_eEnc ⟨P, Q, G⟩ r10 xq9 xq12 _ HG.out hsr10 (show Small _ from ⟨by omega, by omega⟩) ⟨by omega, by omega⟩).mono ?_
          rintro e u ⟨rfl, hq⟩
          have hw := (Within.of_below hq : Within g (g + 1) _ _)
          exact hK.out _ _ hw ⟨hS'.1.trans hw, (hS'.2.1.keep hq).mono (by omega), ⟨within_at (hS'.1.trans hw) z_2_0 (.inr (by omega)), within_at (hS'.1.trans hw) z_2_1 (.inr (by omega)), within_at (hS'.1.trans hw) z_2_2 (.inr (by omega)), within_at (hS'.1.trans hw) z_3_0 (.inr (by omega)), within_at (hS'.1.trans hw) z_3_1 (.inr (by omega)), within_at (hS'.1.trans hw) z_3_2 (.inr (by omega)), within_at (hS'.1.trans hw) z_3_3 (.inr (by omega)), within_at (hS'.1.trans hw) z_3_4 (.inr (by omega)), within_at (hS'.1.trans hw) z_3_5 (.inr (by omega)), within_at (hS'.1.trans hw) z_3_6 (.inr (by omega)), within_at (hS'.1.trans hw) z_4_0 (.inr (by omega))⟩⟩ ⟨_, _, rfl, ⟨bd_small (enC_small HG.out _ _ _).1, bd_small (enC_small HG.out _ _ _).2⟩⟩
        refine chainQ_nil (fun u11 hS' => ?_)
        simp only [allP, Act.put, List.setIfInBounds_toArray, List.set_cons_zero, List.set_cons_succ]
        intro x13 hx13
        intro x12 hx12
        intro x9 hx9
        intro x8 hx8
        replace hS' : DrawS U u10 g _ 1000000000 _ 13 u11 := hS'
        obtain ⟨hw, hc, hC⟩ := hS'
        obtain ⟨xq8, rfl, xq8l, xq8u⟩ := hx8
        obtain ⟨xq9, rfl, xq9l, xq9u⟩ := hx9
        obtain ⟨xq12, rfl, xq12l, xq12u⟩ := hx12
        obtain ⟨xq13, yq13, rfl, ⟨xq13l, xq13u⟩, yq13l, yq13u⟩ := hx13
        have hsz11 := hw.size
        replace HX0 := Lib.hid (HX0.out.kept hw (.inl (by omega)))
        replace HX1 := Lib.hid (HX1.out.kept hw (.inl (by omega)))
        replace HZ1 := Lib.hid (HZ1.out.kept hw (.inr (by omega)))
        replace HZ3 := Lib.hid (HZ3.out.kept hw (.inr (by omega)))
        replace HZ5 := Lib.hid (HZ5.out.kept hw (.inr (by omega)))
        replace HW := Lib.hid (HW.out.trans hw)
        replace HC := Lib.hid hc
        clear hc hw hC
        clear z_0_0 z_0_1 z_0_2 z_1_0 z_1_1 z_2_0 z_2_1 z_2_2 z_3_0 z_3_1 z_3_2 z_3_3 z_3_4 z_3_5 z_3_6 z_4_0
        have r_HX0_0 := HX0.out.cell (i := 0) rfl
        have r_HX0_1 := HX0.out.cell (i := 1) rfl
        have r_HX0_2 := HX0.out.cell (i := 2) rfl
        have fr_HX0 := fun j => HX0.out.frozen j
        have r_HX1_0 := HX1.out.cell (i := 0) rfl
        have r_HX1_1 := HX1.out.cell (i := 1) rfl
        have fr_HX1 := fun j => HX1.out.frozen j
        go_wp2_with fail
        refine NoPanic.normal ?_
        have FHX0 := Lib.hid (((((HX0.out.set 0 (.int .i64 P)).set 1 (.int .i64 Q)).set 2 (.int .i64 G)).other (b' := w.heap.size + 1) (by omega) 0 (.int .i64 xq13)).other (b' := w.heap.size + 1) (by omega) 1 (.int .i64 yq13))
        have FHX1 := Lib.hid (((((HX1.out.other (b' := w.heap.size) (by omega) 0 (.int .i64 P)).other (b' := w.heap.size) (by omega) 1 (.int .i64 Q)).other (b' := w.heap.size) (by omega) 2 (.int .i64 G)).set 0 (.int .i64 xq13)).set 1 (.int .i64 yq13))
        clear r_HX0_0 r_HX0_1 r_HX0_2 fr_HX0 r_HX1_0 r_HX1_1 fr_HX1
        have t_HX0_0 := FHX0.out.cell (i := 0) rfl
        have t_HX0_1 := FHX0.out.cell (i := 1) rfl
        have t_HX0_2 := FHX0.out.cell (i := 2) rfl
        have t_HX1_0 := FHX1.out.cell (i := 0) rfl
        have t_HX1_1 := FHX1.out.cell (i := 1) rfl
        try (go_wp2_with fail)
        have HYS := Lib.hid ((((((Within.refl w.heap.size (w.heap.size + 2) u11).setCell (b := w.heap.size) (by omega) (by omega) 0 (.int .i64 P)).setCell (b := w.heap.size) (by omega) (by omega) 1 (.int .i64 Q)).setCell (b := w.heap.size) (by omega) (by omega) 2 (.int .i64 G)).setCell (b := w.heap.size + 1) (by omega) (by omega) 0 (.int .i64 xq13)).setCell (b := w.heap.size + 1) (by omega) (by omega) 1 (.int .i64 yq13))
        refine bodyPost_ret (v := .tuple #[.agg #[.int .i64 P, .int .i64 Q, .int .i64 G], .int .i64 x3, .agg #[.int .i64 xq13, .int .i64 yq13], .int .i64 x5]) (by simp [results, Try.results39, go_sem, t_HX0_0, t_HX0_1, t_HX0_2, t_HX1_0, t_HX1_1]) rfl ⟨⟨_, _, _, _, _, _, _, rfl, HGR.out, ⟨by omega, by omega⟩, ⟨⟨by omega, by omega⟩, ⟨by omega, by omega⟩⟩, ⟨by omega, by omega⟩⟩, ((((((HW.out.belowOf HBW.out (by omega)).setCell (p := ⟨w.heap.size, 0, none⟩) (by show w.heap.size ≤ w.heap.size; omega) (.int .i64 P)).setCell (p := ⟨w.heap.size, 1, none⟩) (by show w.heap.size ≤ w.heap.size; omega) (.int .i64 Q)).setCell (p := ⟨w.heap.size, 2, none⟩) (by show w.heap.size ≤ w.heap.size; omega) (.int .i64 G)).setCell (p := ⟨w.heap.size + 1, 0, none⟩) (by show w.heap.size ≤ w.heap.size + 1; omega) (.int .i64 xq13)).setCell (p := ⟨w.heap.size + 1, 1, none⟩) (by show w.heap.size ≤ w.heap.size + 1; omega) (.int .i64 yq13))⟩
end Go.Proofs.Ytboahnklilmdpaa

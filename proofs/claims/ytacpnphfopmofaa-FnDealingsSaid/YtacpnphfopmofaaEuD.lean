/- Draws: polynomials to be dealt (printed by gen_drde1.py). -/
import Derived.Test.YtacpnphfopmofaaDrSh3D
import Derived.Test.YtacpnphfopmofaaFindRD
import Derived.Test.YtacpnphfopmofaaBmD
import Derived.Test.YtacpnphfopmofaaBaD
import Derived.Test.YtacpnphfopmofaaDrG0D
import Derived.Test.YtacpnphfopmofaaPow2D
namespace Go.Proofs.Ytacpnphfopmofaa
open Go.RowKit
set_option linter.unusedSimpArgs false
set_option linter.unusedVariables false

theorem spec_l1MostB (a b : Int) (w : World) :
    Calls Try.prog 101 #[.int .i64 a, .int .i64 b] w fun e w' => e = .returned (.int .i64 (max a b)) ∧ Below w.heap.size w w' := by
  by_cases h : b < a
  · have e : max a b = a := by omega
    rw [e]
    have hd : decide (b < a) = true := decide_eq_true h
    go_enter Try.func101, Try.ntmps101
    go_wp2_with fail
    go_ret
    exact ⟨rfl, Below.refl _ _⟩
  · have e : max a b = b := by omega
    rw [e]
    have hd : decide (b < a) = false := decide_eq_false h
    go_enter Try.func101, Try.ntmps101
    go_wp2_with fail
    go_ret
    exact ⟨rfl, Below.refl _ _⟩
set_option maxRecDepth 100000 in
set_option maxHeartbeats 4000000 in
theorem spec_DrawDealShares (v : Value) (w : World) (h : Bytes w v) :
    Calls Try.prog 24 #[v] w fun e w' => (∃ (P : Int) (Q : Int) (G : Int) (vr1 : Value) (lr1 : List Int) (xr2 : Int), e = .returned (.tuple #[.agg #[.int .i64 P, .int .i64 Q, .int .i64 G], vr1, .int .i64 xr2]) ∧ GrB ⟨P, Q, G⟩ ∧ (Ints w' vr1 lr1 ∧ lr1.length ≤ 1001) ∧ (-10 ≤ xr2 ∧ xr2 ≤ 2000000010)) ∧ Below w.heap.size w w' := by
  obtain ⟨a, m, c, rfl, hk1, hk2, hv⟩ := h
  have HY : Hid (Bytes w (.slice a m c)) := ⟨a, m, c, rfl, hk1, hk2, hv⟩
  clear hv
  unfold maxLen at hk2
  obtain ⟨U, hU⟩ : ∃ U, U = w.alloc (.cells #[.int .i64 0, .int .i64 0, .int .i64 0] 24) := ⟨_, rfl⟩
  have hbU : Below w.heap.size w U := by rw [hU]; (repeat (first | exact Below.refl _ _ | assumption | refine Below.drew ?_ | refine Below.alloc ?_ (by first | (simp; done) | (simp; omega)) _ | refine Below.setCell ?_ (by first | (simp; done) | (simp; omega)) _))
  have HX0 : Hid (BoxN U w.heap.size 24 [.int .i64 0, .int .i64 0, .int .i64 0]) := by unfold Hid; rw [hU]; have h := (BoxN.new w [.int .i64 0, .int .i64 0, .int .i64 0] 24); simpa using h
  have hsU : U.heap.size = w.heap.size + 1 := by rw [hU]; simp
  obtain ⟨W, hW⟩ : ∃ W, W = U.alloc (.cells #[.slice a m c, .int .i64 0, .int .u64 0] 85) := ⟨_, rfl⟩
  have HC : Hid (Cur U W U.heap.size 0) := by unfold Hid; rw [hW]; exact Cur.new U (HY.out.below hbU)
  have hbW : Below U.heap.size U W := by rw [hW]; exact (Below.refl _ _).alloc (Nat.le_refl _) _
  have HBW := Lib.hid (Below.next hbU hbW)
  have HUB := Lib.hid hbW
  replace HX0 := Lib.hid (HX0.out.below hbW)
  obtain ⟨g, hg⟩ : ∃ g, g = U.heap.size := ⟨_, rfl⟩
  have HSU : Hid (w.heap.size + 1 = g) := by unfold Hid; rw [hg, hsU]
  have HWS : Hid (W.heap.size = g + 1) := by unfold Hid; rw [hW, hg]; simp
  go_enter Try.func24, Try.ntmps24
  go_wp2_with fail
  rw [← hU, ← hW]
  rw [HSU.out]
  rw [← hg] at HC HUB
  have HUS : Hid (U.heap.size = g) := hg.symm
  have hwg : w.heap.size + 1 = g := HSU.out
  have hsW := HWS.out
  have HW := Lib.hid (Within.refl g (g + 1) W)
  have HUC : Hid (Below U.heap.size U W) := by unfold Hid; rw [HUS.out]; exact HUB.out
  clear hU hW hbU hbW hsU hg
  have z_0_0 := HX0.out.cell (i := 0) rfl
  have z_0_1 := HX0.out.cell (i := 1) rfl
  have z_0_2 := HX0.out.cell (i := 2) rfl
  try (go_wp2_with fail)
  clear z_0_0 z_0_1 z_0_2
  refine (spec_shared U g _ _ HC.out (HW.out.belowOf HUC.out (Nat.le_of_eq HUS.out)) (by omega)).mono ?_
  rintro e u1 ⟨⟨P, Q, G, rfl, P1, Q1, G1⟩, hc, hw⟩
  have HGR : Hid (GrB ⟨P, Q, G⟩) := ⟨P1, Q1, G1⟩
  clear P1 Q1 G1
  have hsz1 := hw.size
  replace HX0 := Lib.hid (HX0.out.kept hw (.inl (by omega)))
  replace HW := Lib.hid (HW.out.trans hw)
  replace HC := Lib.hid hc
  clear hc hw
  have z_0_0 := HX0.out.cell (i := 0) rfl
  have z_0_1 := HX0.out.cell (i := 1) rfl
  have z_0_2 := HX0.out.cell (i := 2) rfl
  have lt_HX0 := HX0.out.lt
  obtain ⟨V2, hV⟩ : ∃ V, V = (u1.alloc (.cells #[.int .i64 P, .int .i64 Q, .int .i64 G] 24)).alloc (.cells #[.int .i64 1, .int .i64 2, .int .i64 3, .int .i64 4, .int .i64 5, .int .i64 7, .int .i64 8, .int .i64 0] 3) := ⟨_, rfl⟩
  have hbV : Below u1.heap.size u1 V2 := by rw [hV]; (repeat (first | exact Below.refl _ _ | assumption | refine Below.drew ?_ | refine Below.alloc ?_ (by first | (simp; done) | (simp; omega)) _ | refine Below.setCell ?_ (by first | (simp; done) | (simp; omega)) _))
  have HZ2 : Hid (BoxN V2 u1.heap.size 24 [.int .i64 P, .int .i64 Q, .int .i64 G]) := by unfold Hid; rw [hV]; have h := ((BoxN.new u1 [.int .i64 P, .int .i64 Q, .int .i64 G] 24).alloc (.cells #[.int .i64 1, .int .i64 2, .int .i64 3, .int .i64 4, .int .i64 5, .int .i64 7, .int .i64 8, .int .i64 0] 3)); simpa using h
  have HO1 : Hid (OwnI V2 u1.heap.size (.slice (some ⟨u1.heap.size + 1, 0, none⟩) 8 8) [1, 2, 3, 4, 5, 7, 8, 0]) := by unfold Hid; rw [hV]; have h := (OwnI.lit (B := u1.heap.size) (u1.alloc (.cells #[.int .i64 P, .int .i64 Q, .int .i64 G] 24)) (by simp) (l := [1, 2, 3, 4, 5, 7, 8, 0]) (AllI64.cons ⟨by decide, by decide⟩ (AllI64.cons ⟨by decide, by decide⟩ (AllI64.cons ⟨by decide, by decide⟩ (AllI64.cons ⟨by decide, by decide⟩ (AllI64.cons ⟨by decide, by decide⟩ (AllI64.cons ⟨by decide, by decide⟩ (AllI64.cons ⟨by decide, by decide⟩ (AllI64.cons ⟨by decide, by decide⟩ AllI64.nil)))))))) rfl (by simp [maxLen]) 8 rfl); simpa using h
  have HZ3 : Hid (BoxN V2 (u1.heap.size + 1) 3 [.int .i64 1, .int .i64 2, .int .i64 3, .int .i64 4, .int .i64 5, .int .i64 7, .int .i64 8, .int .i64 0]) := by unfold Hid; rw [hV]; have h := (BoxN.new (u1.alloc (.cells #[.int .i64 P, .int .i64 Q, .int .i64 G] 24)) [.int .i64 1, .int .i64 2, .int .i64 3, .int .i64 4, .int .i64 5, .int .i64 7, .int .i64 8, .int .i64 0] 3); simpa using h
  have hgc : g < u1.heap.size := HC.out.lt
  go_wp2_with fail
  rw [← hV]
  have hsV2 : V2.heap.size = u1.heap.size + 2 := by rw [hV]; simp
  clear hV hgc
  replace HX0 := Lib.hid (HX0.out.below hbV)
  replace HW := Lib.hid (HW.out.trans (Within.of_below hbV))
  replace HC := Lib.hid (HC.out.keep hbV)
  clear hbV
  clear z_0_0 z_0_1 z_0_2
  clear lt_HX0
  refine (spec_among U g _ _ [1, 2, 3, 4, 5, 7, 8, 0] _ HC.out (HW.out.belowOf HUC.out (Nat.le_of_eq HUS.out)) (by omega) (Apart.of_ownI HO1.out (by omega)) (by simp)).mono ?_
  rintro e u3 ⟨⟨x3, rfl, hm3⟩, hc, hw⟩
  have x3l : -10 ≤ x3 := by simp at hm3; omega
  have x3u : x3 ≤ 8 := by simp at hm3; omega
  clear hm3
  have hsz3 := hw.size
  replace HX0 := Lib.hid (HX0.out.kept hw (.inl (by omega)))
  replace HZ2 := Lib.hid (HZ2.out.kept hw (.inr (by omega)))
  replace HZ3 := Lib.hid (HZ3.out.kept hw (.inr (by omega)))
  replace HW := Lib.hid (HW.out.trans hw)
  replace HC := Lib.hid hc
  clear hc hw
  have z_0_0 := HX0.out.cell (i := 0) rfl
  have z_0_1 := HX0.out.cell (i := 1) rfl
  have z_0_2 := HX0.out.cell (i := 2) rfl
  have z_1_0 := HZ2.out.cell (i := 0) rfl
  have z_1_1 := HZ2.out.cell (i := 1) rfl
  have z_1_2 := HZ2.out.cell (i := 2) rfl
  have z_2_0 := HZ3.out.cell (i := 0) rfl
  have z_2_1 := HZ3.out.cell (i := 1) rfl
  have z_2_2 := HZ3.out.cell (i := 2) rfl
  have z_2_3 := HZ3.out.cell (i := 3) rfl
  have z_2_4 := HZ3.out.cell (i := 4) rfl
  have z_2_5 := HZ3.out.cell (i := 5) rfl
  have z_2_6 := HZ3.out.cell (i := 6) rfl
  have z_2_7 := HZ3.out.cell (i := 7) rfl
  try (go_wp2_with fail)
  refine wp_region_noPanic ?_
  refine wp_region_Q1 (Within g (g + 1)) (DrawS U u3 g _ 1000000000 (fun w' => w'.cell? ⟨u1.heap.size, 0, none⟩ = some (.int .i64 P) ∧ w'.cell? ⟨u1.heap.size, 1, none⟩ = some (.int .i64 Q) ∧ w'.cell? ⟨u1.heap.size, 2, none⟩ = some (.int .i64 G) ∧ w'.cell? ⟨u1.heap.size + 1, 0, none⟩ = some (.int .i64 1) ∧ w'.cell? ⟨u1.heap.size + 1, 1, none⟩ = some (.int .i64 2) ∧ w'.cell? ⟨u1.heap.size + 1, 2, none⟩ = some (.int .i64 3) ∧ w'.cell? ⟨u1.heap.size + 1, 3, none⟩ = some (.int .i64 4) ∧ w'.cell? ⟨u1.heap.size + 1, 4, none⟩ = some (.int .i64 5) ∧ w'.cell? ⟨u1.heap.size + 1, 5, none⟩ = some (.int .i64 7) ∧ w'.cell? ⟨u1.heap.size + 1, 6, none⟩ = some (.int .i64 8) ∧ w'.cell? ⟨u1.heap.size + 1, 7, none⟩ = some (.int .i64 0))) 15 [9] [(0, []), (1, []), (2, []), (3, []), (4, []), (5, [0]), (6, [2, 0]), (7, [0]), (8, [6, 5, 0])] [10, 11, 12] (by kernel_rfl) (by kernel_rfl) (by kernel_rfl) (by kernel_rfl) (by kernel_rfl) rfl (fun _ _ _ _ h => h) (DrawS.good _ _ _ _ _ _) ⟨(Within.refl _ _ _).drew, by simpa using HC.out.keep (Below.refl _ _).drew, ⟨box_at z_1_0 (Below.refl _ _).drew, box_at z_1_1 (Below.refl _ _).drew, box_at z_1_2 (Below.refl _ _).drew, box_at z_2_0 (Below.refl _ _).drew, box_at z_2_1 (Below.refl _ _).drew, box_at z_2_2 (Below.refl _ _).drew, box_at z_2_3 (Below.refl _ _).drew, box_at z_2_4 (Below.refl _ _).drew, box_at z_2_5 (Below.refl _ _).drew, box_at z_2_6 (Below.refl _ _).drew, box_at z_2_7 (Below.refl _ _).drew⟩⟩ ?_
  simp only [pickP, pickN, List.getElem?_cons_zero, List.getElem?_cons_succ]
  refine' wpPre_read _ (fun w' => ?_) ?_; rotate_left
  · go_simp
    (try with_reducible rfl)
  refine wpPre_nil (fun _ => ?_)
  simp only [Act.put, List.setIfInBounds_toArray, List.set_cons_zero, List.set_cons_succ]
  iterate 5 (refine' chainQ_read (DrawS.good _ _ _ _ _ _) _ rfl rfl (fun m w' hm' hS' => ?_) ?_; rotate_left; · (simp only [lookP, allP, Act.put, List.getElem?_cons_zero, List.getElem?_cons_succ, List.setIfInBounds_toArray, List.set_cons_zero, List.set_cons_succ]; (try dsimp only [DrawS] at hS'); go_simp; (try with_reducible rfl)))
  -- 5: call { callee := value (func 101), args := #[const (int i64 1), t20], argTypes := #[3, 3] }
  refine chainQ_do (d := (some 21)) (fun v u => ∃ xq5 : Int, v = .int .i64 xq5 ∧ (1 ≤ xq5 ∧ xq5 ≤ 8)) (fun v w1 w2 hw h => h) rfl rfl (fun m w' hm' hS' => ?_) ?_
  · simp only [lookP, allP, Act.put, List.getElem?_cons_zero, List.getElem?_cons_succ, List.setIfInBounds_toArray, List.set_cons_zero, List.set_cons_succ]
    intro K hK
    replace hm' : m < 9 := hm'
    go_simp
    go_at_call 101
    refine (spec_l1MostB 1 x3 _).mono ?_
    rintro e u ⟨rfl, hq⟩
    have hw := (Within.of_below hq : Within g (g + 1) _ _)
    exact hK.out _ _ hw ⟨hS'.1.trans hw, (hS'.2.1.keep hq).mono (by omega), ⟨within_at (hS'.1.trans hw) z_1_0 (.inr (by omega)), within_at (hS'.1.trans hw) z_1_1 (.inr (by omega)), within_at (hS'.1.trans hw) z_1_2 (.inr (by omega)), within_at (hS'.1.trans hw) z_2_0 (.inr (by omega)), within_at (hS'.1.trans hw) z_2_1 (.inr (by omega)), within_at (hS'.1.trans hw) z_2_2 (.inr (by omega)), within_at (hS'.1.trans hw) z_2_3 (.inr (by omega)), within_at (hS'.1.trans hw) z_2_4 (.inr (by omega)), within_at (hS'.1.trans hw) z_2_5 (.inr (by omega)), within_at (hS'.1.trans hw) z_2_6 (.inr (by omega)), within_at (hS'.1.trans hw) z_2_7 (.inr (by omega))⟩⟩ ⟨_, rfl, by omega⟩
  -- 6: call { callee := value (func 72), args := #[t19, t21], argTypes := #[82, 3] }
  refine chainQ_do (d := (some 22)) (fun v u => ∃ xq6 : Int, v = .int .i64 xq6 ∧ (0 ≤ xq6 ∧ xq6 ≤ 7)) (fun v w1 w2 hw h => h) rfl rfl (fun m w' hm' hS' => ?_) ?_
  · simp only [lookP, allP, Act.put, List.getElem?_cons_zero, List.getElem?_cons_succ, List.setIfInBounds_toArray, List.set_cons_zero, List.set_cons_succ]
    intro x5 hx5
    intro K hK
    replace hm' : m < 9 := hm'
    obtain ⟨y5, rfl, h5⟩ := hx5
    go_simp
    go_at_call 72
    refine (spec_pick U g _ y5 _ hS'.2.1 (hS'.1.belowOf (HW.out.belowOf HUC.out (Nat.le_of_eq HUS.out)) (by have := HUS.out; omega)) (by omega)).mono ?_
    rintro e u ⟨⟨y6, rfl, y6l, y6u, y6m, _⟩, hc, hw⟩
    replace y6m := y6m (by omega)
    exact hK.out _ _ hw ⟨hS'.1.trans hw, hc.mono (by omega), ⟨within_at (hS'.1.trans hw) z_1_0 (.inr (by omega)), within_at (hS'.1.trans hw) z_1_1 (.inr (by omega)), within_at (hS'.1.trans hw) z_1_2 (.inr (by omega)), within_at (hS'.1.trans hw) z_2_0 (.inr (by omega)), within_at (hS'.1.trans hw) z_2_1 (.inr (by omega)), within_at (hS'.1.trans hw) z_2_2 (.inr (by omega)), within_at (hS'.1.trans hw) z_2_3 (.inr (by omega)), within_at (hS'.1.trans hw) z_2_4 (.inr (by omega)), within_at (hS'.1.trans hw) z_2_5 (.inr (by omega)), within_at (hS'.1.trans hw) z_2_6 (.inr (by omega)), within_at (hS'.1.trans hw) z_2_7 (.inr (by omega))⟩⟩ ⟨y6, rfl, by omega⟩
  -- 7: binOp Binadd 3 (const (int i64 1)) t22 3
  refine chainQ_do (d := (some 23)) (fun v u => ∃ xq7 : Int, v = .int .i64 xq7 ∧ (1 ≤ xq7 ∧ xq7 ≤ 8)) (fun v w1 w2 hw h => h) rfl rfl (fun m w' hm' hS' => ?_) ?_
  · simp only [lookP, allP, Act.put, List.getElem?_cons_zero, List.getElem?_cons_succ, List.setIfInBounds_toArray, List.set_cons_zero, List.set_cons_succ]
    intro x6 hx6
    intro K hK
    replace hm' : m < 9 := hm'
    obtain ⟨y6, rfl, h6⟩ := hx6
    have ew6 : IntKind.i64.wrap (1 + y6) = 1 + y6 := IntWalk.i64_in _ (by omega)
    go_simp
    refine hK.out _ _ (Within.refl _ _ _) ⟨hS'.1, hS'.2.1.mono (by omega), hS'.2.2⟩ ⟨_, rfl, by omega⟩
  -- 8: call { callee := value (func 100), args := #[t17, t18, t23], argTypes := #[82, 24, 3] }
  refine chainQ_do (d := (some 24)) (fun v u => ∃ (vq8 : Value) (lq8 : List Int), v = vq8 ∧ (Since u3.heap.size u (fun z => Ints z vq8 lq8) ∧ lq8.length ≤ 1001)) (fun v w1 w2 hw h => by obtain ⟨z0, z1, h3, h4⟩ := h; exact ⟨z0, z1, h3, (h4.1).within hw (by omega), h4.2⟩) rfl rfl (fun m w' hm' hS' => ?_) ?_
  · simp only [lookP, allP, Act.put, List.getElem?_cons_zero, List.getElem?_cons_succ, List.setIfInBounds_toArray, List.set_cons_zero, List.set_cons_succ]
    intro x7 hx7
    intro K hK
    replace hm' : m < 9 := hm'
    obtain ⟨y7, rfl, h7⟩ := hx7
    go_simp
    go_at_call 100
    refine (spec_anyCoinsI U g _ P Q G y7 _ hS'.2.1 (hS'.1.belowOf (HW.out.belowOf HUC.out (Nat.le_of_eq HUS.out)) (by have := HUS.out; omega)) (by omega) HGR.out (by omega)).mono ?_
    rintro e u ⟨⟨v2, l2, rfl, hs2, hl2⟩, hc, hw⟩
    exact hK.out _ _ hw ⟨hS'.1.trans hw, hc.mono (by omega), ⟨within_at (hS'.1.trans hw) z_1_0 (.inr (by omega)), within_at (hS'.1.trans hw) z_1_1 (.inr (by omega)), within_at (hS'.1.trans hw) z_1_2 (.inr (by omega)), within_at (hS'.1.trans hw) z_2_0 (.inr (by omega)), within_at (hS'.1.trans hw) z_2_1 (.inr (by omega)), within_at (hS'.1.trans hw) z_2_2 (.inr (by omega)), within_at (hS'.1.trans hw) z_2_3 (.inr (by omega)), within_at (hS'.1.trans hw) z_2_4 (.inr (by omega)), within_at (hS'.1.trans hw) z_2_5 (.inr (by omega)), within_at (hS'.1.trans hw) z_2_6 (.inr (by omega)), within_at (hS'.1.trans hw) z_2_7 (.inr (by omega))⟩⟩ ⟨v2, l2, rfl, hs2.mono (by have := hS'.1.size; omega), by omega⟩
  refine chainQ_nil (fun u4 hS' => ?_)
  simp only [allP, Act.put, List.setIfInBounds_toArray, List.set_cons_zero, List.set_cons_succ]
  intro x8 hx8
  intro x7 hx7
  intro x6 hx6
  intro x5 hx5
  replace hS' : DrawS U u3 g _ 1000000000 _ 9 u4 := hS'
  obtain ⟨hw, hc, hC⟩ := hS'
  obtain ⟨xq5, rfl, xq5l, xq5u⟩ := hx5
  obtain ⟨xq6, rfl, xq6l, xq6u⟩ := hx6
  obtain ⟨xq7, rfl, xq7l, xq7u⟩ := hx7
  obtain ⟨vq8, lq8, rfl, hsq8, hlq8⟩ := hx8
  have hsz4 := hw.size
  replace HX0 := Lib.hid (HX0.out.kept hw (.inl (by omega)))
  replace HZ2 := Lib.hid (HZ2.out.kept hw (.inr (by omega)))
  replace HZ3 := Lib.hid (HZ3.out.kept hw (.inr (by omega)))
  replace HW := Lib.hid (HW.out.trans hw)
  replace HC := Lib.hid hc
  clear hc hw hC
  clear z_0_0 z_0_1 z_0_2 z_1_0 z_1_1 z_1_2 z_2_0 z_2_1 z_2_2 z_2_3 z_2_4 z_2_5 z_2_6 z_2_7
  have HLq8 := Lib.hid hsq8
  obtain ⟨aq8, nq8, cq8, rfl⟩ := hsq8.here.shape
  have hnq8 : nq8 ≤ 1001 := by have h1 := hsq8.here.len; omega
  have HEq8 := Lib.hid hsq8.here.len
  clear hsq8
  have r_HX0_0 := HX0.out.cell (i := 0) rfl
  have r_HX0_1 := HX0.out.cell (i := 1) rfl
  have r_HX0_2 := HX0.out.cell (i := 2) rfl
  have fr_HX0 := fun j => HX0.out.frozen j
  go_wp2_with fail
  refine NoPanic.normal ?_
  have FHX0 := Lib.hid (((HX0.out.set 0 (.int .i64 P)).set 1 (.int .i64 Q)).set 2 (.int .i64 G))
  clear r_HX0_0 r_HX0_1 r_HX0_2 fr_HX0
  have t_HX0_0 := FHX0.out.cell (i := 0) rfl
  have t_HX0_1 := FHX0.out.cell (i := 1) rfl
  have t_HX0_2 := FHX0.out.cell (i := 2) rfl
  try (go_wp2_with fail)
  have HYS := Lib.hid ((((Within.refl w.heap.size (w.heap.size + 1) u4).setCell (b := w.heap.size) (by omega) (by omega) 0 (.int .i64 P)).setCell (b := w.heap.size) (by omega) (by omega) 1 (.int .i64 Q)).setCell (b := w.heap.size) (by omega) (by omega) 2 (.int .i64 G))
  refine bodyPost_ret (v := .tuple #[.agg #[.int .i64 P, .int .i64 Q, .int .i64 G], .slice aq8 nq8 cq8, .int .i64 x3]) (by simp [results, Try.results24, go_sem, t_HX0_0, t_HX0_1, t_HX0_2]) rfl ⟨⟨_, _, _, _, _, _, rfl, HGR.out, ⟨(HLq8.out.within HYS.out (by omega)).here, by have := HEq8.out; omega⟩, ⟨by omega, by omega⟩⟩, ((((HW.out.belowOf HBW.out (by omega)).setCell (p := ⟨w.heap.size, 0, none⟩) (by show w.heap.size ≤ w.heap.size; omega) (.int .i64 P)).setCell (p := ⟨w.heap.size, 1, none⟩) (by show w.heap.size ≤ w.heap.size; omega) (.int .i64 Q)).setCell (p := ⟨w.heap.size, 2, none⟩) (by show w.heap.size ≤ w.heap.size; omega) (.int .i64 G))⟩
end Go.Proofs.Ytacpnphfopmofaa
namespace Go.Proofs.Ytacpnphfopmofaa
open Go.RowKit
set_option linter.unusedSimpArgs false
set_option linter.unusedVariables false

theorem nthE {l : List Int} {k : Nat} (h : k < l.length) : nth l k = l[k] := by simp [nth, List.getD, h]
/-- the numbers are different -/
def ptsB (l : List Int) : Bool := decide l.Nodup
def trL (l : List Int) : Bool := (l.all fun i => decide (1 ≤ i ∧ i ≤ 7)) && ptsB l
theorem nodup_step {l : List Int} {k : Nat} (hk : k < l.length) (h : (l.take k).Nodup) (hn : nth l k ∉ l.take k) : (l.take (k + 1)).Nodup := by
  rw [List.take_succ_eq_append_getElem hk, List.nodup_append]
  refine ⟨h, by simp, fun a ha b hb => ?_⟩
  rw [List.mem_singleton] at hb
  rw [hb, ← nthE hk]
  rintro rfl
  exact hn ha
theorem nodup_not {l : List Int} {k : Nat} (hk : k < l.length) (h : nth l k ∈ l.take k) : ¬ l.Nodup := by
  intro hn
  have h2 : (l.take (k + 1)).Nodup := hn.sublist (List.take_sublist _ _)
  rw [List.take_succ_eq_append_getElem hk, List.nodup_append] at h2
  exact h2.2.2 _ h (l[k]) (by simp) (nthE hk)
theorem mem_nth {l : List Int} {x : Int} (h : x ∈ l) : ∃ i, i < l.length ∧ nth l i = x := by
  obtain ⟨i, hi, e⟩ := List.getElem_of_mem h
  exact ⟨i, hi, by rw [nthE hi]; exact e⟩
set_option maxRecDepth 100000 in
set_option maxHeartbeats 2000000 in
theorem slices_IndexF (v : Value) (l : List Int) (x : Int) (w : World) (h : Ints w v l) :
    Calls Try.prog 230 #[v, .int .i64 x] w fun e w' => (∃ r : Int, e = .returned (.int .i64 r) ∧ decide (0 ≤ r) = decide (x ∈ l)) ∧ w = w' := by
  obtain ⟨a, n, c, rfl⟩ := h.shape
  have HE := Lib.hid h.len
  have HH := Lib.hid h
  obtain ⟨k1, k2⟩ := h.capMax
  unfold maxLen at k2
  clear h
  go_enter Try.func230, Try.ntmps230
  go_wp2_with fail
  go_loopg [8] n (fun gk iv wr => ∃ k : Nat, k + gk = n ∧ iv = .int .i64 k ∧ (∀ i, i < k → nth l i ≠ x) ∧ w = wr)
  case atStart => exact ⟨0, by omega, rfl, fun i h => absurd h (by omega), rfl⟩
  case round =>
    obtain ⟨k, hkg, rfl, hb, rfl⟩ := hrel
    have HB := Lib.hid hb
    clear hb
    by_cases hlt : k < n
    · obtain ⟨b, o, rfl, hc⟩ := HH.out.at_ (by omega)
      have y0 := hc k hlt
      clear hc
      have b0 : (0 : Int) ≤ (k : Int) := by omega
      have bk1 : (k : Int) < (n : Int) := by omega
      have hwk : IntKind.i64.wrap ((k : Int) + 1) = (k : Int) + 1 := IntWalk.i64_in _ (by omega)
      by_cases he : nth l k = x
      · have HI : Hid (decide ((0 : Int) ≤ (k : Int)) = decide (x ∈ l)) := by
          unfold Hid
          rw [decide_eq_true (show (0 : Int) ≤ (k : Int) by omega), decide_eq_true (show x ∈ l by rw [← he, nthE (by rw [HE.out]; exact hlt)]; exact List.getElem_mem _)]
        rw [he] at y0
        clear he
        go_wp2_with fail
        go_ret
        exact ⟨⟨_, rfl, HI.out⟩, rfl⟩
      · have HN := Lib.hid he
        have hq : (x == nth l k) = false := beq_eq_false_iff_ne.2 (fun q => he q.symm)
        have hq2 : ¬ x = nth l k := fun q => he q.symm
        clear he
        have HNk : Hid (nth l k ≠ x) := HN.out
        clear HN
        generalize nth l k = y at y0 hq hq2
        go_wp2_with fail
        go_roundg (n - (k + 1))
        case measure => omega
        case rel =>
          refine ⟨k + 1, by omega, by go_num, fun i hi => ?_, rfl⟩
          by_cases e : i = k
          · subst e; exact HNk.out
          · exact HB.out i (by omega)
    · obtain rfl : n = k := by omega
      have HI : Hid (decide ((0 : Int) ≤ -1) = decide (x ∈ l)) := by
        unfold Hid
        rw [decide_eq_false (show ¬ (0 : Int) ≤ -1 by omega), decide_eq_false]
        intro hm
        obtain ⟨i, hi, e⟩ := mem_nth hm
        exact HB.out i (by have := HE.out; omega) e
      go_wp2_with fail
      go_ret
      exact ⟨⟨_, rfl, HI.out⟩, rfl⟩
set_option maxHeartbeats 2000000 in
theorem slices_Contains (v : Value) (l : List Int) (x : Int) (w : World) (h : Ints w v l) :
    Calls Try.prog 222 #[v, .int .i64 x] w fun e w' => e = .returned (.bool (decide (x ∈ l))) ∧ w = w' := by
  have H := Lib.hid h; clear h
  go_enter Try.func222, Try.ntmps222
  go_wp2_with fail
  refine (slices_IndexF v l x _ H.out).mono ?_
  rintro e w1 ⟨⟨r, rfl, hr⟩, rfl⟩
  have HR := Lib.hid hr
  clear hr
  go_wp2_with fail
  go_ret
  exact ⟨ret_bool (by first | (rw [HR.out]; done) | (rw [HR.out]; rfl) | exact HR.out.symm), rfl⟩
set_option maxRecDepth 100000 in
set_option maxHeartbeats 4000000 in
theorem impl_areDifferent (v : Value) (l : List Int) (w : World) (h : Ints w v l) :
    Calls Try.prog 195 #[v] w fun e w' => e = .returned (.bool (ptsB l)) ∧ w = w' := by
  obtain ⟨a, n, c, rfl⟩ := h.shape
  have HE := Lib.hid h.len
  have H := Lib.hid h
  obtain ⟨k1, k2⟩ := h.capMax
  unfold maxLen at k2
  clear h
  go_enter Try.func195, Try.ntmps195
  go_wp2_with fail
  go_loopg [7] n (fun gk iv wr => ∃ k : Nat, k + gk = n ∧ iv = .int .i64 k ∧ Hid ((l.take k).Nodup) ∧ w = wr)
  case atStart => exact ⟨0, by omega, rfl, by unfold Hid; simp, rfl⟩
  case round =>
    obtain ⟨k, hkg, rfl, HB, rfl⟩ := hrel
    by_cases hlt : k < n
    · obtain ⟨b, o, rfl, hc⟩ := H.out.at_ (by omega)
      have y0 := hc k hlt
      clear hc
      have b0 : (0 : Int) ≤ (k : Int) := by omega
      have bk1 : (k : Int) < (n : Int) := by omega
      have hwk : IntKind.i64.wrap ((k : Int) + 1) = (k : Int) + 1 := IntWalk.i64_in _ (by omega)
      obtain ⟨hsl, hti⟩ := sl_take H.out (x := (k : Int)) (k := k) rfl (by omega)
      have HT := Lib.hid hti
      have HK : Hid (k < l.length) := by unfold Hid; rw [HE.out]; exact hlt
      clear hti
      obtain ⟨q, hq⟩ : ∃ q, decide (nth l k ∈ l.take k) = q := ⟨_, rfl⟩
      have HQ := Lib.hid hq
      clear hq
      go_wp2_with fail
      refine (slices_Contains _ (l.take k) (nth l k) _ HT.out).mono ?_
      rintro e w1 ⟨rfl, rfl⟩
      rw [HQ.out]
      cases q with
      | true =>
        have HR : Hid (false = ptsB l) := (decide_eq_false (nodup_not HK.out (of_decide_eq_true HQ.out))).symm
        clear hsl
        go_wp2_with fail
        go_ret
        exact ⟨ret_bool HR.out, rfl⟩
      | false =>
        have HN : Hid ((l.take (k + 1)).Nodup) := nodup_step HK.out HB.out (of_decide_eq_false HQ.out)
        clear hsl
        go_wp2_with fail
        go_roundg (n - (k + 1))
        case measure => omega
        case rel => exact ⟨k + 1, by omega, by go_num, HN, rfl⟩
    · obtain rfl : n = k := by omega
      have HR : Hid (true = ptsB l) := by
        refine (decide_eq_true ?_).symm
        have := HB.out
        rwa [List.take_of_length_le (by rw [HE.out]; exact Nat.le_refl _)] at this
      go_wp2_with fail
      go_ret
      exact ⟨ret_bool HR.out, rfl⟩
set_option maxRecDepth 100000 in
set_option maxHeartbeats 4000000 in
theorem spec_yPoints (v : Value) (l : List Int) (w : World) (h : Ints w v l) :
    Calls Try.prog 113 #[v] w fun e w' => e = .returned (.bool (ptsB l)) ∧ w = w' := by
  obtain ⟨a, n, c, rfl⟩ := h.shape
  have HE := Lib.hid h.len
  have H := Lib.hid h
  obtain ⟨k1, k2⟩ := h.capMax
  unfold maxLen at k2
  clear h
  go_enter Try.func113, Try.ntmps113
  go_wp2_with fail
  go_loopg [7] n (fun gk iv wr => ∃ k : Nat, k + gk = n ∧ iv = .int .i64 k ∧ Hid ((l.take k).Nodup) ∧ w = wr)
  case atStart => exact ⟨0, by omega, rfl, by unfold Hid; simp, rfl⟩
  case round =>
    obtain ⟨k, hkg, rfl, HB, rfl⟩ := hrel
    by_cases hlt : k < n
    · obtain ⟨b, o, rfl, hc⟩ := H.out.at_ (by omega)
      have y0 := hc k hlt
      clear hc
      have b0 : (0 : Int) ≤ (k : Int) := by omega
      have bk1 : (k : Int) < (n : Int) := by omega
      have hwk : IntKind.i64.wrap ((k : Int) + 1) = (k : Int) + 1 := IntWalk.i64_in _ (by omega)
      obtain ⟨hsl, hti⟩ := sl_take H.out (x := (k : Int)) (k := k) rfl (by omega)
      have HT := Lib.hid hti
      have HK : Hid (k < l.length) := by unfold Hid; rw [HE.out]; exact hlt
      clear hti
      obtain ⟨q, hq⟩ : ∃ q, decide (nth l k ∈ l.take k) = q := ⟨_, rfl⟩
      have HQ := Lib.hid hq
      clear hq
      go_wp2_with fail
      refine (spec_l1Has _ (l.take k) (nth l k) _ HT.out).mono ?_
      rintro e w1 ⟨rfl, rfl⟩
      rw [HQ.out]
      cases q with
      | true =>
        have HR : Hid (false = ptsB l) := (decide_eq_false (nodup_not HK.out (of_decide_eq_true HQ.out))).symm
        clear hsl
        go_wp2_with fail
        go_ret
        exact ⟨ret_bool HR.out, rfl⟩
      | false =>
        have HN : Hid ((l.take (k + 1)).Nodup) := nodup_step HK.out HB.out (of_decide_eq_false HQ.out)
        clear hsl
        go_wp2_with fail
        go_roundg (n - (k + 1))
        case measure => omega
        case rel => exact ⟨k + 1, by omega, by go_num, HN, rfl⟩
    · obtain rfl : n = k := by omega
      have HR : Hid (true = ptsB l) := by
        refine (decide_eq_true ?_).symm
        have := HB.out
        rwa [List.take_of_length_le (by rw [HE.out]; exact Nat.le_refl _)] at this
      go_wp2_with fail
      go_ret
      exact ⟨ret_bool HR.out, rfl⟩
theorem decides_isTrustee (w : World) : Decides w 118 #[] (fun i => decide (1 ≤ i ∧ i ≤ 7)) :=
  ⟨Try.call118, fun x wr hx hb => (impl_isTrustee x wr).mono fun e w' ⟨h1, h2⟩ => ⟨h1, h2⟩⟩
set_option maxHeartbeats 2000000 in
theorem impl_areTrustees (v : Value) (l : List Int) (w : World) (h : Ints w v l) :
    Calls Try.prog 165 #[v] w fun e w' => e = .returned (.bool (trL l)) ∧ Below w.heap.size w w' := by
  have H := Lib.hid h; clear h
  obtain ⟨q, hq⟩ : ∃ q, (l.all fun i => decide (1 ≤ i ∧ i ≤ 7)) = q := ⟨_, rfl⟩
  obtain ⟨r, hr⟩ : ∃ q, ptsB l = q := ⟨_, rfl⟩
  have HE : Hid (trL l = (q && r)) := by unfold Hid trL; rw [hq, hr]
  have HQ := Lib.hid hq
  have HR := Lib.hid hr
  clear hq hr
  go_enter Try.func165, Try.ntmps165
  go_wp2_with fail
  refine (impl_areAll v l 118 _ _ _ H.out (decides_isTrustee _)).mono ?_
  rintro e w1 ⟨rfl, hb⟩
  have HB := Lib.hid hb
  clear hb
  rw [HQ.out]
  cases q with
  | false =>
    go_wp2_with fail
    go_ret
    exact ⟨ret_bool (by rw [HE.out]; rfl), HB.out⟩
  | true =>
    go_wp2_with fail
    refine (impl_areDifferent v l _ (H.out.below HB.out)).mono ?_
    rintro e w2 ⟨rfl, rfl⟩
    rw [HR.out]
    go_wp2_with fail
    go_ret
    exact ⟨ret_bool (by rw [HE.out]; rfl), HB.out⟩
end Go.Proofs.Ytacpnphfopmofaa
namespace Go.Proofs.Ytacpnphfopmofaa
open Go.RowKit
set_option linter.unusedSimpArgs false
set_option linter.unusedVariables false

/-- the value of a polynomial over the integers -/
def evI (f : List Int) (x : Int) : Int := f.foldr (fun a o => o * x + a) 0
theorem evI_cons (a : Int) (f : List Int) (x : Int) : evI (a :: f) x = evI f x * x + a := rfl
/-- a function that is a polynomial with at most n coefficients -/
def IsP (n : Nat) (F : Int → Int) : Prop := ∃ f : List Int, f.length = n ∧ ∀ x, F x = evI f x
theorem IsP.zero (n : Nat) : IsP n (fun _ => 0) := by
  refine ⟨List.replicate n 0, by simp, fun x => ?_⟩
  induction n with
  | zero => rfl
  | succ n ih => rw [List.replicate_succ, evI_cons, ← ih]; simp
theorem evI_add (f g : List Int) (h : f.length = g.length) (x : Int) : evI (List.zipWith (· + ·) f g) x = evI f x + evI g x := by
  induction f generalizing g with
  | nil => cases g with
    | nil => rfl
    | cons b g => simp at h
  | cons a f ih => cases g with
    | nil => simp at h
    | cons b g =>
      rw [List.zipWith_cons_cons, evI_cons, evI_cons, evI_cons, ih g (by simpa using h), Int.add_mul]; omega
theorem IsP.add {n : Nat} {F G : Int → Int} (hF : IsP n F) (hG : IsP n G) : IsP n (fun x => F x + G x) := by
  obtain ⟨f, hf, hF⟩ := hF
  obtain ⟨g, hg, hG⟩ := hG
  exact ⟨List.zipWith (· + ·) f g, by simp [hf, hg], fun x => by show F x + G x = _; rw [evI_add f g (by omega), hF, hG]⟩
theorem evI_smul (c : Int) (f : List Int) (x : Int) : evI (f.map (c * ·)) x = c * evI f x := by
  induction f with
  | nil => simp [evI]
  | cons a f ih => rw [List.map_cons, evI_cons, evI_cons, ih, Int.mul_add, Int.mul_assoc]
theorem IsP.smul {n : Nat} {F : Int → Int} (c : Int) (hF : IsP n F) : IsP n (fun x => c * F x) := by
  obtain ⟨f, hf, hF⟩ := hF
  exact ⟨f.map (c * ·), by simp [hf], fun x => by show c * F x = _; rw [evI_smul, hF]⟩
theorem IsP.up {n : Nat} {F : Int → Int} (hF : IsP n F) : IsP (n + 1) F := by
  obtain ⟨f, hf, hF⟩ := hF
  refine ⟨f ++ [0], by simp [hf], fun x => ?_⟩
  rw [hF]
  unfold evI
  rw [List.foldr_append]; simp
theorem IsP.le {n m : Nat} {F : Int → Int} (hF : IsP n F) (h : n ≤ m) : IsP m F := by
  obtain ⟨k, rfl⟩ : ∃ k, m = n + k := ⟨m - n, by omega⟩
  induction k with
  | zero => exact hF
  | succ k ih => exact (ih (by omega)).up
theorem IsP.shift {n : Nat} {F : Int → Int} (hF : IsP n F) : IsP (n + 1) (fun x => F x * x) := by
  obtain ⟨f, hf, hF⟩ := hF
  exact ⟨0 :: f, by simp [hf], fun x => by show F x * x = _; rw [evI_cons, hF]; omega⟩
theorem IsP.root {n : Nat} {F : Int → Int} (hF : IsP n F) (r : Int) : IsP (n + 1) (fun x => F x * (x - r)) := by
  have h := hF.shift.add (hF.up.smul (-r))
  obtain ⟨f, hf, h⟩ := h
  refine ⟨f, hf, fun x => ?_⟩
  rw [← h x]
  show F x * (x - r) = F x * x + -r * F x
  rw [Int.mul_sub, Int.neg_mul, Int.mul_comm r]; omega
theorem IsP.one : IsP 1 (fun _ => 1) := ⟨[1], rfl, fun x => by simp [evI]⟩
theorem IsP.ev (f : List Int) : IsP f.length (evI f) := ⟨f, rfl, fun _ => rfl⟩
/-- division by a root -/
theorem evI_div (f : List Int) (a : Int) : f ≠ [] → ∃ g : List Int, g.length + 1 = f.length ∧ ∀ x, evI f x = (x - a) * evI g x + evI f a := by
  induction f with
  | nil => intro h; exact absurd rfl h
  | cons b f ih =>
    intro _
    cases f with
    | nil => exact ⟨[], rfl, fun x => by simp [evI]⟩
    | cons c f =>
      obtain ⟨g, hg, h⟩ := ih (by simp)
      refine ⟨evI (c :: f) a :: g, by simp at hg ⊢; omega, fun x => ?_⟩
      rw [evI_cons b, evI_cons b, evI_cons (evI (c :: f) a), h x]
      generalize evI (c :: f) a = u
      generalize evI g x = v
      simp only [Int.sub_mul, Int.mul_sub, Int.add_mul, Int.mul_add, Int.mul_assoc, Int.mul_comm, Int.mul_left_comm]
      omega
/-- a product that a prime divides -/
theorem prm_mul {q a b : Int} (hq : Prm q) (h : a * b % q = 0) : a % q = 0 ∨ b % q = 0 := by
  by_cases ha : a % q = 0
  · exact .inl ha
  · refine .inr ?_
    have h2 := hq.1
    have h0 := Int.emod_nonneg a (show q ≠ 0 by omega)
    have h1 := Int.emod_lt_of_pos a (show 0 < q by omega)
    obtain ⟨z, hz⟩ := inverse_is hq (show 0 < a % q by omega) h1
    have e : z * (a * b) % q = b % q := by
      rw [emod_mul_left] at hz
      rw [← Int.mul_assoc, Int.mul_comm z, Int.mul_emod, hz, Int.one_mul, Int.emod_emod]
    rw [← e, Int.mul_emod, h, Int.mul_zero, Int.zero_emod]
/-- points that are different modulo q -/
def Diff (q : Int) (xs : List Int) : Prop := xs.Pairwise fun a b => (a - b) % q ≠ 0
/-- a polynomial with as many roots as coefficients is zero -/
theorem roots_zero {q : Int} (hq : Prm q) : ∀ (n : Nat) (F : Int → Int) (xs : List Int), IsP n F → xs.length = n → Diff q xs → (∀ a ∈ xs, F a % q = 0) → ∀ x, F x % q = 0 := by
  intro n
  induction n with
  | zero =>
    intro F xs hF _ _ _ x
    obtain ⟨f, hf, hF⟩ := hF
    have : f = [] := List.length_eq_zero_iff.1 hf
    rw [hF, this]; rfl
  | succ n ih =>
    intro F xs hF hl hd hr x
    obtain ⟨f, hf, hF⟩ := hF
    cases xs with
    | nil => simp at hl
    | cons a xs =>
      obtain ⟨g, hg, h⟩ := evI_div f a (by intro e; rw [e] at hf; simp at hf)
      have ha : evI f a % q = 0 := by rw [← hF]; exact hr a (by simp)
      have hd' := List.pairwise_cons.1 hd
      have k := ih (evI g) xs ⟨g, by omega, fun _ => rfl⟩ (by simpa using hl) hd'.2 (fun b hb => by
        have hb0 : F b % q = 0 := hr b (by simp [hb])
        rw [hF, h b, Int.add_emod, ha, Int.add_zero, Int.emod_emod] at hb0
        rcases prm_mul hq hb0 with h1 | h1
        · exfalso
          refine hd'.1 b hb ?_
          rw [show a - b = -(b - a) by omega]
          obtain ⟨t, ht⟩ := Int.dvd_of_emod_eq_zero h1
          rw [ht, show -(q * t) = q * -t by rw [Int.mul_neg]]
          exact Int.mul_emod_right _ _
        · exact h1) x
      rw [hF, h x, Int.add_emod, ha, Int.add_zero, Int.emod_emod, Int.mul_emod, k, Int.mul_zero, Int.zero_emod]
/-- the product of the distances to the points -/
def disI (xs : List Int) (x : Int) : Int := xs.foldl (fun o b => o * (x - b)) 1
theorem disI_fold (xs : List Int) (x : Int) : ∀ o : Int, xs.foldl (fun o b => o * (x - b)) o = o * disI xs x := by
  induction xs with
  | nil => intro o; simp [disI]
  | cons b xs ih =>
    intro o
    unfold disI
    rw [List.foldl_cons, List.foldl_cons, ih, ih (1 * (x - b)), Int.one_mul, Int.mul_assoc]
theorem disI_cons (b : Int) (xs : List Int) (x : Int) : disI (b :: xs) x = (x - b) * disI xs x := by
  show List.foldl _ (1 * (x - b)) xs = _
  rw [disI_fold, Int.one_mul]
theorem disI_isP (xs : List Int) : IsP (xs.length + 1) (disI xs) := by
  induction xs with
  | nil => exact IsP.one
  | cons b xs ih =>
    obtain ⟨f, hf, h⟩ := ih.root b
    exact ⟨f, hf, fun x => by rw [disI_cons, ← h x, Int.mul_comm]⟩
theorem disI_root {xs : List Int} {a : Int} (h : a ∈ xs) : disI xs a = 0 := by
  induction xs with
  | nil => simp at h
  | cons b xs ih =>
    rw [disI_cons]
    rcases List.mem_cons.1 h with h | h
    · rw [h]; simp
    · rw [ih h]; simp
theorem disI_ne {q : Int} (hq : Prm q) {xs : List Int} {a : Int} (h : ∀ b ∈ xs, (a - b) % q ≠ 0) : disI xs a % q ≠ 0 := by
  have h2 := hq.1
  induction xs with
  | nil => show (1 : Int) % q ≠ 0; rw [Int.emod_eq_of_lt (by omega) (by omega)]; omega
  | cons b xs ih =>
    rw [disI_cons]
    intro h0
    rcases prm_mul hq h0 with h1 | h1
    · exact h b (by simp) h1
    · exact ih (fun c hc => h c (by simp [hc])) h1
/-- the other points -/
def restL (xs : List Int) (i : Nat) : List Int := xs.take i ++ xs.drop (i + 1)
theorem restL_len {xs : List Int} {i : Nat} (h : i < xs.length) : (restL xs i).length = xs.length - 1 := by
  unfold restL; simp; omega
/-- the coefficient of a point -/
noncomputable def lagI (q : Int) (xs : List Int) (x : Int) (i : Nat) : Int := disI (restL xs i) x % q * invQ (disI (restL xs i) (nth xs i) % q) q % q
noncomputable def lagL (q : Int) (xs : List Int) (x : Int) : List Int := (List.range xs.length).map (lagI q xs x)
theorem diff_rest {q : Int} {xs : List Int} (h : Diff q xs) {i : Nat} (hi : i < xs.length) : ∀ b ∈ restL xs i, (nth xs i - b) % q ≠ 0 := by
  have hn : nth xs i = xs[i] := by simp [nth, List.getD, hi]
  intro b hb
  unfold restL at hb
  rw [hn]
  rcases List.mem_append.1 hb with hb | hb
  · obtain ⟨j, hj, rfl⟩ := List.mem_take_iff_getElem.1 hb
    have hj' : j < i := by omega
    have := (List.pairwise_iff_getElem.1 h) j i (by omega) hi hj'
    intro h0
    refine this ?_
    rw [show xs[j] - xs[i] = -(xs[i] - xs[j]) by omega]
    obtain ⟨t, ht⟩ := Int.dvd_of_emod_eq_zero h0
    rw [ht, show -(q * t) = q * -t by rw [Int.mul_neg]]
    exact Int.mul_emod_right _ _
  · obtain ⟨j, hj, rfl⟩ := List.mem_drop_iff_getElem.1 hb
    have := (List.pairwise_iff_getElem.1 h) i (i + 1 + j) hi (by omega) (by omega)
    exact this
theorem mem_rest {xs : List Int} {i j : Nat} (hj : j < xs.length) (h : j ≠ i) : nth xs j ∈ restL xs i := by
  have hn : nth xs j = xs[j] := by simp [nth, List.getD, hj]
  rw [hn]; unfold restL
  rcases Nat.lt_or_gt_of_ne h with h | h
  · exact List.mem_append.2 (.inl (List.mem_take_iff_getElem.2 ⟨j, by omega, rfl⟩))
  · refine List.mem_append.2 (.inr (List.mem_drop_iff_getElem.2 ⟨j - (i + 1), by omega, ?_⟩))
    congr 1; omega
theorem lag_den {q : Int} (hq : Prm q) {xs : List Int} (h : Diff q xs) {i : Nat} (hi : i < xs.length) : 0 < disI (restL xs i) (nth xs i) % q ∧ disI (restL xs i) (nth xs i) % q < q := by
  have h2 := hq.1
  have h0 := Int.emod_nonneg (disI (restL xs i) (nth xs i)) (show q ≠ 0 by omega)
  have := disI_ne hq (diff_rest h hi)
  exact ⟨by omega, Int.emod_lt_of_pos _ (by omega)⟩
theorem lag_at {q : Int} (hq : Prm q) {xs : List Int} (h : Diff q xs) {i j : Nat} (hi : i < xs.length) (hj : j < xs.length) : lagI q xs (nth xs j) i = if j = i then 1 else 0 := by
  have h2 := hq.1
  unfold lagI
  by_cases e : j = i
  · subst e
    obtain ⟨d1, d2⟩ := lag_den hq h hi
    rw [if_pos rfl]
    exact (invQ_is hq d1 d2).2
  · rw [if_neg e, disI_root (mem_rest hj e)]; simp
/-- the sum that interpolates -/
def dotI (n : Nat) (f g : Nat → Int) : Int := ((List.range n).map fun i => f i * g i).sum
theorem dotI_succ (n : Nat) (f g : Nat → Int) : dotI (n + 1) f g = dotI n f g + f n * g n := by
  unfold dotI; rw [List.range_succ, List.map_append, List.sum_append]; simp
theorem dotI_isP {m : Nat} (c : Nat → Int) (F : Nat → Int → Int) (n : Nat) (h : ∀ i, i < n → IsP m (F i)) : IsP m (fun x => dotI n c (fun i => F i x)) := by
  induction n with
  | zero => exact IsP.zero m
  | succ n ih =>
    obtain ⟨f, hf, hF⟩ := (ih fun i hi => h i (by omega)).add ((h n (by omega)).smul (c n))
    exact ⟨f, hf, fun x => by rw [← hF x]; exact dotI_succ n c (fun i => F i x)⟩
theorem dotI_mod {q : Int} (n : Nat) {f f' g g' : Nat → Int} (h : ∀ i, i < n → (f i * g i) % q = (f' i * g' i) % q) : dotI n f g % q = dotI n f' g' % q := by
  induction n with
  | zero => rfl
  | succ n ih =>
    rw [dotI_succ, dotI_succ, Int.add_emod, ih (fun i hi => h i (by omega)), h n (by omega), ← Int.add_emod]
theorem dotI_single {n j : Nat} (hj : j < n) (f : Nat → Int) : dotI n f (fun i => if j = i then 1 else 0) = f j := by
  induction n with
  | zero => omega
  | succ n ih =>
    rw [dotI_succ]
    by_cases e : j = n
    · subst e
      rw [if_pos rfl]
      have : dotI j f (fun i => if j = i then 1 else 0) = 0 := by
        clear ih hj
        have : ∀ m, m ≤ j → dotI m f (fun i => if j = i then 1 else 0) = 0 := by
          intro m
          induction m with
          | zero => intro _; rfl
          | succ m ihm => intro hm; rw [dotI_succ, ihm (by omega), if_neg (by omega)]; simp
        exact this j (Nat.le_refl _)
      rw [this]; simp
    · rw [ih (by omega), if_neg e]; simp
/-- interpolation: a polynomial with at most as many coefficients as points -/
theorem interp {q : Int} (hq : Prm q) {xs : List Int} (hd : Diff q xs) {F : Int → Int} (hF : IsP xs.length F) (x : Int) (vs : Nat → Int) (hv : ∀ i, i < xs.length → vs i % q = F (nth xs i) % q) :
    dotI xs.length vs (lagI q xs x) % q = F x % q := by
  have h2 := hq.1
  -- the sum as a polynomial
  let c : Nat → Int := fun i => vs i * invQ (disI (restL xs i) (nth xs i) % q) q
  have hG : IsP xs.length (fun y => dotI xs.length c (fun i => disI (restL xs i) y) + (-1) * F y) := by
    refine IsP.add (dotI_isP c _ _ fun i hi => ?_) (hF.smul (-1))
    refine (disI_isP (restL xs i)).le ?_
    rw [restL_len hi]; omega
  have key : ∀ y, dotI xs.length vs (lagI q xs y) % q = dotI xs.length c (fun i => disI (restL xs i) y) % q := fun y => by
    refine dotI_mod _ fun i hi => ?_
    show (vs i * lagI q xs y i) % q = (vs i * invQ (disI (restL xs i) (nth xs i) % q) q * disI (restL xs i) y) % q
    unfold lagI
    rw [emod_mul_right, ← Int.mul_assoc, Int.mul_assoc (vs i) (disI (restL xs i) y % q), Int.mul_comm (disI (restL xs i) y % q), ← Int.mul_assoc, emod_mul_right]
  have z := roots_zero hq _ _ xs hG rfl hd (fun a ha => by
    obtain ⟨j, hj, rfl⟩ := List.getElem_of_mem ha
    have hn : nth xs j = xs[j] := by simp [nth, List.getD, hj]
    rw [← hn]
    show (dotI xs.length c (fun i => disI (restL xs i) (nth xs j)) + (-1) * F (nth xs j)) % q = 0
    rw [Int.add_emod, ← key (nth xs j), dotI_mod (f' := vs) (g' := fun i => if j = i then 1 else 0) _ (fun i hi => by rw [lag_at hq hd hi hj]), dotI_single hj, hv j hj, ← Int.add_emod]
    rw [show F (nth xs j) + -1 * F (nth xs j) = 0 by omega]; simp) x
  rw [key]
  have z' : (dotI xs.length c (fun i => disI (restL xs i) x) + (-1) * F x) % q = 0 := z
  have e : (dotI xs.length c (fun i => disI (restL xs i) x) - F x) % q = 0 := by rw [← z']; congr 1; omega
  exact Int.emod_eq_emod_iff_emod_sub_eq_zero.2 e
end Go.Proofs.Ytacpnphfopmofaa
namespace Go.Proofs.Ytacpnphfopmofaa
open Go.RowKit
set_option linter.unusedSimpArgs false
set_option linter.unusedVariables false

theorem tdiv_pos {a b : Int} (h : 0 ≤ a) : Int.tdiv a b = a / b := Int.tdiv_eq_ediv_of_nonneg h
set_option maxHeartbeats 1000000 in
theorem impl_inverse (a m : Int) (w : World) (hm : Prm m) (h0 : 0 < a) (h1 : a < m) (h2 : m ≤ 2000000000) :
    Calls Try.prog 199 #[.int .i64 a, .int .i64 m] w fun e w' => e = .returned (.int .i64 (invQ a m)) ∧ w = w' := by
  have HM := Lib.hid hm
  clear hm
  go_enter Try.func199, Try.ntmps199
  go_wp2
  go_loopg [5, 6, 7, 8] a.toNat (fun g rv nv xv yv wr => ∃ (r n x y : Int), rv = .int .i64 r ∧ nv = .int .i64 n ∧ xv = .int .i64 x ∧ yv = .int .i64 y ∧ n ≤ (g : Int) ∧ Hid (EuInv a m r n x y) ∧ w = wr)
  case atStart => exact ⟨m, a, 0, 1, rfl, rfl, rfl, rfl, by omega, EuInv.start (by omega) (by omega) (by omega), rfl⟩
  case round =>
    obtain ⟨r, n, x, y, rfl, rfl, rfl, rfl, hg, HI, rfl⟩ := hrel
    have hn0 : 0 ≤ n := HI.out.1
    have hr1 : 1 ≤ r := HI.out.2.1
    have hrm : r ≤ m := HI.out.2.2.1
    have hnm : n ≤ m := HI.out.2.2.2.1
    obtain ⟨hx1, hx2, hy1, hy2⟩ := HI.out.bd
    by_cases hz : n = 0
    · subst hz
      obtain ⟨e1, e2⟩ := HI.out.inv HM.out h0 h1
      have HE := Lib.hid e2
      subst e1
      clear e2
      go_wp2_with fail
      refine (impl_mod x m _ ⟨by omega, by omega⟩ (by omega) (by omega)).mono ?_
      rintro e w1 ⟨rfl, rfl⟩
      go_wp2_with fail
      go_ret
      exact ⟨ret_int HE.out, rfl⟩
    · have hz2 : (n == 0) = false := beq_eq_false_iff_ne.2 hz
      have hz3 : (n != 0) = true := by rw [bne_iff_ne]; exact hz
      obtain ⟨HN, s1, s2⟩ := HI.out.step (by omega)
      obtain ⟨q0, q1, q2, q3, q4, q5⟩ := HI.out.quo (by omega)
      have hd : Int.tdiv r n = r / n := tdiv_pos (by omega)
      obtain ⟨t1, t2, t3, t4⟩ := HN.bd
      have HN := Lib.hid HN
      obtain ⟨q, hq⟩ : ∃ q, r / n = q := ⟨_, rfl⟩
      rw [hq] at HN s1 s2 q0 q1 q2 q3 q4 q5 hd t3 t4
      clear hq
      have w1 : IntKind.i64.wrap q = q := IntWalk.i64_in _ (by omega)
      have w2 : IntKind.i64.wrap (q * n) = q * n := IntWalk.i64_in _ (by omega)
      have w3 : IntKind.i64.wrap (r - q * n) = r - q * n := IntWalk.i64_in _ (by omega)
      have w4 : IntKind.i64.wrap (q * y) = q * y := IntWalk.i64_in _ (by omega)
      have w5 : IntKind.i64.wrap (x - q * y) = x - q * y := IntWalk.i64_in _ (by omega)
      go_wp2_with fail
      go_roundg (r - q * n).toNat
      case measure => omega
      case rel => exact ⟨n, r - q * n, y, x - q * y, rfl, rfl, rfl, rfl, by omega, HN.out, rfl⟩
set_option maxHeartbeats 1000000 in
theorem spec_nInverse (a m : Int) (w : World) (hm : Prm m) (ha : I64 a) (h0 : 0 < a % m) (h2 : m ≤ 2000000000) :
    Calls Try.prog 168 #[.int .i64 a, .int .i64 m] w fun e w' => e = .returned (.tuple #[.int .i64 (invQ (a % m) m), .bool true]) ∧ w = w' := by
  have hm2 := hm.1
  have HM := Lib.hid hm
  clear hm
  have h1 : a % m < m := Int.emod_lt_of_pos _ (by omega)
  have HA := Lib.hid ha
  clear ha
  go_enter Try.func168, Try.ntmps168
  go_wp2_with fail
  refine (spec_nMod a m _ HA.out (by omega) (by omega)).mono ?_
  rintro e w1 ⟨rfl, rfl⟩
  clear HA
  obtain ⟨c, hcc⟩ : ∃ c, a % m = c := ⟨_, rfl⟩
  rw [hcc] at h0 h1 ⊢
  have HCC := Lib.hid hcc
  clear hcc
  go_wp2_with fail
  go_loopg [6, 7, 8, 9] m.toNat (fun g rv nv xv yv wr => ∃ (r n x y : Int), rv = .int .i64 r ∧ nv = .int .i64 n ∧ xv = .int .i64 x ∧ yv = .int .i64 y ∧ n ≤ (g : Int) ∧ Hid (EuInv c m r n x y) ∧ w = wr)
  case atStart => exact ⟨c, m, 1, 0, rfl, rfl, rfl, rfl, by omega, EuInv.start2 (by omega) (by omega), rfl⟩
  case round =>
    obtain ⟨r, n, x, y, rfl, rfl, rfl, rfl, hg, HI, rfl⟩ := hrel
    have hn0 : 0 ≤ n := HI.out.1
    have hr1 : 1 ≤ r := HI.out.2.1
    have hrm : r ≤ m := HI.out.2.2.1
    have hnm : n ≤ m := HI.out.2.2.2.1
    obtain ⟨hx1, hx2, hy1, hy2⟩ := HI.out.bd
    by_cases hz : n = 0
    · subst hz
      obtain ⟨e1, e2⟩ := HI.out.inv HM.out h0 h1
      have HE := Lib.hid e2
      subst e1
      clear e2
      go_wp2_with fail
      refine (spec_nMod x m _ ⟨by omega, by omega⟩ (by omega) (by omega)).mono ?_
      rintro e w1 ⟨rfl, rfl⟩
      go_wp2_with fail
      go_ret2
      exact ⟨by rw [HCC.out, HE.out]; rfl, rfl⟩
    · have hz2 : (n == 0) = false := beq_eq_false_iff_ne.2 hz
      have hz3 : (n != 0) = true := by rw [bne_iff_ne]; exact hz
      obtain ⟨HN, s1, s2⟩ := HI.out.step (by omega)
      obtain ⟨q0, q1, q2, q3, q4, q5⟩ := HI.out.quo (by omega)
      have hd : Int.tdiv r n = r / n := tdiv_pos (by omega)
      obtain ⟨t1, t2, t3, t4⟩ := HN.bd
      have HN := Lib.hid HN
      obtain ⟨q, hq⟩ : ∃ q, r / n = q := ⟨_, rfl⟩
      rw [hq] at HN s1 s2 q0 q1 q2 q3 q4 q5 hd t3 t4
      clear hq
      have w1 : IntKind.i64.wrap q = q := IntWalk.i64_in _ (by omega)
      have w2 : IntKind.i64.wrap (q * n) = q * n := IntWalk.i64_in _ (by omega)
      have w3 : IntKind.i64.wrap (r - q * n) = r - q * n := IntWalk.i64_in _ (by omega)
      have w4 : IntKind.i64.wrap (q * y) = q * y := IntWalk.i64_in _ (by omega)
      have w5 : IntKind.i64.wrap (x - q * y) = x - q * y := IntWalk.i64_in _ (by omega)
      go_wp2_with fail
      go_roundg (r - q * n).toNat
      case measure => omega
      case rel => exact ⟨n, r - q * n, y, x - q * y, rfl, rfl, rfl, rfl, by omega, HN.out, rfl⟩
end Go.Proofs.Ytacpnphfopmofaa

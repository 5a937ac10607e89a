/- Quotients, small exponents: walks (printed by gen_bat1.py). -/
import Derived.Test.YtacpnphfopmofaaDrN2P
import Derived.Test.YtacpnphfopmofaaBaP
import Derived.Test.YtacpnphfopmofaaInvP
namespace Go.Proofs.Ytacpnphfopmofaa
open Go.RowKit
set_option linter.unusedSimpArgs false
set_option linter.unusedVariables false

def sSmall : ByteArray := { data := #[115, 109, 97, 108, 108] }
set_option maxRecDepth 100000 in
set_option maxHeartbeats 2000000 in
theorem impl_over (gr : GroupD) (x0 y0 : Int) (w : World) (hg : OkG gr) (sx : Small x0) (sy : Small y0) :
    Calls Try.prog 89 #[.agg #[.int .i64 gr.p, .int .i64 gr.q, .int .i64 gr.g], .int .i64 x0, .int .i64 y0] w fun e w' => e = .returned (.int .i64 (mulL gr [x0, powE gr y0 (-1)])) ∧ Below w.heap.size w w' := by
  have HG := Lib.hid hg
  clear hg
  obtain ⟨W, hW⟩ : ∃ W, W = w.alloc (.cells #[.int .i64 gr.p, .int .i64 gr.q, .int .i64 gr.g] 24) := ⟨_, rfl⟩
  have HB : Hid (Below w.heap.size w W) := by unfold Hid; rw [hW]; (repeat (first | exact Below.refl _ _ | assumption | refine Below.drew ?_ | refine Below.alloc ?_ (by first | (simp; done) | (simp; omega)) _ | refine Below.setCell ?_ (by first | (simp; done) | (simp; omega)) _))
  have c0_0 : W.cell? ⟨w.heap.size, 0, none⟩ = some (.int .i64 gr.p) := by rw [hW]; simp [go_sem]
  have c0_1 : W.cell? ⟨w.heap.size, 1, none⟩ = some (.int .i64 gr.q) := by rw [hW]; simp [go_sem]
  have c0_2 : W.cell? ⟨w.heap.size, 2, none⟩ = some (.int .i64 gr.g) := by rw [hW]; simp [go_sem]
  have HSW : Hid (W.heap.size = w.heap.size + 1) := by unfold Hid; rw [hW]; simp
  go_enter Try.func89, Try.ntmps89
  go_wp2_with fail
  rw [← hW]
  have hse : w.heap.size + 1 = W.heap.size := by have := HSW.out; omega
  (try rw [hse])
  clear hse
  clear hW
  have hc : Below W.heap.size W W := Below.refl _ _
  try (go_wp2_with fail)
  refine wp_region_noPanic ?_
  refine wp_region_P (fun w' => w'.cell? ⟨w.heap.size, 0, none⟩ = some (.int .i64 gr.p) ∧ w'.cell? ⟨w.heap.size, 1, none⟩ = some (.int .i64 gr.q) ∧ w'.cell? ⟨w.heap.size, 2, none⟩ = some (.int .i64 gr.g)) 10 [(0, []), (1, []), (2, []), (3, []), (4, [1, 0]), (5, [3, 0]), (6, [5, 0]), (7, [0])] [] (by kernel_rfl) (by kernel_rfl) (by kernel_rfl) rfl (fun _ _ _ _ h => h) (fun w' h => ⟨box_at c0_0 h, box_at c0_1 h, box_at c0_2 h⟩) ?_
  simp only [pickP, pickN, List.getElem?_cons_zero, List.getElem?_cons_succ]
  iterate 4 (refine' chainP_read _ rfl rfl (fun w' hS' => ?_) ?_; rotate_left; · (simp only [lookP, allP, Act.put, List.getElem?_cons_zero, List.getElem?_cons_succ, List.setIfInBounds_toArray, List.set_cons_zero, List.set_cons_succ]; (try dsimp only at hS'); go_simp; (try with_reducible rfl)))
  -- 4: call { callee := value (func 154), args := #[t9, t10], argTypes := #[24, 3] }
  refine chainP_call (d := (some 11)) (.int .i64 (powE gr y0 (-1))) rfl rfl (fun w' hS' => ?_) ?_
  · simp only [lookP, allP, Act.put, List.getElem?_cons_zero, List.getElem?_cons_succ, List.setIfInBounds_toArray, List.set_cons_zero, List.set_cons_succ]
    intro K hK
    go_simp
    go_at_call 154
    refine (impl_inv gr y0 _ HG.out sy).mono ?_
    rintro e u ⟨rfl, hq⟩
    exact hK.out _ hq
  -- 5: buildSlice 42 2 #[(0, t8), (1, t11)]
  refine chainP_do (d := (some 12)) (fun v w => Ints w v [x0, powE gr y0 (-1)]) (fun v w w' hb h => Ints.below h hb) rfl rfl (fun w' hS' => ?_) ?_
  · simp only [lookP, allP, Act.put, List.getElem?_cons_zero, List.getElem?_cons_succ, List.setIfInBounds_toArray, List.set_cons_zero, List.set_cons_succ]
    intro K hK
    go_simp
    refine hK.out _ _ ((Below.refl _ _).alloc (Nat.le_refl _) _) ?_
    exact (OwnI.lit (B := w'.heap.size) w' (Nat.le_refl _) (l := [x0, powE gr y0 (-1)]) (AllI64.cons (small_64 sx) (AllI64.cons (small_64 (powE_small HG.out _ _)) AllI64.nil)) rfl (by simp [maxLen]) 2 rfl).ints
  -- 6: call { callee := value (func 90), args := #[t7, t12], argTypes := #[24, 42] }
  refine chainP_call (d := (some 13)) (.int .i64 (mulL gr [x0, powE gr y0 (-1)])) rfl rfl (fun w' hS' => ?_) ?_
  · simp only [lookP, allP, Act.put, List.getElem?_cons_zero, List.getElem?_cons_succ, List.setIfInBounds_toArray, List.set_cons_zero, List.set_cons_succ]
    intro x5 hx5
    intro K hK
    go_simp
    go_at_call 90
    refine (impl_mul gr _ [x0, powE gr y0 (-1)] _ HG.out hx5 (AllSmall.cons sx (AllSmall.cons (powE_small HG.out _ _) AllSmall.nil))).mono ?_
    rintro e u ⟨rfl, hq⟩
    exact hK.out _ hq
  -- 7: assign t13
  refine' chainP_read (d := (some 6)) _ rfl rfl (fun w' hS' => ?_) ?_; rotate_left
  · simp only [lookP, allP, Act.put, List.getElem?_cons_zero, List.getElem?_cons_succ, List.setIfInBounds_toArray, List.set_cons_zero, List.set_cons_succ]
    (try dsimp only at hS')
    go_simp
    (try with_reducible rfl)
  refine chainP_nil (fun u1 hS' => ?_)
  simp only [allP, Act.put, List.setIfInBounds_toArray, List.set_cons_zero, List.set_cons_succ]
  intro x5 hx5
  have hq1 := hS'.1
  clear hS'
  replace hc := Below.next hc hq1
  replace c0_0 := box_at c0_0 hq1
  replace c0_1 := box_at c0_1 hq1
  replace c0_2 := box_at c0_2 hq1
  clear hq1
  go_wp2_with fail
  refine NoPanic.normal ?_
  go_wp2_with fail
  go_ret
  exact ⟨rfl, HB.out.trans (hc.mono HB.out.size)⟩
set_option maxRecDepth 100000 in
set_option maxHeartbeats 2000000 in
theorem spec_wRatio (gr : GroupD) (g0 z0 x0 y0 e0 : Int) (w : World) (hg : OkG gr) (sg : Small g0) (iz : I64 z0) (sx : Small x0) (sy : Small y0) (ie : I64 e0) :
    Calls Try.prog 97 #[.agg #[.int .i64 gr.p, .int .i64 gr.q, .int .i64 gr.g], .int .i64 g0, .int .i64 z0, .int .i64 x0, .int .i64 y0, .int .i64 e0] w fun e w' => e = .returned (.int .i64 (mulL gr [powE gr g0 z0, powE gr (mulL gr [x0, powE gr y0 e0]) (-1)])) ∧ Below w.heap.size w w' := by
  have HG := Lib.hid hg
  clear hg
  obtain ⟨W, hW⟩ : ∃ W, W = w.alloc (.cells #[.int .i64 gr.p, .int .i64 gr.q, .int .i64 gr.g] 24) := ⟨_, rfl⟩
  have HB : Hid (Below w.heap.size w W) := by unfold Hid; rw [hW]; (repeat (first | exact Below.refl _ _ | assumption | refine Below.drew ?_ | refine Below.alloc ?_ (by first | (simp; done) | (simp; omega)) _ | refine Below.setCell ?_ (by first | (simp; done) | (simp; omega)) _))
  have c0_0 : W.cell? ⟨w.heap.size, 0, none⟩ = some (.int .i64 gr.p) := by rw [hW]; simp [go_sem]
  have c0_1 : W.cell? ⟨w.heap.size, 1, none⟩ = some (.int .i64 gr.q) := by rw [hW]; simp [go_sem]
  have c0_2 : W.cell? ⟨w.heap.size, 2, none⟩ = some (.int .i64 gr.g) := by rw [hW]; simp [go_sem]
  have HSW : Hid (W.heap.size = w.heap.size + 1) := by unfold Hid; rw [hW]; simp
  go_enter Try.func97, Try.ntmps97
  go_wp2_with fail
  rw [← hW]
  have hse : w.heap.size + 1 = W.heap.size := by have := HSW.out; omega
  (try rw [hse])
  clear hse
  clear hW
  have hc : Below W.heap.size W W := Below.refl _ _
  try (go_wp2_with fail)
  refine wp_region_noPanic ?_
  refine wp_region_P (fun w' => w'.cell? ⟨w.heap.size, 0, none⟩ = some (.int .i64 gr.p) ∧ w'.cell? ⟨w.heap.size, 1, none⟩ = some (.int .i64 gr.q) ∧ w'.cell? ⟨w.heap.size, 2, none⟩ = some (.int .i64 gr.g)) 20 [(0, []), (1, []), (2, []), (3, []), (4, [2, 1, 0]), (5, []), (6, []), (7, []), (8, []), (9, []), (10, []), (11, [2, 1, 0]), (12, [4, 0]), (13, [6, 0]), (14, [8, 0]), (15, [10, 0]), (16, [15, 0]), (17, [0])] [] (by kernel_rfl) (by kernel_rfl) (by kernel_rfl) rfl (fun _ _ _ _ h => h) (fun w' h => ⟨box_at c0_0 h, box_at c0_1 h, box_at c0_2 h⟩) ?_
  simp only [pickP, pickN, List.getElem?_cons_zero, List.getElem?_cons_succ]
  iterate 4 (refine' chainP_read _ rfl rfl (fun w' hS' => ?_) ?_; rotate_left; · (simp only [lookP, allP, Act.put, List.getElem?_cons_zero, List.getElem?_cons_succ, List.setIfInBounds_toArray, List.set_cons_zero, List.set_cons_succ]; (try dsimp only at hS'); go_simp; (try with_reducible rfl)))
  -- 4: call { callee := value (func 57), args := #[t14, t15, t16], argTypes := #[24, 3, 3] }
  refine chainP_call (d := (some 17)) (.int .i64 (powE gr g0 z0)) rfl rfl (fun w' hS' => ?_) ?_
  · simp only [lookP, allP, Act.put, List.getElem?_cons_zero, List.getElem?_cons_succ, List.setIfInBounds_toArray, List.set_cons_zero, List.set_cons_succ]
    intro K hK
    go_simp
    go_at_call 57
    refine (spec_gExp gr g0 z0 _ HG.out sg iz).mono ?_
    rintro e u ⟨rfl, hq⟩
    exact hK.out _ hq
  iterate 6 (refine' chainP_read _ rfl rfl (fun w' hS' => ?_) ?_; rotate_left; · (simp only [lookP, allP, Act.put, List.getElem?_cons_zero, List.getElem?_cons_succ, List.setIfInBounds_toArray, List.set_cons_zero, List.set_cons_succ]; (try dsimp only at hS'); go_simp; (try with_reducible rfl)))
  -- 11: call { callee := value (func 57), args := #[t21, t22, t23], argTypes := #[24, 3, 3] }
  refine chainP_call (d := (some 24)) (.int .i64 (powE gr y0 e0)) rfl rfl (fun w' hS' => ?_) ?_
  · simp only [lookP, allP, Act.put, List.getElem?_cons_zero, List.getElem?_cons_succ, List.setIfInBounds_toArray, List.set_cons_zero, List.set_cons_succ]
    intro K hK
    go_simp
    go_at_call 57
    refine (spec_gExp gr y0 e0 _ HG.out sy ie).mono ?_
    rintro e u ⟨rfl, hq⟩
    exact hK.out _ hq
  -- 12: buildSlice 42 2 #[(0, t20), (1, t24)]
  refine chainP_do (d := (some 25)) (fun v w => Ints w v [x0, powE gr y0 e0]) (fun v w w' hb h => Ints.below h hb) rfl rfl (fun w' hS' => ?_) ?_
  · simp only [lookP, allP, Act.put, List.getElem?_cons_zero, List.getElem?_cons_succ, List.setIfInBounds_toArray, List.set_cons_zero, List.set_cons_succ]
    intro K hK
    go_simp
    refine hK.out _ _ ((Below.refl _ _).alloc (Nat.le_refl _) _) ?_
    exact (OwnI.lit (B := w'.heap.size) w' (Nat.le_refl _) (l := [x0, powE gr y0 e0]) (AllI64.cons (small_64 sx) (AllI64.cons (small_64 (powE_small HG.out _ _)) AllI64.nil)) rfl (by simp [maxLen]) 2 rfl).ints
  -- 13: call { callee := value (func 66), args := #[t19, t25], argTypes := #[24, 42] }
  refine chainP_call (d := (some 26)) (.int .i64 (mulL gr [x0, powE gr y0 e0])) rfl rfl (fun w' hS' => ?_) ?_
  · simp only [lookP, allP, Act.put, List.getElem?_cons_zero, List.getElem?_cons_succ, List.setIfInBounds_toArray, List.set_cons_zero, List.set_cons_succ]
    intro x12 hx12
    intro K hK
    go_simp
    go_at_call 66
    refine (spec_gMul gr _ [x0, powE gr y0 e0] _ HG.out hx12 (AllSmall.cons sx (AllSmall.cons (powE_small HG.out _ _) AllSmall.nil))).mono ?_
    rintro e u ⟨rfl, hq⟩
    exact hK.out _ hq
  -- 14: call { callee := value (func 159), args := #[t18, t26], argTypes := #[24, 3] }
  refine chainP_call (d := (some 27)) (.int .i64 (powE gr (mulL gr [x0, powE gr y0 e0]) (-1))) rfl rfl (fun w' hS' => ?_) ?_
  · simp only [lookP, allP, Act.put, List.getElem?_cons_zero, List.getElem?_cons_succ, List.setIfInBounds_toArray, List.set_cons_zero, List.set_cons_succ]
    intro K hK
    go_simp
    go_at_call 159
    refine (spec_gInv gr (mulL gr [x0, powE gr y0 e0]) _ HG.out (mulL_small HG.out _)).mono ?_
    rintro e u ⟨rfl, hq⟩
    exact hK.out _ hq
  -- 15: buildSlice 42 2 #[(0, t17), (1, t27)]
  refine chainP_do (d := (some 28)) (fun v w => Ints w v [powE gr g0 z0, powE gr (mulL gr [x0, powE gr y0 e0]) (-1)]) (fun v w w' hb h => Ints.below h hb) rfl rfl (fun w' hS' => ?_) ?_
  · simp only [lookP, allP, Act.put, List.getElem?_cons_zero, List.getElem?_cons_succ, List.setIfInBounds_toArray, List.set_cons_zero, List.set_cons_succ]
    intro K hK
    go_simp
    refine hK.out _ _ ((Below.refl _ _).alloc (Nat.le_refl _) _) ?_
    exact (OwnI.lit (B := w'.heap.size) w' (Nat.le_refl _) (l := [powE gr g0 z0, powE gr (mulL gr [x0, powE gr y0 e0]) (-1)]) (AllI64.cons (small_64 (powE_small HG.out _ _)) (AllI64.cons (small_64 (powE_small HG.out _ _)) AllI64.nil)) rfl (by simp [maxLen]) 2 rfl).ints
  -- 16: call { callee := value (func 66), args := #[t13, t28], argTypes := #[24, 42] }
  refine chainP_call (d := (some 29)) (.int .i64 (mulL gr [powE gr g0 z0, powE gr (mulL gr [x0, powE gr y0 e0]) (-1)])) rfl rfl (fun w' hS' => ?_) ?_
  · simp only [lookP, allP, Act.put, List.getElem?_cons_zero, List.getElem?_cons_succ, List.setIfInBounds_toArray, List.set_cons_zero, List.set_cons_succ]
    intro x15 hx15
    intro K hK
    go_simp
    go_at_call 66
    refine (spec_gMul gr _ [powE gr g0 z0, powE gr (mulL gr [x0, powE gr y0 e0]) (-1)] _ HG.out hx15 (AllSmall.cons (powE_small HG.out _ _) (AllSmall.cons (powE_small HG.out _ _) AllSmall.nil))).mono ?_
    rintro e u ⟨rfl, hq⟩
    exact hK.out _ hq
  -- 17: assign t29
  refine' chainP_read (d := (some 12)) _ rfl rfl (fun w' hS' => ?_) ?_; rotate_left
  · simp only [lookP, allP, Act.put, List.getElem?_cons_zero, List.getElem?_cons_succ, List.setIfInBounds_toArray, List.set_cons_zero, List.set_cons_succ]
    (try dsimp only at hS')
    go_simp
    (try with_reducible rfl)
  refine chainP_nil (fun u1 hS' => ?_)
  simp only [allP, Act.put, List.setIfInBounds_toArray, List.set_cons_zero, List.set_cons_succ]
  intro x15 hx15
  intro x12 hx12
  have hq1 := hS'.1
  clear hS'
  replace hc := Below.next hc hq1
  replace c0_0 := box_at c0_0 hq1
  replace c0_1 := box_at c0_1 hq1
  replace c0_2 := box_at c0_2 hq1
  clear hq1
  go_wp2_with fail
  refine NoPanic.normal ?_
  go_wp2_with fail
  go_ret
  exact ⟨rfl, HB.out.trans (hc.mono HB.out.size)⟩
theorem smB_lab {l : List Int} {i : Nat} (hd : l.all digestB = true) (hl : l.length ≤ 30) (hi : i ≤ 1000) : labelledB sSmall (l ++ [(i : Int)]) = true := by
  have e : (lab sSmall).length = sSmall.size + 1 := lab_length sSmall
  have hs : sSmall.size = 5 := rfl
  unfold labelledB hashable
  have e2 : (lab sSmall ++ (l ++ [(i : Int)])).length = l.length + 7 := by rw [List.length_append, List.length_append, e, hs, List.length_singleton]; omega
  rw [List.all_append, lab_all _ (by omega), List.all_append, hd, e2, List.length_append, hs]
  simp [digestB]
  omega
theorem smB_dig {l : List Int} {i : Nat} (hd : l.all digestB = true) (hi : i ≤ 1000) : (l ++ [(i : Int)]).all digestB = true := by
  rw [List.all_append, hd]
  simp [digestB]
  omega
set_option maxRecDepth 100000 in
set_option maxHeartbeats 2000000 in
theorem impl_smallExponents (gr : GroupD) (v : Value) (l : List Int) (n : Nat) (w : World) (hg : OkG gr) (h : Ints w v l) (hd : l.all digestB = true) (hl : l.length ≤ 30) (hn : n ≤ 30) :
    Calls Try.prog 88 #[.agg #[.int .i64 gr.p, .int .i64 gr.q, .int .i64 gr.g], v, .int .i64 (n : Int)] w fun e w' => (∃ v', e = .returned (.tuple #[v', .bool true]) ∧ Ints w' v' (sxE gr sSmall l n)) ∧ Below w.heap.size w w' := by
  have HG := Lib.hid hg
  have hq1 := hg.q1
  have hq2 := hg.q2
  have hp2 := hg.p2
  clear hg
  obtain ⟨a, xn, c, rfl⟩ := h.shape
  have E := Lib.hid h.len
  have H := Lib.hid h
  have HD := Lib.hid hd
  clear h hd
  obtain ⟨W, hW⟩ : ∃ W, W = (w.alloc (.cells #[.int .i64 gr.p, .int .i64 gr.q, .int .i64 gr.g] 24)).alloc (.cells #[] 3) := ⟨_, rfl⟩
  have HB : Hid (Below w.heap.size w W) := by unfold Hid; rw [hW]; (repeat (first | exact Below.refl _ _ | assumption | refine Below.drew ?_ | refine Below.alloc ?_ (by first | (simp; done) | (simp; omega)) _ | refine Below.setCell ?_ (by first | (simp; done) | (simp; omega)) _))
  have C0 : Hid (W.cell? ⟨w.heap.size, 1, none⟩ = some (.int .i64 gr.q)) := by unfold Hid; rw [hW]; simp [go_sem]
  have HO0 : Hid (OwnI W (w.heap.size + 1) (.slice (some ⟨w.heap.size + 1, 0, none⟩) 0 0) []) := by unfold Hid; rw [hW]; have h := OwnI.lit (B := w.heap.size + 1) (w.alloc (.cells #[.int .i64 gr.p, .int .i64 gr.q, .int .i64 gr.g] 24)) (by simp) AllI64.nil rfl (by simp) 0 rfl; simpa using h
  have hsW : W.heap.size = w.heap.size + 2 := by rw [hW]; simp
  obtain ⟨M, hM⟩ : ∃ M : Nat, (M : Int) = max (n : Int) 1 := ⟨(max (n : Int) 1).toNat, by omega⟩
  go_enter Try.func88, Try.ntmps88
  go_wp2_with fail
  rw [← hW, ← hM]
  have hMb : 1 ≤ M ∧ n ≤ M ∧ M ≤ 30 := by omega
  clear hW hM
  go_loopg [8, 15] M (fun gk ov iv wr => ∃ k : Nat, k + gk = M ∧ iv = .int .i64 (k : Int) ∧ Hid (OwnI wr (w.heap.size + 1) ov (sxE gr sSmall l k)) ∧ Hid (Below (w.heap.size + 1) W wr))
  case atStart => exact ⟨0, by omega, rfl, HO0, Below.refl _ _⟩
  case round =>
    clear HO0
    obtain ⟨k, hkg, rfl, HO, HBr⟩ := hrel
    have hsr := HBr.out.size
    obtain ⟨oa, oc, rfl⟩ := HO.out.shapeN (n := k) (sxE_len ..)
    by_cases hlt : k < M
    · have hb : decide ((k : Int) < (M : Int)) = true := decide_eq_true (by omega)
      have hb2 : decide (k < M) = true := decide_eq_true hlt
      have hwk : IntKind.i64.wrap ((k : Int) + 1) = (k : Int) + 1 := IntWalk.i64_in _ (by omega)
      have hgk : M - (k + 1) < gk := by omega
      have HKI : Hid (I64 (k : Int)) := ⟨by omega, by omega⟩
      have c0 := (HBr.out.cell (p := ⟨w.heap.size, 1, none⟩) (by show w.heap.size < w.heap.size + 1; omega)).trans C0.out
      have HLB : Hid (labelledB sSmall (l ++ [(k : Int)]) = true) := smB_lab HD.out hl (by omega)
      have HLI : Hid (labelledI sSmall (l ++ [(k : Int)]) = hashOf (lab sSmall ++ (l ++ [(k : Int)]))) := by unfold Hid labelledI; rw [if_pos HLB.out]
      have HSI : Hid (1 + hashOf (lab sSmall ++ (l ++ [(k : Int)])) % min 65535 (gr.q - 1) = sxI gr sSmall l k) := rfl
      have hhb := hashOf_bd (lab sSmall ++ (l ++ [(k : Int)]))
      have hsb := sxI_bd (gr := gr) (by omega) sSmall l k
      have HSU : Hid (sxE gr sSmall l (k + 1) = sxE gr sSmall l k ++ [sxI gr sSmall l k]) := sxE_succ ..
      obtain ⟨D, hD⟩ : ∃ z, hashOf (lab sSmall ++ (l ++ [(k : Int)])) = z := ⟨_, rfl⟩
      obtain ⟨S, hS⟩ : ∃ z, sxI gr sSmall l k = z := ⟨_, rfl⟩
      rw [hD] at HLI HSI hhb
      rw [hS] at HSI hsb HSU
      clear hD hS hlt
      obtain ⟨mm, hmm⟩ : ∃ z, min 65535 (gr.q - 1) = z := ⟨_, rfl⟩
      have hm1 : 1 ≤ mm ∧ mm ≤ 65535 := by omega
      have ewq : IntKind.i64.wrap (gr.q - 1) = gr.q - 1 := IntWalk.i64_in _ (by omega)
      have ht1 : Int.tmod D mm = D % mm := Int.tmod_eq_emod_of_nonneg hhb.1
      have ht2 := Int.emod_nonneg D (show mm ≠ 0 by omega)
      have ht3 := Int.emod_lt_of_pos D (show 0 < mm by omega)
      have hmz : ¬ mm = 0 := by omega
      have hmz2 : (mm == 0) = false := by rw [beq_eq_false_iff_ne]; omega
      have ewr : IntKind.i64.wrap (D % mm) = D % mm := IntWalk.i64_in _ (by omega)
      have ewp : IntKind.i64.wrap (1 + D % mm) = S := by have h := HSI.out; rw [hmm] at h; rw [h]; exact IntWalk.i64_in _ (by omega)
      have HSS : Hid (I64 S) := ⟨by omega, by omega⟩
      have HMM := Lib.hid hmm
      go_wp2_with fail
      refine (slices_Clone _ l _ (H.out.below (HB.out.trans (HBr.out.mono (by omega)))) (by omega)).mono ?_
      rintro e w1 ⟨v1, rfl, ho1, hb1⟩
      have hs1 := hb1.size
      obtain ⟨a1, c1, rfl⟩ := ho1.shape
      have HO1 := Lib.hid ho1
      clear ho1
      have HBW := Lib.hid hb1
      obtain ⟨u1, hu1⟩ : ∃ u : Nat, u = wr.heap.size := ⟨_, rfl⟩
      have hu2 : u1 ≤ w1.heap.size := by omega
      rw [← hu1] at HO1 HBW
      have hgu : w.heap.size + 1 ≤ u1 := by omega
      replace c0 := (HBW.out.cell (p := ⟨w.heap.size, 1, none⟩) (by show w.heap.size < u1; omega)).trans c0
      clear hb1
      go_wp2_with (at_builtin; refine wpList_append_intsN rfl _ _ rfl u1 _ _ l [(k : Int)] rfl (HO1.out.alloc _) rfl (Ints.lit1 _ HKI.out) (by simp; omega) (by simp; omega) (l.length + 1) (by simp) ?_; intro a5 c5 w5 hown5 hgr5; have hb5 : Below u1 w1 w5 := ((Below.refl u1 w1).alloc (by omega) _).trans ((HO1.out.alloc _).grown hgr5 (by simp; omega)); have HO5 := Lib.hid hown5; have HB5 := Lib.hid (HBW.out.trans hb5); clear hown5 hgr5; replace c0 := (hb5.cell (p := ⟨w.heap.size, 1, none⟩) (by show w.heap.size < u1; omega)).trans c0; clear hb5)
      refine (impl_HashLabelled sSmall _ (l ++ [(k : Int)]) _ HO5.out.ints (by decide) (by simp; omega)).mono ?_
      rintro e w6 ⟨rfl, hb6⟩
      rw [HLI.out, HLB.out]
      have hs5 := HB5.out.size
      have hs6 := hb6.size
      replace c0 := box_at c0 hb6
      have HB6 : Hid (Below wr.heap.size wr w6) := by unfold Hid; rw [← hu1]; exact HB5.out.trans (hb6.mono (by omega))
      replace HO := Lib.hid (HO.out.below HB6.out)
      replace HBr := Lib.hid (HBr.out.trans (HB6.out.mono (by omega)))
      clear hb6 HB5 HO5 HBW HO1
      have hw6 : w.heap.size + 1 ≤ w6.heap.size := by omega
      go_wp2_with (at_builtin; refine wpList_append_intsN rfl _ _ rfl (w.heap.size + 1) _ _ (sxE gr sSmall l k) [S] rfl (HO.out.alloc _) rfl (Ints.lit1 _ HSS.out) (by rw [sxE_len]; simp; omega) (by simp; omega) (k + 1) (by rw [sxE_len]; rfl) ?_; intro a7 c7 w7 hown7 hgr7; have hb7 : Below (w.heap.size + 1) w6 w7 := ((Below.refl (w.heap.size + 1) w6).alloc (by omega) _).trans ((HO.out.alloc _).grown hgr7 (by simp; omega)); have HO7 := Lib.hid hown7; have HB7 := Lib.hid hb7; clear hown7 hgr7 hb7 c0)
      go_roundg (M - (k + 1))
      case measure => exact hgk
      case rel => exact ⟨k + 1, by omega, by go_num, by rw [HSU.out]; exact HO7, Lib.hid (HBr.out.trans HB7.out)⟩
    · obtain rfl : M = k := by omega
      have hnM : n ≤ M := by omega
      have hb : decide ((M : Int) < (M : Int)) = false := decide_eq_false (by omega)
      have HTK : Hid ((sxE gr sSmall l M).take n = sxE gr sSmall l n) := sxE_take gr sSmall l hnM
      have hnI : (n : Int) ≤ (M : Int) := by omega
      have hcap := HO.out.ints.capMax
      have hcl : n ≤ oc := by have := HO.out.ints.cap; omega
      go_wp2_with fail
      go_ret2
      exact ⟨⟨_, rfl, by rw [← HTK.out]; exact HO.out.ints.take (by omega)⟩, HB.out.trans (HBr.out.mono (by omega))⟩
set_option maxRecDepth 100000 in
set_option maxHeartbeats 2000000 in
theorem spec_wSmall (gr : GroupD) (v : Value) (l : List Int) (n : Nat) (w : World) (hg : OkG gr) (h : Ints w v l) (hd : l.all digestB = true) (hl : l.length ≤ 30) (hn : n ≤ 30) :
    Calls Try.prog 96 #[.agg #[.int .i64 gr.p, .int .i64 gr.q, .int .i64 gr.g], v, .int .i64 (n : Int)] w fun e w' => (∃ v', e = .returned v' ∧ Ints w' v' (sxE gr sSmall l n)) ∧ Below w.heap.size w w' := by
  have HG := Lib.hid hg
  have hq1 := hg.q1
  have hq2 := hg.q2
  have hp2 := hg.p2
  clear hg
  obtain ⟨a, xn, c, rfl⟩ := h.shape
  have E := Lib.hid h.len
  have H := Lib.hid h
  have HD := Lib.hid hd
  clear h hd
  obtain ⟨W, hW⟩ : ∃ W, W = w.alloc (.cells #[.int .i64 gr.p, .int .i64 gr.q, .int .i64 gr.g] 24) := ⟨_, rfl⟩
  have HB : Hid (Below w.heap.size w W) := by unfold Hid; rw [hW]; (repeat (first | exact Below.refl _ _ | assumption | refine Below.drew ?_ | refine Below.alloc ?_ (by first | (simp; done) | (simp; omega)) _ | refine Below.setCell ?_ (by first | (simp; done) | (simp; omega)) _))
  have C0 : Hid (W.cell? ⟨w.heap.size, 1, none⟩ = some (.int .i64 gr.q)) := by unfold Hid; rw [hW]; simp [go_sem]
  have c0 := C0.out
  have hsW : W.heap.size = w.heap.size + 1 := by rw [hW]; simp
  have ewq : IntKind.i64.wrap (gr.q - 1) = gr.q - 1 := IntWalk.i64_in _ (by omega)
  go_enter Try.func96, Try.ntmps96
  go_wp2_with fail
  rw [← hW]
  clear hW
  (try (go_wp2_with fail))
  refine (spec_l1LeastC 65535 (gr.q - 1) _).mono ?_
  rintro e wz ⟨rfl, hbz⟩
  obtain ⟨mm, hmm⟩ : ∃ z, min 65535 (gr.q - 1) = z := ⟨_, rfl⟩
  have hm1 : 1 ≤ mm ∧ mm ≤ 65535 := by omega
  rw [hmm]
  have HMM := Lib.hid hmm
  have HBZ := Lib.hid (hbz.mono (show w.heap.size + 1 ≤ W.heap.size by omega))
  have hszz := hbz.size
  clear hmm hbz c0
  go_wp2_with fail
  go_loopg [8, 9] n (fun gk ov iv wr => ∃ k : Nat, k + gk = n ∧ iv = .int .i64 (k : Int) ∧ Hid (OwnI wr (w.heap.size + 1) ov (sxE gr sSmall l k)) ∧ Hid (Below (w.heap.size + 1) W wr))
  case atStart => exact ⟨0, by omega, rfl, OwnI.nil _ _, HBZ⟩
  case round =>
    obtain ⟨k, hkg, rfl, HO, HBr⟩ := hrel
    have hsr := HBr.out.size
    obtain ⟨oa, oc, rfl⟩ := HO.out.shapeN (n := k) (sxE_len ..)
    by_cases hlt : k < n
    · have hb : decide ((k : Int) < (n : Int)) = true := decide_eq_true (by omega)
      have hb2 : decide (k < n) = true := decide_eq_true hlt
      have hwk : IntKind.i64.wrap ((k : Int) + 1) = (k : Int) + 1 := IntWalk.i64_in _ (by omega)
      have hgk : n - (k + 1) < gk := by omega
      have HKI : Hid (I64 (k : Int)) := ⟨by omega, by omega⟩
      have HSI : Hid (1 + hashOf (lab sSmall ++ (l ++ [(k : Int)])) % min 65535 (gr.q - 1) = sxI gr sSmall l k) := rfl
      have hhb := hashOf_bd (lab sSmall ++ (l ++ [(k : Int)]))
      have hsb := sxI_bd (gr := gr) (by omega) sSmall l k
      have HSU : Hid (sxE gr sSmall l (k + 1) = sxE gr sSmall l k ++ [sxI gr sSmall l k]) := sxE_succ ..
      have HDG : Hid ((l ++ [(k : Int)]).all digestB = true) := smB_dig HD.out (by omega)
      obtain ⟨D, hD⟩ : ∃ z, hashOf (lab sSmall ++ (l ++ [(k : Int)])) = z := ⟨_, rfl⟩
      obtain ⟨S, hS⟩ : ∃ z, sxI gr sSmall l k = z := ⟨_, rfl⟩
      have HDE := Lib.hid hD
      rw [hD] at HSI hhb
      rw [hS] at HSI hsb HSU
      clear hD hS hlt
      have ht1 : Int.tmod D mm = D % mm := Int.tmod_eq_emod_of_nonneg hhb.1
      have ht2 := Int.emod_nonneg D (show mm ≠ 0 by omega)
      have ht3 := Int.emod_lt_of_pos D (show 0 < mm by omega)
      have hmz : ¬ mm = 0 := by omega
      have hmz2 : (mm == 0) = false := by rw [beq_eq_false_iff_ne]; omega
      have ewr : IntKind.i64.wrap (D % mm) = D % mm := IntWalk.i64_in _ (by omega)
      have ewp : IntKind.i64.wrap (1 + D % mm) = S := by have h := HSI.out; rw [HMM.out] at h; rw [h]; exact IntWalk.i64_in _ (by omega)
      have HSS : Hid (I64 S) := ⟨by omega, by omega⟩
      go_wp2_with fail
      refine (spec_l1Own _ l _ (H.out.below (HB.out.trans (HBr.out.mono (by omega)))) (by omega)).mono ?_
      rintro e w1 ⟨v1, rfl, ho1, hb1⟩
      have hs1 := hb1.size
      obtain ⟨a1, c1, rfl⟩ := ho1.shape
      have HO1 := Lib.hid ho1
      clear ho1
      have HBW := Lib.hid hb1
      obtain ⟨u1, hu1⟩ : ∃ u : Nat, u = wr.heap.size := ⟨_, rfl⟩
      have hu2 : u1 ≤ w1.heap.size := by omega
      rw [← hu1] at HO1 HBW
      have hgu : w.heap.size + 1 ≤ u1 := by omega
      clear hb1
      go_wp2_with (at_builtin; refine wpList_append_intsN rfl _ _ rfl u1 _ _ l [(k : Int)] rfl (HO1.out.alloc _) rfl (Ints.lit1 _ HKI.out) (by simp; omega) (by simp; omega) (l.length + 1) (by simp) ?_; intro a5 c5 w5 hown5 hgr5; have hb5 : Below u1 w1 w5 := ((Below.refl u1 w1).alloc (by omega) _).trans ((HO1.out.alloc _).grown hgr5 (by simp; omega)); have HO5 := Lib.hid hown5; have HB5 := Lib.hid (HBW.out.trans hb5); clear hown5 hgr5 hb5)
      refine (spec_hLabelled sSmall _ (l ++ [(k : Int)]) _ HO5.out.ints (by decide) (by simp; omega) HDG.out).mono ?_
      rintro e w6 ⟨rfl, hb6⟩
      rw [HDE.out]
      have hs5 := HB5.out.size
      have hs6 := hb6.size
      have HB6 : Hid (Below wr.heap.size wr w6) := by unfold Hid; rw [← hu1]; exact HB5.out.trans (hb6.mono (by omega))
      replace HO := Lib.hid (HO.out.below HB6.out)
      replace HBr := Lib.hid (HBr.out.trans (HB6.out.mono (by omega)))
      clear hb6 HB5 HO5 HBW HO1
      have hw6 : w.heap.size + 1 ≤ w6.heap.size := by omega
      go_wp2_with (at_builtin; refine wpList_append_intsN rfl _ _ rfl (w.heap.size + 1) _ _ (sxE gr sSmall l k) [S] rfl (HO.out.alloc _) rfl (Ints.lit1 _ HSS.out) (by rw [sxE_len]; simp; omega) (by simp; omega) (k + 1) (by rw [sxE_len]; rfl) ?_; intro a7 c7 w7 hown7 hgr7; have hb7 : Below (w.heap.size + 1) w6 w7 := ((Below.refl (w.heap.size + 1) w6).alloc (by omega) _).trans ((HO.out.alloc _).grown hgr7 (by simp; omega)); have HO7 := Lib.hid hown7; have HB7 := Lib.hid hb7; clear hown7 hgr7 hb7)
      go_roundg (n - (k + 1))
      case measure => exact hgk
      case rel => exact ⟨k + 1, by omega, by go_num, by rw [HSU.out]; exact HO7, Lib.hid (HBr.out.trans HB7.out)⟩
    · obtain rfl : n = k := by omega
      have hb : decide ((n : Int) < (n : Int)) = false := decide_eq_false (by omega)
      go_wp2_with fail
      go_ret
      exact ⟨⟨_, rfl, HO.out.ints⟩, HB.out.trans (HBr.out.mono (by omega))⟩
end Go.Proofs.Ytacpnphfopmofaa

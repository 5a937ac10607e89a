/- Proofs of one of several: ProveOneOf (the model's; printed by gen_one5.py). -/
import Derived.Test.YtegomgnlhcbmfaaOne4W
namespace Go.Proofs.Ytegomgnlhcbmfaa
open Go.RowKit
set_option linter.unusedSimpArgs false
set_option linter.unusedVariables false

theorem spec_sOneOfI (gr : GroupD) (s : ByteArray) (ev : Value) (l : List EqualLogD) (k : Int) (x : Int) (cv : Value) (cs : List Int) (w : World) (hg : OkG gr) (hs : s.size ≤ 40) (hl : stB gr l = true) (hk : 0 ≤ k ∧ k ≤ (l.length : Int) - 1) (hx : expB gr x = true) (hn : (cs.length : Int) = 2 * (l.length : Int) - 1) (hcs : cs.all (expB gr) = true) (hev : RdR rEqualLog w ev l) (hcv : Ints w cv cs) :
    Calls Try.prog 109 #[.agg #[.int .i64 gr.p, .int .i64 gr.q, .int .i64 gr.g], .string s, ev, .int .i64 k, .int .i64 x, cv] w fun e w' => (∃ a b c, e = .returned (.agg #[a, b, c]) ∧ OwnI w' w.heap.size a (ooD gr s l k.toNat x cs).c ∧ OwnI w' w.heap.size b (ooD gr s l k.toNat x cs).h ∧ OwnI w' w.heap.size c (ooD gr s l k.toNat x cs).r) ∧ Below w.heap.size w w' := by
  obtain ⟨kk, rfl⟩ : ∃ kk : Nat, k = (kk : Int) := ⟨k.toNat, by omega⟩
  rw [Int.toNat_natCast]
  exact spec_sOneOf gr s ev l kk x cv cs w hg hs hl (by omega) hx (by omega) hcs hev hcv
set_option maxRecDepth 100000 in
set_option maxHeartbeats 4000000 in
theorem spec_ProveOneOf (gr : GroupD) (s : ByteArray) (ev : Value) (l : List EqualLogD) (k x : Int) (cv : Value) (cs : List Int) (w : World) (hs : s.size ≤ 1000000) (hx : I64 x) (hev : RdR rEqualLog w ev l) (hcv : Ints w cv cs) :
    Calls Try.prog 21 #[.agg #[.int .i64 gr.p, .int .i64 gr.q, .int .i64 gr.g], .string s, ev, .int .i64 k, .int .i64 x, cv] w fun e w' => RetP e w' w.heap.size (ooB gr s l k x cs) (ooF gr s l k x cs) ∧ Below w.heap.size w w' := by
  obtain ⟨eva, evn, evc, rfl⟩ := hev.shape
  have Eev := Lib.hid hev.len
  have Kev := Lib.hid hev.capMax
  have Hev := Lib.hid hev
  clear hev
  obtain ⟨cva, cvn, cvc, rfl⟩ := hcv.shape
  have Ecv := Lib.hid hcv.len
  have Kcv := Lib.hid hcv.capMax
  have Hcv := Lib.hid hcv
  clear hcv
  have HS2 := Lib.hid hs
  have HIX := Lib.hid hx
  clear hs hx
  obtain ⟨W, hW⟩ : ∃ W, W = (w.alloc (.cells #[.int .i64 gr.p, .int .i64 gr.q, .int .i64 gr.g] 24)).alloc (.cells #[(.slice none 0 0), (.slice none 0 0), (.slice none 0 0)] 47) := ⟨_, rfl⟩
  have HB : Hid (Below w.heap.size w W) := by unfold Hid; rw [hW]; (repeat (first | exact Below.refl _ _ | assumption | refine Below.drew ?_ | refine Below.alloc ?_ (by first | (simp; done) | (simp; omega)) _ | refine Below.setCell ?_ (by first | (simp; done) | (simp; omega)) _))
  have c0_0 : W.cell? ⟨w.heap.size, 0, none⟩ = some (.int .i64 gr.p) := by rw [hW]; simp [go_sem]
  have c0_1 : W.cell? ⟨w.heap.size, 1, none⟩ = some (.int .i64 gr.q) := by rw [hW]; simp [go_sem]
  have c0_2 : W.cell? ⟨w.heap.size, 2, none⟩ = some (.int .i64 gr.g) := by rw [hW]; simp [go_sem]
  have HR1 : Hid (BoxN W (w.heap.size + 1) 47 [(.slice none 0 0), (.slice none 0 0), (.slice none 0 0)]) := by unfold Hid; rw [hW]; have h := (BoxN.new (w.alloc (.cells #[.int .i64 gr.p, .int .i64 gr.q, .int .i64 gr.g] 24)) [(.slice none 0 0), (.slice none 0 0), (.slice none 0 0)] 47); simpa using h
  have HSW : Hid (W.heap.size = w.heap.size + 2) := by unfold Hid; rw [hW]; simp
  have lr1 : w.heap.size + 1 < W.heap.size := by have := HSW.out; omega
  go_enter Try.func21, Try.ntmps21
  go_wp2_with fail
  rw [← hW]
  have hse : w.heap.size + 1 + 1 = W.heap.size := by have := HSW.out; omega
  (try rw [hse])
  clear hse
  clear hW
  have hc : Below W.heap.size W W := Below.refl _ _
  have HCC : Hid (∀ u, Below W.heap.size W u → u.cell? ⟨w.heap.size, 0, none⟩ = some (.int .i64 gr.p) ∧ u.cell? ⟨w.heap.size, 1, none⟩ = some (.int .i64 gr.q) ∧ u.cell? ⟨w.heap.size, 2, none⟩ = some (.int .i64 gr.g)) := fun u h => ⟨box_at c0_0 h, box_at c0_1 h, box_at c0_2 h⟩
  cases hc1 : (goodG gr && decide (s.size ≤ 40)) with
  | false =>
    have Hhc1 := Lib.hid hc1
    clear hc1
    try (go_wp2_with fail)
    refine wp_region_noPanic ?_
    refine wp_region_P (fun w' => w'.cell? ⟨w.heap.size, 0, none⟩ = some (.int .i64 gr.p) ∧ w'.cell? ⟨w.heap.size, 1, none⟩ = some (.int .i64 gr.q) ∧ w'.cell? ⟨w.heap.size, 2, none⟩ = some (.int .i64 gr.g)) 52 [(0, []), (1, []), (2, [1, 0]), (3, [0]), (4, [0]), (5, [0]), (6, [1]), (7, [1, 0, 2]), (8, [0, 3]), (9, [4, 0]), (10, [0]), (11, [0]), (12, [1]), (13, [0, 2]), (14, [0, 3]), (15, [3, 0, 4]), (16, [0, 5]), (17, [6, 0]), (18, [0]), (19, [0]), (20, [1]), (21, [0, 2]), (22, [2, 0, 3]), (23, [0, 4]), (24, [5, 0]), (25, [0]), (26, [0]), (27, [0, 1]), (28, [2]), (29, [0, 3]), (30, [0, 4]), (31, [0, 5]), (32, [4, 0, 6]), (33, [7, 0]), (34, [0]), (35, [0]), (36, [1]), (37, [1, 0, 2]), (38, [0, 3]), (39, [4, 0]), (40, [0]), (41, [0]), (42, [1]), (43, [2]), (44, [1, 0, 3]), (45, [0, 4]), (46, [5]), (47, [5, 1, 0, 6]), (48, [0, 7]), (49, [8, 0])] [] (by kernel_rfl) (by kernel_rfl) (by kernel_rfl) rfl (fun _ _ _ _ h => h) (fun w' h => ⟨box_at c0_0 h, box_at c0_1 h, box_at c0_2 h⟩) ?_
    simp only [pickP, pickN, List.getElem?_cons_zero, List.getElem?_cons_succ]
    iterate 2 (refine' chainP_read _ rfl rfl (fun w' hS' => ?_) ?_; rotate_left; · (simp only [lookP, allP, Act.put, List.getElem?_cons_zero, List.getElem?_cons_succ, List.setIfInBounds_toArray, List.set_cons_zero, List.set_cons_succ]; (try dsimp only at hS'); go_simp; (try with_reducible rfl)))
    -- 2: call { callee := value (func 135), args := #[t14, t15], argTypes := #[25, 9] }
    refine chainP_call (d := (some 16)) (.bool false) rfl rfl (fun w' hS' => ?_) ?_
    · simp only [lookP, allP, Act.put, List.getElem?_cons_zero, List.getElem?_cons_succ, List.setIfInBounds_toArray, List.set_cons_zero, List.set_cons_succ]
      intro K hK
      go_simp
      go_at_call 105
      refine (spec_sLabel gr s _ HS2.out).mono ?_
      rintro e u ⟨rfl, hq⟩
      rw [Hhc1.out]
      exact hK.out _ hq
    iterate 2 (refine' chainP_read _ rfl rfl (fun w' hS' => ?_) ?_; rotate_left; · (simp only [lookP, allP, Act.put, List.getElem?_cons_zero, List.getElem?_cons_succ, List.setIfInBounds_toArray, List.set_cons_zero, List.set_cons_succ]; (try dsimp only at hS'); go_simp; (try with_reducible rfl)))
    -- 5: load 25 t6
    refine chainP_skip (d := (some 19)) rfl (fun w' hS' => ?_) ?_
    · simp only [lookP, allP, Act.put, List.getElem?_cons_zero, List.getElem?_cons_succ, List.setIfInBounds_toArray, List.set_cons_zero, List.set_cons_succ]
      kernel_rfl
    -- 6: move t2
    refine chainP_skip (d := (some 20)) rfl (fun w' hS' => ?_) ?_
    · simp only [lookP, allP, Act.put, List.getElem?_cons_zero, List.getElem?_cons_succ, List.setIfInBounds_toArray, List.set_cons_zero, List.set_cons_succ]
      kernel_rfl
    -- 7: call { callee := value (func 148), args := #[t19, t20], argTypes := #[25, 72] }
    refine chainP_skip (d := (some 21)) rfl (fun w' hS' => ?_) ?_
    · simp only [lookP, allP, Act.put, List.getElem?_cons_zero, List.getElem?_cons_succ, List.setIfInBounds_toArray, List.set_cons_zero, List.set_cons_succ]
      kernel_rfl
    -- 8: unOp Unnot 4 t21
    refine chainP_skip (d := (some 22)) rfl (fun w' hS' => ?_) ?_
    · simp only [lookP, allP, Act.put, List.getElem?_cons_zero, List.getElem?_cons_succ, List.setIfInBounds_toArray, List.set_cons_zero, List.set_cons_succ]
      kernel_rfl
    iterate 2 (refine' chainP_read _ rfl rfl (fun w' hS' => ?_) ?_; rotate_left; · (simp only [lookP, allP, Act.put, List.getElem?_cons_zero, List.getElem?_cons_succ, List.setIfInBounds_toArray, List.set_cons_zero, List.set_cons_succ]; (try dsimp only at hS'); go_simp; (try with_reducible rfl)))
    -- 11: move t3
    refine chainP_skip (d := (some 25)) rfl (fun w' hS' => ?_) ?_
    · simp only [lookP, allP, Act.put, List.getElem?_cons_zero, List.getElem?_cons_succ, List.setIfInBounds_toArray, List.set_cons_zero, List.set_cons_succ]
      kernel_rfl
    -- 12: move t2
    refine chainP_skip (d := (some 26)) rfl (fun w' hS' => ?_) ?_
    · simp only [lookP, allP, Act.put, List.getElem?_cons_zero, List.getElem?_cons_succ, List.setIfInBounds_toArray, List.set_cons_zero, List.set_cons_succ]
      kernel_rfl
    -- 13: call { callee := builtin Builtin.len, args := #[t26], argTypes := #[72] }
    refine chainP_skip (d := (some 27)) rfl (fun w' hS' => ?_) ?_
    · simp only [lookP, allP, Act.put, List.getElem?_cons_zero, List.getElem?_cons_succ, List.setIfInBounds_toArray, List.set_cons_zero, List.set_cons_succ]
      kernel_rfl
    -- 14: binOp Binsub 3 t27 (const (int i64 1)) 3
    refine chainP_skip (d := (some 28)) rfl (fun w' hS' => ?_) ?_
    · simp only [lookP, allP, Act.put, List.getElem?_cons_zero, List.getElem?_cons_succ, List.setIfInBounds_toArray, List.set_cons_zero, List.set_cons_succ]
      kernel_rfl
    -- 15: call { callee := value (func 94), args := #[t25, const (int i64 0), t28], argTypes := #[3, 3, 3] }
    refine chainP_skip (d := (some 29)) rfl (fun w' hS' => ?_) ?_
    · simp only [lookP, allP, Act.put, List.getElem?_cons_zero, List.getElem?_cons_succ, List.setIfInBounds_toArray, List.set_cons_zero, List.set_cons_succ]
      kernel_rfl
    -- 16: unOp Unnot 4 t29
    refine chainP_skip (d := (some 30)) rfl (fun w' hS' => ?_) ?_
    · simp only [lookP, allP, Act.put, List.getElem?_cons_zero, List.getElem?_cons_succ, List.setIfInBounds_toArray, List.set_cons_zero, List.set_cons_succ]
      kernel_rfl
    iterate 2 (refine' chainP_read _ rfl rfl (fun w' hS' => ?_) ?_; rotate_left; · (simp only [lookP, allP, Act.put, List.getElem?_cons_zero, List.getElem?_cons_succ, List.setIfInBounds_toArray, List.set_cons_zero, List.set_cons_succ]; (try dsimp only at hS'); go_simp; (try with_reducible rfl)))
    -- 19: load 25 t6
    refine chainP_skip (d := (some 33)) rfl (fun w' hS' => ?_) ?_
    · simp only [lookP, allP, Act.put, List.getElem?_cons_zero, List.getElem?_cons_succ, List.setIfInBounds_toArray, List.set_cons_zero, List.set_cons_succ]
      kernel_rfl
    -- 20: move t4
    refine chainP_skip (d := (some 34)) rfl (fun w' hS' => ?_) ?_
    · simp only [lookP, allP, Act.put, List.getElem?_cons_zero, List.getElem?_cons_succ, List.setIfInBounds_toArray, List.set_cons_zero, List.set_cons_succ]
      kernel_rfl
    -- 21: buildSlice 26 1 #[(0, t34)]
    refine chainP_skip (d := (some 35)) rfl (fun w' hS' => ?_) ?_
    · simp only [lookP, allP, Act.put, List.getElem?_cons_zero, List.getElem?_cons_succ, List.setIfInBounds_toArray, List.set_cons_zero, List.set_cons_succ]
      kernel_rfl
    -- 22: call { callee := value (func 95), args := #[t33, t35], argTypes := #[25, 26] }
    refine chainP_skip (d := (some 36)) rfl (fun w' hS' => ?_) ?_
    · simp only [lookP, allP, Act.put, List.getElem?_cons_zero, List.getElem?_cons_succ, List.setIfInBounds_toArray, List.set_cons_zero, List.set_cons_succ]
      kernel_rfl
    -- 23: unOp Unnot 4 t36
    refine chainP_skip (d := (some 37)) rfl (fun w' hS' => ?_) ?_
    · simp only [lookP, allP, Act.put, List.getElem?_cons_zero, List.getElem?_cons_succ, List.setIfInBounds_toArray, List.set_cons_zero, List.set_cons_succ]
      kernel_rfl
    iterate 2 (refine' chainP_read _ rfl rfl (fun w' hS' => ?_) ?_; rotate_left; · (simp only [lookP, allP, Act.put, List.getElem?_cons_zero, List.getElem?_cons_succ, List.setIfInBounds_toArray, List.set_cons_zero, List.set_cons_succ]; (try dsimp only at hS'); go_simp; (try with_reducible rfl)))
    -- 26: move t5
    refine chainP_skip (d := (some 40)) rfl (fun w' hS' => ?_) ?_
    · simp only [lookP, allP, Act.put, List.getElem?_cons_zero, List.getElem?_cons_succ, List.setIfInBounds_toArray, List.set_cons_zero, List.set_cons_succ]
      kernel_rfl
    -- 27: call { callee := builtin Builtin.len, args := #[t40], argTypes := #[26] }
    refine chainP_skip (d := (some 41)) rfl (fun w' hS' => ?_) ?_
    · simp only [lookP, allP, Act.put, List.getElem?_cons_zero, List.getElem?_cons_succ, List.setIfInBounds_toArray, List.set_cons_zero, List.set_cons_succ]
      kernel_rfl
    -- 28: move t2
    refine chainP_skip (d := (some 42)) rfl (fun w' hS' => ?_) ?_
    · simp only [lookP, allP, Act.put, List.getElem?_cons_zero, List.getElem?_cons_succ, List.setIfInBounds_toArray, List.set_cons_zero, List.set_cons_succ]
      kernel_rfl
    -- 29: call { callee := builtin Builtin.len, args := #[t42], argTypes := #[72] }
    refine chainP_skip (d := (some 43)) rfl (fun w' hS' => ?_) ?_
    · simp only [lookP, allP, Act.put, List.getElem?_cons_zero, List.getElem?_cons_succ, List.setIfInBounds_toArray, List.set_cons_zero, List.set_cons_succ]
      kernel_rfl
    -- 30: binOp Binmul 3 (const (int i64 2)) t43 3
    refine chainP_skip (d := (some 44)) rfl (fun w' hS' => ?_) ?_
    · simp only [lookP, allP, Act.put, List.getElem?_cons_zero, List.getElem?_cons_succ, List.setIfInBounds_toArray, List.set_cons_zero, List.set_cons_succ]
      kernel_rfl
    -- 31: binOp Binsub 3 t44 (const (int i64 1)) 3
    refine chainP_skip (d := (some 45)) rfl (fun w' hS' => ?_) ?_
    · simp only [lookP, allP, Act.put, List.getElem?_cons_zero, List.getElem?_cons_succ, List.setIfInBounds_toArray, List.set_cons_zero, List.set_cons_succ]
      kernel_rfl
    -- 32: binOp Binneq 3 t41 t45 3
    refine chainP_skip (d := (some 46)) rfl (fun w' hS' => ?_) ?_
    · simp only [lookP, allP, Act.put, List.getElem?_cons_zero, List.getElem?_cons_succ, List.setIfInBounds_toArray, List.set_cons_zero, List.set_cons_succ]
      kernel_rfl
    iterate 2 (refine' chainP_read _ rfl rfl (fun w' hS' => ?_) ?_; rotate_left; · (simp only [lookP, allP, Act.put, List.getElem?_cons_zero, List.getElem?_cons_succ, List.setIfInBounds_toArray, List.set_cons_zero, List.set_cons_succ]; (try dsimp only at hS'); go_simp; (try with_reducible rfl)))
    -- 35: load 25 t6
    refine chainP_skip (d := (some 49)) rfl (fun w' hS' => ?_) ?_
    · simp only [lookP, allP, Act.put, List.getElem?_cons_zero, List.getElem?_cons_succ, List.setIfInBounds_toArray, List.set_cons_zero, List.set_cons_succ]
      kernel_rfl
    -- 36: move t5
    refine chainP_skip (d := (some 50)) rfl (fun w' hS' => ?_) ?_
    · simp only [lookP, allP, Act.put, List.getElem?_cons_zero, List.getElem?_cons_succ, List.setIfInBounds_toArray, List.set_cons_zero, List.set_cons_succ]
      kernel_rfl
    -- 37: call { callee := value (func 95), args := #[t49, t50], argTypes := #[25, 26] }
    refine chainP_skip (d := (some 51)) rfl (fun w' hS' => ?_) ?_
    · simp only [lookP, allP, Act.put, List.getElem?_cons_zero, List.getElem?_cons_succ, List.setIfInBounds_toArray, List.set_cons_zero, List.set_cons_succ]
      kernel_rfl
    -- 38: unOp Unnot 4 t51
    refine chainP_skip (d := (some 52)) rfl (fun w' hS' => ?_) ?_
    · simp only [lookP, allP, Act.put, List.getElem?_cons_zero, List.getElem?_cons_succ, List.setIfInBounds_toArray, List.set_cons_zero, List.set_cons_succ]
      kernel_rfl
    iterate 2 (refine' chainP_read _ rfl rfl (fun w' hS' => ?_) ?_; rotate_left; · (simp only [lookP, allP, Act.put, List.getElem?_cons_zero, List.getElem?_cons_succ, List.setIfInBounds_toArray, List.set_cons_zero, List.set_cons_succ]; (try dsimp only at hS'); go_simp; (try with_reducible rfl)))
    -- 41: load 25 t6
    refine chainP_skip (d := (some 55)) rfl (fun w' hS' => ?_) ?_
    · simp only [lookP, allP, Act.put, List.getElem?_cons_zero, List.getElem?_cons_succ, List.setIfInBounds_toArray, List.set_cons_zero, List.set_cons_succ]
      kernel_rfl
    -- 42: move t2
    refine chainP_skip (d := (some 56)) rfl (fun w' hS' => ?_) ?_
    · simp only [lookP, allP, Act.put, List.getElem?_cons_zero, List.getElem?_cons_succ, List.setIfInBounds_toArray, List.set_cons_zero, List.set_cons_succ]
      kernel_rfl
    -- 43: move t3
    refine chainP_skip (d := (some 57)) rfl (fun w' hS' => ?_) ?_
    · simp only [lookP, allP, Act.put, List.getElem?_cons_zero, List.getElem?_cons_succ, List.setIfInBounds_toArray, List.set_cons_zero, List.set_cons_succ]
      kernel_rfl
    -- 44: indexAddr 72 t56 t57
    refine chainP_skip (d := (some 58)) rfl (fun w' hS' => ?_) ?_
    · simp only [lookP, allP, Act.put, List.getElem?_cons_zero, List.getElem?_cons_succ, List.setIfInBounds_toArray, List.set_cons_zero, List.set_cons_succ]
      kernel_rfl
    -- 45: load 51 t58
    refine chainP_skip (d := (some 59)) rfl (fun w' hS' => ?_) ?_
    · simp only [lookP, allP, Act.put, List.getElem?_cons_zero, List.getElem?_cons_succ, List.setIfInBounds_toArray, List.set_cons_zero, List.set_cons_succ]
      kernel_rfl
    -- 46: move t4
    refine chainP_skip (d := (some 60)) rfl (fun w' hS' => ?_) ?_
    · simp only [lookP, allP, Act.put, List.getElem?_cons_zero, List.getElem?_cons_succ, List.setIfInBounds_toArray, List.set_cons_zero, List.set_cons_succ]
      kernel_rfl
    -- 47: call { callee := value (func 149), args := #[t55, t59, t60], argTypes := #[25, 51, 3] }
    refine chainP_skip (d := (some 61)) rfl (fun w' hS' => ?_) ?_
    · simp only [lookP, allP, Act.put, List.getElem?_cons_zero, List.getElem?_cons_succ, List.setIfInBounds_toArray, List.set_cons_zero, List.set_cons_succ]
      kernel_rfl
    -- 48: unOp Unnot 4 t61
    refine chainP_skip (d := (some 62)) rfl (fun w' hS' => ?_) ?_
    · simp only [lookP, allP, Act.put, List.getElem?_cons_zero, List.getElem?_cons_succ, List.setIfInBounds_toArray, List.set_cons_zero, List.set_cons_succ]
      kernel_rfl
    -- 49: pick t54 (const (bool true)) t62
    refine' chainP_read (d := (some 63)) _ rfl rfl (fun w' hS' => ?_) ?_; rotate_left
    · simp only [lookP, allP, Act.put, List.getElem?_cons_zero, List.getElem?_cons_succ, List.setIfInBounds_toArray, List.set_cons_zero, List.set_cons_succ]
      (try dsimp only at hS')
      go_simp
      (try with_reducible rfl)
    refine chainP_nil (fun u1 hS' => ?_)
    simp only [allP, Act.put, List.setIfInBounds_toArray, List.set_cons_zero, List.set_cons_succ]
    have hq1 := hS'.1
    clear hS'
    replace hc := Below.next hc hq1
    clear hq1 c0_0 c0_1 c0_2
    obtain ⟨c0_0, c0_1, c0_2⟩ := HCC.out _ hc
    go_wp2_with fail
    refine NoPanic.normal ?_
    have HRE1 := Lib.hid (HR1.out.below hc)
    clear HR1
    have HBE := Lib.hid (HB.out.trans (hc.mono HB.out.size))
    have r1_0 := HRE1.out.cell (i := 0) rfl
    have r1_1 := HRE1.out.cell (i := 1) rfl
    have r1_2 := HRE1.out.cell (i := 2) rfl
    have fr1 := fun j => HRE1.out.frozen j
    go_wp2_with fail
    have HRF := Lib.hid (((HRE1.out.set 0 ((.slice none 0 0))).set 1 ((.slice none 0 0))).set 2 ((.slice none 0 0)))
    have HBF := Lib.hid (((HBE.out.setCell (p := ⟨w.heap.size + 1, 0, none⟩) (by show w.heap.size ≤ w.heap.size + 1; omega) ((.slice none 0 0))).setCell (p := ⟨w.heap.size + 1, 1, none⟩) (by show w.heap.size ≤ w.heap.size + 1; omega) ((.slice none 0 0))).setCell (p := ⟨w.heap.size + 1, 2, none⟩) (by show w.heap.size ≤ w.heap.size + 1; omega) ((.slice none 0 0)))
    clear r1_0 r1_1 r1_2 fr1
    have r1_0 := HRF.out.cell (i := 0) rfl
    have r1_1 := HRF.out.cell (i := 1) rfl
    have r1_2 := HRF.out.cell (i := 2) rfl
    try (go_wp2_with fail)
    have HVB : Hid (ooB gr s l k x cs = false) := by unfold Hid; have q := Hhc1.out; unfold ooB; cases h1 : goodG gr with | false => rfl | true => (rw [h1, Bool.true_and] at q; rw [q]; rfl)
    have HPR : Hid (ooF gr s l k x cs = ⟨[], [], []⟩) := by unfold Hid ooF; rw [if_neg (by rw [HVB.out]; simp)]
    refine bodyPost_ret (v := .tuple #[.agg #[(.slice none 0 0), (.slice none 0 0), (.slice none 0 0)], .bool false]) (by simp [results, Try.results21, go_sem, r1_0, r1_1, r1_2]) rfl ⟨(by rw [HVB.out, HPR.out]; exact RetP.mk (OwnI.nil _ _) (OwnI.nil _ _) (OwnI.nil _ _)), HBF.out⟩
  | true =>
    have HSG : Hid (goodG gr = true ∧ s.size ≤ 40) := by have q := hc1; rw [Bool.and_eq_true, decide_eq_true_iff] at q; exact q
    have HG := Lib.hid (goodG_ok HSG.out.1)
    have HS := Lib.hid HSG.out.2
    have HSGd : Hid (decide (s.size ≤ 40) = true) := decide_eq_true HSG.out.2
    have Hhc1 := Lib.hid hc1
    clear hc1
    cases hc2 : stB gr l with
    | false =>
      have Hhc2 := Lib.hid hc2
      clear hc2
      try (go_wp2_with fail)
      refine wp_region_noPanic ?_
      refine wp_region_P (fun w' => w'.cell? ⟨w.heap.size, 0, none⟩ = some (.int .i64 gr.p) ∧ w'.cell? ⟨w.heap.size, 1, none⟩ = some (.int .i64 gr.q) ∧ w'.cell? ⟨w.heap.size, 2, none⟩ = some (.int .i64 gr.g)) 52 [(0, []), (1, []), (2, [1, 0]), (3, [0]), (4, [0]), (5, [0]), (6, [1]), (7, [1, 0, 2]), (8, [0, 3]), (9, [4, 0]), (10, [0]), (11, [0]), (12, [1]), (13, [0, 2]), (14, [0, 3]), (15, [3, 0, 4]), (16, [0, 5]), (17, [6, 0]), (18, [0]), (19, [0]), (20, [1]), (21, [0, 2]), (22, [2, 0, 3]), (23, [0, 4]), (24, [5, 0]), (25, [0]), (26, [0]), (27, [0, 1]), (28, [2]), (29, [0, 3]), (30, [0, 4]), (31, [0, 5]), (32, [4, 0, 6]), (33, [7, 0]), (34, [0]), (35, [0]), (36, [1]), (37, [1, 0, 2]), (38, [0, 3]), (39, [4, 0]), (40, [0]), (41, [0]), (42, [1]), (43, [2]), (44, [1, 0, 3]), (45, [0, 4]), (46, [5]), (47, [5, 1, 0, 6]), (48, [0, 7]), (49, [8, 0])] [] (by kernel_rfl) (by kernel_rfl) (by kernel_rfl) rfl (fun _ _ _ _ h => h) (fun w' h => ⟨box_at c0_0 h, box_at c0_1 h, box_at c0_2 h⟩) ?_
      simp only [pickP, pickN, List.getElem?_cons_zero, List.getElem?_cons_succ]
      iterate 2 (refine' chainP_read _ rfl rfl (fun w' hS' => ?_) ?_; rotate_left; · (simp only [lookP, allP, Act.put, List.getElem?_cons_zero, List.getElem?_cons_succ, List.setIfInBounds_toArray, List.set_cons_zero, List.set_cons_succ]; (try dsimp only at hS'); go_simp; (try with_reducible rfl)))
      -- 2: call { callee := value (func 135), args := #[t14, t15], argTypes := #[25, 9] }
      refine chainP_call (d := (some 16)) (.bool true) rfl rfl (fun w' hS' => ?_) ?_
      · simp only [lookP, allP, Act.put, List.getElem?_cons_zero, List.getElem?_cons_succ, List.setIfInBounds_toArray, List.set_cons_zero, List.set_cons_succ]
        intro K hK
        go_simp
        go_at_call 105
        refine (spec_sLabel gr s _ HS2.out).mono ?_
        rintro e u ⟨rfl, hq⟩
        rw [Hhc1.out]
        exact hK.out _ hq
      iterate 2 (refine' chainP_read _ rfl rfl (fun w' hS' => ?_) ?_; rotate_left; · (simp only [lookP, allP, Act.put, List.getElem?_cons_zero, List.getElem?_cons_succ, List.setIfInBounds_toArray, List.set_cons_zero, List.set_cons_succ]; (try dsimp only at hS'); go_simp; (try with_reducible rfl)))
      -- 5: load 25 t6
      refine' chainP_readG (d := (some 19)) _ rfl (fun w' hS' => ?_) ?_; rotate_left
      · simp only [lookP, allP, Act.put, List.getElem?_cons_zero, List.getElem?_cons_succ, List.setIfInBounds_toArray, List.set_cons_zero, List.set_cons_succ]
        refine ⟨by kernel_rfl, ?_⟩
        (try dsimp only at hS')
        go_simp
        (try with_reducible rfl)
      -- 6: move t2
      refine' chainP_readG (d := (some 20)) _ rfl (fun w' hS' => ?_) ?_; rotate_left
      · simp only [lookP, allP, Act.put, List.getElem?_cons_zero, List.getElem?_cons_succ, List.setIfInBounds_toArray, List.set_cons_zero, List.set_cons_succ]
        refine ⟨by kernel_rfl, ?_⟩
        (try dsimp only at hS')
        go_simp
        (try with_reducible rfl)
      -- 7: call { callee := value (func 148), args := #[t19, t20], argTypes := #[25, 72] }
      refine chainP_callG (d := (some 21)) (.bool false) rfl (fun w' hS' => ?_) ?_
      · simp only [lookP, allP, Act.put, List.getElem?_cons_zero, List.getElem?_cons_succ, List.setIfInBounds_toArray, List.set_cons_zero, List.set_cons_succ]
        refine ⟨by kernel_rfl, ?_⟩
        intro K hK
        go_simp
        go_at_call 106
        refine (spec_sAll gr _ l _ HG.out ((Hev.out.below (HB.out.trans (hc.mono HB.out.size))).below hS'.1)).mono ?_
        rintro e u ⟨rfl, hq⟩
        rw [Hhc2.out]
        exact hK.out _ hq
      -- 8: unOp Unnot 4 t21
      refine' chainP_readG (d := (some 22)) _ rfl (fun w' hS' => ?_) ?_; rotate_left
      · simp only [lookP, allP, Act.put, List.getElem?_cons_zero, List.getElem?_cons_succ, List.setIfInBounds_toArray, List.set_cons_zero, List.set_cons_succ]
        refine ⟨by kernel_rfl, ?_⟩
        (try dsimp only at hS')
        go_simp
        (try with_reducible rfl)
      iterate 2 (refine' chainP_read _ rfl rfl (fun w' hS' => ?_) ?_; rotate_left; · (simp only [lookP, allP, Act.put, List.getElem?_cons_zero, List.getElem?_cons_succ, List.setIfInBounds_toArray, List.set_cons_zero, List.set_cons_succ]; (try dsimp only at hS'); go_simp; (try with_reducible rfl)))
      -- 11: move t3
      refine chainP_skip (d := (some 25)) rfl (fun w' hS' => ?_) ?_
      · simp only [lookP, allP, Act.put, List.getElem?_cons_zero, List.getElem?_cons_succ, List.setIfInBounds_toArray, List.set_cons_zero, List.set_cons_succ]
        kernel_rfl
      -- 12: move t2
      refine chainP_skip (d := (some 26)) rfl (fun w' hS' => ?_) ?_
      · simp only [lookP, allP, Act.put, List.getElem?_cons_zero, List.getElem?_cons_succ, List.setIfInBounds_toArray, List.set_cons_zero, List.set_cons_succ]
        kernel_rfl
      -- 13: call { callee := builtin Builtin.len, args := #[t26], argTypes := #[72] }
      refine chainP_skip (d := (some 27)) rfl (fun w' hS' => ?_) ?_
      · simp only [lookP, allP, Act.put, List.getElem?_cons_zero, List.getElem?_cons_succ, List.setIfInBounds_toArray, List.set_cons_zero, List.set_cons_succ]
        kernel_rfl
      -- 14: binOp Binsub 3 t27 (const (int i64 1)) 3
      refine chainP_skip (d := (some 28)) rfl (fun w' hS' => ?_) ?_
      · simp only [lookP, allP, Act.put, List.getElem?_cons_zero, List.getElem?_cons_succ, List.setIfInBounds_toArray, List.set_cons_zero, List.set_cons_succ]
        kernel_rfl
      -- 15: call { callee := value (func 94), args := #[t25, const (int i64 0), t28], argTypes := #[3, 3, 3] }
      refine chainP_skip (d := (some 29)) rfl (fun w' hS' => ?_) ?_
      · simp only [lookP, allP, Act.put, List.getElem?_cons_zero, List.getElem?_cons_succ, List.setIfInBounds_toArray, List.set_cons_zero, List.set_cons_succ]
        kernel_rfl
      -- 16: unOp Unnot 4 t29
      refine chainP_skip (d := (some 30)) rfl (fun w' hS' => ?_) ?_
      · simp only [lookP, allP, Act.put, List.getElem?_cons_zero, List.getElem?_cons_succ, List.setIfInBounds_toArray, List.set_cons_zero, List.set_cons_succ]
        kernel_rfl
      iterate 2 (refine' chainP_read _ rfl rfl (fun w' hS' => ?_) ?_; rotate_left; · (simp only [lookP, allP, Act.put, List.getElem?_cons_zero, List.getElem?_cons_succ, List.setIfInBounds_toArray, List.set_cons_zero, List.set_cons_succ]; (try dsimp only at hS'); go_simp; (try with_reducible rfl)))
      -- 19: load 25 t6
      refine chainP_skip (d := (some 33)) rfl (fun w' hS' => ?_) ?_
      · simp only [lookP, allP, Act.put, List.getElem?_cons_zero, List.getElem?_cons_succ, List.setIfInBounds_toArray, List.set_cons_zero, List.set_cons_succ]
        kernel_rfl
      -- 20: move t4
      refine chainP_skip (d := (some 34)) rfl (fun w' hS' => ?_) ?_
      · simp only [lookP, allP, Act.put, List.getElem?_cons_zero, List.getElem?_cons_succ, List.setIfInBounds_toArray, List.set_cons_zero, List.set_cons_succ]
        kernel_rfl
      -- 21: buildSlice 26 1 #[(0, t34)]
      refine chainP_skip (d := (some 35)) rfl (fun w' hS' => ?_) ?_
      · simp only [lookP, allP, Act.put, List.getElem?_cons_zero, List.getElem?_cons_succ, List.setIfInBounds_toArray, List.set_cons_zero, List.set_cons_succ]
        kernel_rfl
      -- 22: call { callee := value (func 95), args := #[t33, t35], argTypes := #[25, 26] }
      refine chainP_skip (d := (some 36)) rfl (fun w' hS' => ?_) ?_
      · simp only [lookP, allP, Act.put, List.getElem?_cons_zero, List.getElem?_cons_succ, List.setIfInBounds_toArray, List.set_cons_zero, List.set_cons_succ]
        kernel_rfl
      -- 23: unOp Unnot 4 t36
      refine chainP_skip (d := (some 37)) rfl (fun w' hS' => ?_) ?_
      · simp only [lookP, allP, Act.put, List.getElem?_cons_zero, List.getElem?_cons_succ, List.setIfInBounds_toArray, List.set_cons_zero, List.set_cons_succ]
        kernel_rfl
      iterate 2 (refine' chainP_read _ rfl rfl (fun w' hS' => ?_) ?_; rotate_left; · (simp only [lookP, allP, Act.put, List.getElem?_cons_zero, List.getElem?_cons_succ, List.setIfInBounds_toArray, List.set_cons_zero, List.set_cons_succ]; (try dsimp only at hS'); go_simp; (try with_reducible rfl)))
      -- 26: move t5
      refine chainP_skip (d := (some 40)) rfl (fun w' hS' => ?_) ?_
      · simp only [lookP, allP, Act.put, List.getElem?_cons_zero, List.getElem?_cons_succ, List.setIfInBounds_toArray, List.set_cons_zero, List.set_cons_succ]
        kernel_rfl
      -- 27: call { callee := builtin Builtin.len, args := #[t40], argTypes := #[26] }
      refine chainP_skip (d := (some 41)) rfl (fun w' hS' => ?_) ?_
      · simp only [lookP, allP, Act.put, List.getElem?_cons_zero, List.getElem?_cons_succ, List.setIfInBounds_toArray, List.set_cons_zero, List.set_cons_succ]
        kernel_rfl
      -- 28: move t2
      refine chainP_skip (d := (some 42)) rfl (fun w' hS' => ?_) ?_
      · simp only [lookP, allP, Act.put, List.getElem?_cons_zero, List.getElem?_cons_succ, List.setIfInBounds_toArray, List.set_cons_zero, List.set_cons_succ]
        kernel_rfl
      -- 29: call { callee := builtin Builtin.len, args := #[t42], argTypes := #[72] }
      refine chainP_skip (d := (some 43)) rfl (fun w' hS' => ?_) ?_
      · simp only [lookP, allP, Act.put, List.getElem?_cons_zero, List.getElem?_cons_succ, List.setIfInBounds_toArray, List.set_cons_zero, List.set_cons_succ]
        kernel_rfl
      -- 30: binOp Binmul 3 (const (int i64 2)) t43 3
      refine chainP_skip (d := (some 44)) rfl (fun w' hS' => ?_) ?_
      · simp only [lookP, allP, Act.put, List.getElem?_cons_zero, List.getElem?_cons_succ, List.setIfInBounds_toArray, List.set_cons_zero, List.set_cons_succ]
        kernel_rfl
      -- 31: binOp Binsub 3 t44 (const (int i64 1)) 3
      refine chainP_skip (d := (some 45)) rfl (fun w' hS' => ?_) ?_
      · simp only [lookP, allP, Act.put, List.getElem?_cons_zero, List.getElem?_cons_succ, List.setIfInBounds_toArray, List.set_cons_zero, List.set_cons_succ]
        kernel_rfl
      -- 32: binOp Binneq 3 t41 t45 3
      refine chainP_skip (d := (some 46)) rfl (fun w' hS' => ?_) ?_
      · simp only [lookP, allP, Act.put, List.getElem?_cons_zero, List.getElem?_cons_succ, List.setIfInBounds_toArray, List.set_cons_zero, List.set_cons_succ]
        kernel_rfl
      iterate 2 (refine' chainP_read _ rfl rfl (fun w' hS' => ?_) ?_; rotate_left; · (simp only [lookP, allP, Act.put, List.getElem?_cons_zero, List.getElem?_cons_succ, List.setIfInBounds_toArray, List.set_cons_zero, List.set_cons_succ]; (try dsimp only at hS'); go_simp; (try with_reducible rfl)))
      -- 35: load 25 t6
      refine chainP_skip (d := (some 49)) rfl (fun w' hS' => ?_) ?_
      · simp only [lookP, allP, Act.put, List.getElem?_cons_zero, List.getElem?_cons_succ, List.setIfInBounds_toArray, List.set_cons_zero, List.set_cons_succ]
        kernel_rfl
      -- 36: move t5
      refine chainP_skip (d := (some 50)) rfl (fun w' hS' => ?_) ?_
      · simp only [lookP, allP, Act.put, List.getElem?_cons_zero, List.getElem?_cons_succ, List.setIfInBounds_toArray, List.set_cons_zero, List.set_cons_succ]
        kernel_rfl
      -- 37: call { callee := value (func 95), args := #[t49, t50], argTypes := #[25, 26] }
      refine chainP_skip (d := (some 51)) rfl (fun w' hS' => ?_) ?_
      · simp only [lookP, allP, Act.put, List.getElem?_cons_zero, List.getElem?_cons_succ, List.setIfInBounds_toArray, List.set_cons_zero, List.set_cons_succ]
        kernel_rfl
      -- 38: unOp Unnot 4 t51
      refine chainP_skip (d := (some 52)) rfl (fun w' hS' => ?_) ?_
      · simp only [lookP, allP, Act.put, List.getElem?_cons_zero, List.getElem?_cons_succ, List.setIfInBounds_toArray, List.set_cons_zero, List.set_cons_succ]
        kernel_rfl
      iterate 2 (refine' chainP_read _ rfl rfl (fun w' hS' => ?_) ?_; rotate_left; · (simp only [lookP, allP, Act.put, List.getElem?_cons_zero, List.getElem?_cons_succ, List.setIfInBounds_toArray, List.set_cons_zero, List.set_cons_succ]; (try dsimp only at hS'); go_simp; (try with_reducible rfl)))
      -- 41: load 25 t6
      refine chainP_skip (d := (some 55)) rfl (fun w' hS' => ?_) ?_
      · simp only [lookP, allP, Act.put, List.getElem?_cons_zero, List.getElem?_cons_succ, List.setIfInBounds_toArray, List.set_cons_zero, List.set_cons_succ]
        kernel_rfl
      -- 42: move t2
      refine chainP_skip (d := (some 56)) rfl (fun w' hS' => ?_) ?_
      · simp only [lookP, allP, Act.put, List.getElem?_cons_zero, List.getElem?_cons_succ, List.setIfInBounds_toArray, List.set_cons_zero, List.set_cons_succ]
        kernel_rfl
      -- 43: move t3
      refine chainP_skip (d := (some 57)) rfl (fun w' hS' => ?_) ?_
      · simp only [lookP, allP, Act.put, List.getElem?_cons_zero, List.getElem?_cons_succ, List.setIfInBounds_toArray, List.set_cons_zero, List.set_cons_succ]
        kernel_rfl
      -- 44: indexAddr 72 t56 t57
      refine chainP_skip (d := (some 58)) rfl (fun w' hS' => ?_) ?_
      · simp only [lookP, allP, Act.put, List.getElem?_cons_zero, List.getElem?_cons_succ, List.setIfInBounds_toArray, List.set_cons_zero, List.set_cons_succ]
        kernel_rfl
      -- 45: load 51 t58
      refine chainP_skip (d := (some 59)) rfl (fun w' hS' => ?_) ?_
      · simp only [lookP, allP, Act.put, List.getElem?_cons_zero, List.getElem?_cons_succ, List.setIfInBounds_toArray, List.set_cons_zero, List.set_cons_succ]
        kernel_rfl
      -- 46: move t4
      refine chainP_skip (d := (some 60)) rfl (fun w' hS' => ?_) ?_
      · simp only [lookP, allP, Act.put, List.getElem?_cons_zero, List.getElem?_cons_succ, List.setIfInBounds_toArray, List.set_cons_zero, List.set_cons_succ]
        kernel_rfl
      -- 47: call { callee := value (func 149), args := #[t55, t59, t60], argTypes := #[25, 51, 3] }
      refine chainP_skip (d := (some 61)) rfl (fun w' hS' => ?_) ?_
      · simp only [lookP, allP, Act.put, List.getElem?_cons_zero, List.getElem?_cons_succ, List.setIfInBounds_toArray, List.set_cons_zero, List.set_cons_succ]
        kernel_rfl
      -- 48: unOp Unnot 4 t61
      refine chainP_skip (d := (some 62)) rfl (fun w' hS' => ?_) ?_
      · simp only [lookP, allP, Act.put, List.getElem?_cons_zero, List.getElem?_cons_succ, List.setIfInBounds_toArray, List.set_cons_zero, List.set_cons_succ]
        kernel_rfl
      -- 49: pick t54 (const (bool true)) t62
      refine' chainP_read (d := (some 63)) _ rfl rfl (fun w' hS' => ?_) ?_; rotate_left
      · simp only [lookP, allP, Act.put, List.getElem?_cons_zero, List.getElem?_cons_succ, List.setIfInBounds_toArray, List.set_cons_zero, List.set_cons_succ]
        (try dsimp only at hS')
        go_simp
        (try with_reducible rfl)
      refine chainP_nil (fun u1 hS' => ?_)
      simp only [allP, Act.put, List.setIfInBounds_toArray, List.set_cons_zero, List.set_cons_succ]
      have hq1 := hS'.1
      clear hS'
      replace hc := Below.next hc hq1
      clear hq1 c0_0 c0_1 c0_2
      obtain ⟨c0_0, c0_1, c0_2⟩ := HCC.out _ hc
      go_wp2_with fail
      refine NoPanic.normal ?_
      have HRE1 := Lib.hid (HR1.out.below hc)
      clear HR1
      have HBE := Lib.hid (HB.out.trans (hc.mono HB.out.size))
      have r1_0 := HRE1.out.cell (i := 0) rfl
      have r1_1 := HRE1.out.cell (i := 1) rfl
      have r1_2 := HRE1.out.cell (i := 2) rfl
      have fr1 := fun j => HRE1.out.frozen j
      go_wp2_with fail
      have HRF := Lib.hid (((HRE1.out.set 0 ((.slice none 0 0))).set 1 ((.slice none 0 0))).set 2 ((.slice none 0 0)))
      have HBF := Lib.hid (((HBE.out.setCell (p := ⟨w.heap.size + 1, 0, none⟩) (by show w.heap.size ≤ w.heap.size + 1; omega) ((.slice none 0 0))).setCell (p := ⟨w.heap.size + 1, 1, none⟩) (by show w.heap.size ≤ w.heap.size + 1; omega) ((.slice none 0 0))).setCell (p := ⟨w.heap.size + 1, 2, none⟩) (by show w.heap.size ≤ w.heap.size + 1; omega) ((.slice none 0 0)))
      clear r1_0 r1_1 r1_2 fr1
      have r1_0 := HRF.out.cell (i := 0) rfl
      have r1_1 := HRF.out.cell (i := 1) rfl
      have r1_2 := HRF.out.cell (i := 2) rfl
      try (go_wp2_with fail)
      have HVB : Hid (ooB gr s l k x cs = false) := by unfold Hid; simp [ooB, Hhc2.out, HSG.out.1, HSGd.out]
      have HPR : Hid (ooF gr s l k x cs = ⟨[], [], []⟩) := by unfold Hid ooF; rw [if_neg (by rw [HVB.out]; simp)]
      refine bodyPost_ret (v := .tuple #[.agg #[(.slice none 0 0), (.slice none 0 0), (.slice none 0 0)], .bool false]) (by simp [results, Try.results21, go_sem, r1_0, r1_1, r1_2]) rfl ⟨(by rw [HVB.out, HPR.out]; exact RetP.mk (OwnI.nil _ _) (OwnI.nil _ _) (OwnI.nil _ _)), HBF.out⟩
    | true =>
      have HL : Hid (stB gr l = true) := hc2
      have HN9 := Lib.hid (stB_len HL.out)
      have hw1 : IntKind.i64.wrap ((evn : Int) - 1) = (evn : Int) - 1 := IntWalk.i64_in _ (by have := HN9.out; have := Eev.out; omega)
      have hw2 : IntKind.i64.wrap (2 * (evn : Int)) = 2 * (evn : Int) := IntWalk.i64_in _ (by have := HN9.out; have := Eev.out; omega)
      have hw3 : IntKind.i64.wrap (2 * (evn : Int) - 1) = 2 * (evn : Int) - 1 := IntWalk.i64_in _ (by have := HN9.out; have := Eev.out; omega)
      have Hhc2 := Lib.hid hc2
      clear hc2
      cases hc3 : decide (0 ≤ k ∧ k ≤ ((evn : Int) - 1)) with
      | false =>
        have HK3d : Hid (decide (0 ≤ k ∧ k ≤ (l.length : Int) - 1) = false) := by have q := hc3; rw [decide_eq_false_iff_not] at q; exact decide_eq_false (by have := Eev.out; omega)
        try (go_wp2_with fail)
        refine wp_region_noPanic ?_
        refine wp_region_P (fun w' => w'.cell? ⟨w.heap.size, 0, none⟩ = some (.int .i64 gr.p) ∧ w'.cell? ⟨w.heap.size, 1, none⟩ = some (.int .i64 gr.q) ∧ w'.cell? ⟨w.heap.size, 2, none⟩ = some (.int .i64 gr.g)) 52 [(0, []), (1, []), (2, [1, 0]), (3, [0]), (4, [0]), (5, [0]), (6, [1]), (7, [1, 0, 2]), (8, [0, 3]), (9, [4, 0]), (10, [0]), (11, [0]), (12, [1]), (13, [0, 2]), (14, [0, 3]), (15, [3, 0, 4]), (16, [0, 5]), (17, [6, 0]), (18, [0]), (19, [0]), (20, [1]), (21, [0, 2]), (22, [2, 0, 3]), (23, [0, 4]), (24, [5, 0]), (25, [0]), (26, [0]), (27, [0, 1]), (28, [2]), (29, [0, 3]), (30, [0, 4]), (31, [0, 5]), (32, [4, 0, 6]), (33, [7, 0]), (34, [0]), (35, [0]), (36, [1]), (37, [1, 0, 2]), (38, [0, 3]), (39, [4, 0]), (40, [0]), (41, [0]), (42, [1]), (43, [2]), (44, [1, 0, 3]), (45, [0, 4]), (46, [5]), (47, [5, 1, 0, 6]), (48, [0, 7]), (49, [8, 0])] [] (by kernel_rfl) (by kernel_rfl) (by kernel_rfl) rfl (fun _ _ _ _ h => h) (fun w' h => ⟨box_at c0_0 h, box_at c0_1 h, box_at c0_2 h⟩) ?_
        simp only [pickP, pickN, List.getElem?_cons_zero, List.getElem?_cons_succ]
        iterate 2 (refine' chainP_read _ rfl rfl (fun w' hS' => ?_) ?_; rotate_left; · (simp only [lookP, allP, Act.put, List.getElem?_cons_zero, List.getElem?_cons_succ, List.setIfInBounds_toArray, List.set_cons_zero, List.set_cons_succ]; (try dsimp only at hS'); go_simp; (try with_reducible rfl)))
        -- 2: call { callee := value (func 135), args := #[t14, t15], argTypes := #[25, 9] }
        refine chainP_call (d := (some 16)) (.bool true) rfl rfl (fun w' hS' => ?_) ?_
        · simp only [lookP, allP, Act.put, List.getElem?_cons_zero, List.getElem?_cons_succ, List.setIfInBounds_toArray, List.set_cons_zero, List.set_cons_succ]
          intro K hK
          go_simp
          go_at_call 105
          refine (spec_sLabel gr s _ HS2.out).mono ?_
          rintro e u ⟨rfl, hq⟩
          rw [Hhc1.out]
          exact hK.out _ hq
        iterate 2 (refine' chainP_read _ rfl rfl (fun w' hS' => ?_) ?_; rotate_left; · (simp only [lookP, allP, Act.put, List.getElem?_cons_zero, List.getElem?_cons_succ, List.setIfInBounds_toArray, List.set_cons_zero, List.set_cons_succ]; (try dsimp only at hS'); go_simp; (try with_reducible rfl)))
        -- 5: load 25 t6
        refine' chainP_readG (d := (some 19)) _ rfl (fun w' hS' => ?_) ?_; rotate_left
        · simp only [lookP, allP, Act.put, List.getElem?_cons_zero, List.getElem?_cons_succ, List.setIfInBounds_toArray, List.set_cons_zero, List.set_cons_succ]
          refine ⟨by kernel_rfl, ?_⟩
          (try dsimp only at hS')
          go_simp
          (try with_reducible rfl)
        -- 6: move t2
        refine' chainP_readG (d := (some 20)) _ rfl (fun w' hS' => ?_) ?_; rotate_left
        · simp only [lookP, allP, Act.put, List.getElem?_cons_zero, List.getElem?_cons_succ, List.setIfInBounds_toArray, List.set_cons_zero, List.set_cons_succ]
          refine ⟨by kernel_rfl, ?_⟩
          (try dsimp only at hS')
          go_simp
          (try with_reducible rfl)
        -- 7: call { callee := value (func 148), args := #[t19, t20], argTypes := #[25, 72] }
        refine chainP_callG (d := (some 21)) (.bool true) rfl (fun w' hS' => ?_) ?_
        · simp only [lookP, allP, Act.put, List.getElem?_cons_zero, List.getElem?_cons_succ, List.setIfInBounds_toArray, List.set_cons_zero, List.set_cons_succ]
          refine ⟨by kernel_rfl, ?_⟩
          intro K hK
          go_simp
          go_at_call 106
          refine (spec_sAll gr _ l _ HG.out ((Hev.out.below (HB.out.trans (hc.mono HB.out.size))).below hS'.1)).mono ?_
          rintro e u ⟨rfl, hq⟩
          rw [Hhc2.out]
          exact hK.out _ hq
        -- 8: unOp Unnot 4 t21
        refine' chainP_readG (d := (some 22)) _ rfl (fun w' hS' => ?_) ?_; rotate_left
        · simp only [lookP, allP, Act.put, List.getElem?_cons_zero, List.getElem?_cons_succ, List.setIfInBounds_toArray, List.set_cons_zero, List.set_cons_succ]
          refine ⟨by kernel_rfl, ?_⟩
          (try dsimp only at hS')
          go_simp
          (try with_reducible rfl)
        iterate 2 (refine' chainP_read _ rfl rfl (fun w' hS' => ?_) ?_; rotate_left; · (simp only [lookP, allP, Act.put, List.getElem?_cons_zero, List.getElem?_cons_succ, List.setIfInBounds_toArray, List.set_cons_zero, List.set_cons_succ]; (try dsimp only at hS'); go_simp; (try with_reducible rfl)))
        -- 11: move t3
        refine' chainP_readG (d := (some 25)) _ rfl (fun w' hS' => ?_) ?_; rotate_left
        · simp only [lookP, allP, Act.put, List.getElem?_cons_zero, List.getElem?_cons_succ, List.setIfInBounds_toArray, List.set_cons_zero, List.set_cons_succ]
          refine ⟨by kernel_rfl, ?_⟩
          (try dsimp only at hS')
          go_simp
          (try with_reducible rfl)
        -- 12: move t2
        refine' chainP_readG (d := (some 26)) _ rfl (fun w' hS' => ?_) ?_; rotate_left
        · simp only [lookP, allP, Act.put, List.getElem?_cons_zero, List.getElem?_cons_succ, List.setIfInBounds_toArray, List.set_cons_zero, List.set_cons_succ]
          refine ⟨by kernel_rfl, ?_⟩
          (try dsimp only at hS')
          go_simp
          (try with_reducible rfl)
        -- 13: call { callee := builtin Builtin.len, args := #[t26], argTypes := #[72] }
        refine' chainP_readG (d := (some 27)) _ rfl (fun w' hS' => ?_) ?_; rotate_left
        · simp only [lookP, allP, Act.put, List.getElem?_cons_zero, List.getElem?_cons_succ, List.setIfInBounds_toArray, List.set_cons_zero, List.set_cons_succ]
          refine ⟨by kernel_rfl, ?_⟩
          (try dsimp only at hS')
          go_simp
          (try with_reducible rfl)
        -- 14: binOp Binsub 3 t27 (const (int i64 1)) 3
        refine' chainP_readG (d := (some 28)) _ rfl (fun w' hS' => ?_) ?_; rotate_left
        · simp only [lookP, allP, Act.put, List.getElem?_cons_zero, List.getElem?_cons_succ, List.setIfInBounds_toArray, List.set_cons_zero, List.set_cons_succ]
          refine ⟨by kernel_rfl, ?_⟩
          (try dsimp only at hS')
          go_simp
          (try with_reducible rfl)
        -- 15: call { callee := value (func 94), args := #[t25, const (int i64 0), t28], argTypes := #[3, 3, 3] }
        refine chainP_callG (d := (some 29)) (.bool false) rfl (fun w' hS' => ?_) ?_
        · simp only [lookP, allP, Act.put, List.getElem?_cons_zero, List.getElem?_cons_succ, List.setIfInBounds_toArray, List.set_cons_zero, List.set_cons_succ]
          refine ⟨by kernel_rfl, ?_⟩
          intro K hK
          go_simp
          go_at_call 107
          refine (spec_l1In k 0 ((evn : Int) - 1) _).mono ?_
          rintro e u ⟨rfl, rfl⟩
          rw [hc3]
          exact hK.out _ (Below.refl _ _)
        -- 16: unOp Unnot 4 t29
        refine' chainP_readG (d := (some 30)) _ rfl (fun w' hS' => ?_) ?_; rotate_left
        · simp only [lookP, allP, Act.put, List.getElem?_cons_zero, List.getElem?_cons_succ, List.setIfInBounds_toArray, List.set_cons_zero, List.set_cons_succ]
          refine ⟨by kernel_rfl, ?_⟩
          (try dsimp only at hS')
          go_simp
          (try with_reducible rfl)
        iterate 2 (refine' chainP_read _ rfl rfl (fun w' hS' => ?_) ?_; rotate_left; · (simp only [lookP, allP, Act.put, List.getElem?_cons_zero, List.getElem?_cons_succ, List.setIfInBounds_toArray, List.set_cons_zero, List.set_cons_succ]; (try dsimp only at hS'); go_simp; (try with_reducible rfl)))
        -- 19: load 25 t6
        refine chainP_skip (d := (some 33)) rfl (fun w' hS' => ?_) ?_
        · simp only [lookP, allP, Act.put, List.getElem?_cons_zero, List.getElem?_cons_succ, List.setIfInBounds_toArray, List.set_cons_zero, List.set_cons_succ]
          kernel_rfl
        -- 20: move t4
        refine chainP_skip (d := (some 34)) rfl (fun w' hS' => ?_) ?_
        · simp only [lookP, allP, Act.put, List.getElem?_cons_zero, List.getElem?_cons_succ, List.setIfInBounds_toArray, List.set_cons_zero, List.set_cons_succ]
          kernel_rfl
        -- 21: buildSlice 26 1 #[(0, t34)]
        refine chainP_skip (d := (some 35)) rfl (fun w' hS' => ?_) ?_
        · simp only [lookP, allP, Act.put, List.getElem?_cons_zero, List.getElem?_cons_succ, List.setIfInBounds_toArray, List.set_cons_zero, List.set_cons_succ]
          kernel_rfl
        -- 22: call { callee := value (func 95), args := #[t33, t35], argTypes := #[25, 26] }
        refine chainP_skip (d := (some 36)) rfl (fun w' hS' => ?_) ?_
        · simp only [lookP, allP, Act.put, List.getElem?_cons_zero, List.getElem?_cons_succ, List.setIfInBounds_toArray, List.set_cons_zero, List.set_cons_succ]
          kernel_rfl
        -- 23: unOp Unnot 4 t36
        refine chainP_skip (d := (some 37)) rfl (fun w' hS' => ?_) ?_
        · simp only [lookP, allP, Act.put, List.getElem?_cons_zero, List.getElem?_cons_succ, List.setIfInBounds_toArray, List.set_cons_zero, List.set_cons_succ]
          kernel_rfl
        iterate 2 (refine' chainP_read _ rfl rfl (fun w' hS' => ?_) ?_; rotate_left; · (simp only [lookP, allP, Act.put, List.getElem?_cons_zero, List.getElem?_cons_succ, List.setIfInBounds_toArray, List.set_cons_zero, List.set_cons_succ]; (try dsimp only at hS'); go_simp; (try with_reducible rfl)))
        -- 26: move t5
        refine chainP_skip (d := (some 40)) rfl (fun w' hS' => ?_) ?_
        · simp only [lookP, allP, Act.put, List.getElem?_cons_zero, List.getElem?_cons_succ, List.setIfInBounds_toArray, List.set_cons_zero, List.set_cons_succ]
          kernel_rfl
        -- 27: call { callee := builtin Builtin.len, args := #[t40], argTypes := #[26] }
        refine chainP_skip (d := (some 41)) rfl (fun w' hS' => ?_) ?_
        · simp only [lookP, allP, Act.put, List.getElem?_cons_zero, List.getElem?_cons_succ, List.setIfInBounds_toArray, List.set_cons_zero, List.set_cons_succ]
          kernel_rfl
        -- 28: move t2
        refine chainP_skip (d := (some 42)) rfl (fun w' hS' => ?_) ?_
        · simp only [lookP, allP, Act.put, List.getElem?_cons_zero, List.getElem?_cons_succ, List.setIfInBounds_toArray, List.set_cons_zero, List.set_cons_succ]
          kernel_rfl
        -- 29: call { callee := builtin Builtin.len, args := #[t42], argTypes := #[72] }
        refine chainP_skip (d := (some 43)) rfl (fun w' hS' => ?_) ?_
        · simp only [lookP, allP, Act.put, List.getElem?_cons_zero, List.getElem?_cons_succ, List.setIfInBounds_toArray, List.set_cons_zero, List.set_cons_succ]
          kernel_rfl
        -- 30: binOp Binmul 3 (const (int i64 2)) t43 3
        refine chainP_skip (d := (some 44)) rfl (fun w' hS' => ?_) ?_
        · simp only [lookP, allP, Act.put, List.getElem?_cons_zero, List.getElem?_cons_succ, List.setIfInBounds_toArray, List.set_cons_zero, List.set_cons_succ]
          kernel_rfl
        -- 31: binOp Binsub 3 t44 (const (int i64 1)) 3
        refine chainP_skip (d := (some 45)) rfl (fun w' hS' => ?_) ?_
        · simp only [lookP, allP, Act.put, List.getElem?_cons_zero, List.getElem?_cons_succ, List.setIfInBounds_toArray, List.set_cons_zero, List.set_cons_succ]
          kernel_rfl
        -- 32: binOp Binneq 3 t41 t45 3
        refine chainP_skip (d := (some 46)) rfl (fun w' hS' => ?_) ?_
        · simp only [lookP, allP, Act.put, List.getElem?_cons_zero, List.getElem?_cons_succ, List.setIfInBounds_toArray, List.set_cons_zero, List.set_cons_succ]
          kernel_rfl
        iterate 2 (refine' chainP_read _ rfl rfl (fun w' hS' => ?_) ?_; rotate_left; · (simp only [lookP, allP, Act.put, List.getElem?_cons_zero, List.getElem?_cons_succ, List.setIfInBounds_toArray, List.set_cons_zero, List.set_cons_succ]; (try dsimp only at hS'); go_simp; (try with_reducible rfl)))
        -- 35: load 25 t6
        refine chainP_skip (d := (some 49)) rfl (fun w' hS' => ?_) ?_
        · simp only [lookP, allP, Act.put, List.getElem?_cons_zero, List.getElem?_cons_succ, List.setIfInBounds_toArray, List.set_cons_zero, List.set_cons_succ]
          kernel_rfl
        -- 36: move t5
        refine chainP_skip (d := (some 50)) rfl (fun w' hS' => ?_) ?_
        · simp only [lookP, allP, Act.put, List.getElem?_cons_zero, List.getElem?_cons_succ, List.setIfInBounds_toArray, List.set_cons_zero, List.set_cons_succ]
          kernel_rfl
        -- 37: call { callee := value (func 95), args := #[t49, t50], argTypes := #[25, 26] }
        refine chainP_skip (d := (some 51)) rfl (fun w' hS' => ?_) ?_
        · simp only [lookP, allP, Act.put, List.getElem?_cons_zero, List.getElem?_cons_succ, List.setIfInBounds_toArray, List.set_cons_zero, List.set_cons_succ]
          kernel_rfl
        -- 38: unOp Unnot 4 t51
        refine chainP_skip (d := (some 52)) rfl (fun w' hS' => ?_) ?_
        · simp only [lookP, allP, Act.put, List.getElem?_cons_zero, List.getElem?_cons_succ, List.setIfInBounds_toArray, List.set_cons_zero, List.set_cons_succ]
          kernel_rfl
        iterate 2 (refine' chainP_read _ rfl rfl (fun w' hS' => ?_) ?_; rotate_left; · (simp only [lookP, allP, Act.put, List.getElem?_cons_zero, List.getElem?_cons_succ, List.setIfInBounds_toArray, List.set_cons_zero, List.set_cons_succ]; (try dsimp only at hS'); go_simp; (try with_reducible rfl)))
        -- 41: load 25 t6
        refine chainP_skip (d := (some 55)) rfl (fun w' hS' => ?_) ?_
        · simp only [lookP, allP, Act.put, List.getElem?_cons_zero, List.getElem?_cons_succ, List.setIfInBounds_toArray, List.set_cons_zero, List.set_cons_succ]
          kernel_rfl
        -- 42: move t2
        refine chainP_skip (d := (some 56)) rfl (fun w' hS' => ?_) ?_
        · simp only [lookP, allP, Act.put, List.getElem?_cons_zero, List.getElem?_cons_succ, List.setIfInBounds_toArray, List.set_cons_zero, List.set_cons_succ]
          kernel_rfl
        -- 43: move t3
        refine chainP_skip (d := (some 57)) rfl (fun w' hS' => ?_) ?_
        · simp only [lookP, allP, Act.put, List.getElem?_cons_zero, List.getElem?_cons_succ, List.setIfInBounds_toArray, List.set_cons_zero, List.set_cons_succ]
          kernel_rfl
        -- 44: indexAddr 72 t56 t57
        refine chainP_skip (d := (some 58)) rfl (fun w' hS' => ?_) ?_
        · simp only [lookP, allP, Act.put, List.getElem?_cons_zero, List.getElem?_cons_succ, List.setIfInBounds_toArray, List.set_cons_zero, List.set_cons_succ]
          kernel_rfl
        -- 45: load 51 t58
        refine chainP_skip (d := (some 59)) rfl (fun w' hS' => ?_) ?_
        · simp only [lookP, allP, Act.put, List.getElem?_cons_zero, List.getElem?_cons_succ, List.setIfInBounds_toArray, List.set_cons_zero, List.set_cons_succ]
          kernel_rfl
        -- 46: move t4
        refine chainP_skip (d := (some 60)) rfl (fun w' hS' => ?_) ?_
        · simp only [lookP, allP, Act.put, List.getElem?_cons_zero, List.getElem?_cons_succ, List.setIfInBounds_toArray, List.set_cons_zero, List.set_cons_succ]
          kernel_rfl
        -- 47: call { callee := value (func 149), args := #[t55, t59, t60], argTypes := #[25, 51, 3] }
        refine chainP_skip (d := (some 61)) rfl (fun w' hS' => ?_) ?_
        · simp only [lookP, allP, Act.put, List.getElem?_cons_zero, List.getElem?_cons_succ, List.setIfInBounds_toArray, List.set_cons_zero, List.set_cons_succ]
          kernel_rfl
        -- 48: unOp Unnot 4 t61
        refine chainP_skip (d := (some 62)) rfl (fun w' hS' => ?_) ?_
        · simp only [lookP, allP, Act.put, List.getElem?_cons_zero, List.getElem?_cons_succ, List.setIfInBounds_toArray, List.set_cons_zero, List.set_cons_succ]
          kernel_rfl
        -- 49: pick t54 (const (bool true)) t62
        refine' chainP_read (d := (some 63)) _ rfl rfl (fun w' hS' => ?_) ?_; rotate_left
        · simp only [lookP, allP, Act.put, List.getElem?_cons_zero, List.getElem?_cons_succ, List.setIfInBounds_toArray, List.set_cons_zero, List.set_cons_succ]
          (try dsimp only at hS')
          go_simp
          (try with_reducible rfl)
        refine chainP_nil (fun u1 hS' => ?_)
        simp only [allP, Act.put, List.setIfInBounds_toArray, List.set_cons_zero, List.set_cons_succ]
        have hq1 := hS'.1
        clear hS'
        replace hc := Below.next hc hq1
        clear hq1 c0_0 c0_1 c0_2
        obtain ⟨c0_0, c0_1, c0_2⟩ := HCC.out _ hc
        go_wp2_with fail
        refine NoPanic.normal ?_
        have HRE1 := Lib.hid (HR1.out.below hc)
        clear HR1
        have HBE := Lib.hid (HB.out.trans (hc.mono HB.out.size))
        have r1_0 := HRE1.out.cell (i := 0) rfl
        have r1_1 := HRE1.out.cell (i := 1) rfl
        have r1_2 := HRE1.out.cell (i := 2) rfl
        have fr1 := fun j => HRE1.out.frozen j
        go_wp2_with fail
        have HRF := Lib.hid (((HRE1.out.set 0 ((.slice none 0 0))).set 1 ((.slice none 0 0))).set 2 ((.slice none 0 0)))
        have HBF := Lib.hid (((HBE.out.setCell (p := ⟨w.heap.size + 1, 0, none⟩) (by show w.heap.size ≤ w.heap.size + 1; omega) ((.slice none 0 0))).setCell (p := ⟨w.heap.size + 1, 1, none⟩) (by show w.heap.size ≤ w.heap.size + 1; omega) ((.slice none 0 0))).setCell (p := ⟨w.heap.size + 1, 2, none⟩) (by show w.heap.size ≤ w.heap.size + 1; omega) ((.slice none 0 0)))
        clear r1_0 r1_1 r1_2 fr1
        have r1_0 := HRF.out.cell (i := 0) rfl
        have r1_1 := HRF.out.cell (i := 1) rfl
        have r1_2 := HRF.out.cell (i := 2) rfl
        try (go_wp2_with fail)
        have HVB : Hid (ooB gr s l k x cs = false) := by unfold Hid; simp [ooB, Hhc2.out, HSG.out.1, HSGd.out, HK3d.out]
        have HPR : Hid (ooF gr s l k x cs = ⟨[], [], []⟩) := by unfold Hid ooF; rw [if_neg (by rw [HVB.out]; simp)]
        refine bodyPost_ret (v := .tuple #[.agg #[(.slice none 0 0), (.slice none 0 0), (.slice none 0 0)], .bool false]) (by simp [results, Try.results21, go_sem, r1_0, r1_1, r1_2]) rfl ⟨(by rw [HVB.out, HPR.out]; exact RetP.mk (OwnI.nil _ _) (OwnI.nil _ _) (OwnI.nil _ _)), HBF.out⟩
      | true =>
        have HK3 : Hid (0 ≤ k ∧ k ≤ (l.length : Int) - 1) := by have q := hc3; rw [decide_eq_true_iff] at q; unfold Hid; have := Eev.out; omega
        have HK3d : Hid (decide (0 ≤ k ∧ k ≤ (l.length : Int) - 1) = true) := decide_eq_true HK3.out
        have HK : Hid (k.toNat < l.length) := by have := HK3.out; unfold Hid; omega
        have HZE : Hid (eqEl gr (l[k.toNat]'HK.out) = true) := List.all_eq_true.1 (stB_all HL.out) _ (List.getElem_mem HK.out)
        have HZQ : Hid (eqAt l k.toNat = l[k.toNat]'HK.out) := eqAt_get HK.out
        have hb0 := Below.refl w.heap.size w
        have hev0 : 0 < evn := by have := HN9.out; have := Eev.out; omega
        obtain ⟨b_z, o_z, rfl, hcx⟩ := Hev.out.at_ (by omega)
        obtain ⟨us, hcell, hrd⟩ := hcx k.toNat HK.out
        clear hcx
        generalize l[k.toNat]'HK.out = z at hrd HZE HZQ
        obtain ⟨ers, jz_0, jz_1, jz_2, jz_3⟩ := rdEqualLog.1 ⟨us, rfl, hrd⟩
        obtain rfl : us = [.int .i64 z.g1, .int .i64 z.y1, .int .i64 z.g2, .int .i64 z.y2] := by have h := Value.agg.inj ers; simpa using congrArg Array.toList h
        clear ers hrd
        have y_z_0 : w.cell? ⟨b_z, o_z + k.toNat * 4, none⟩ = some (.int .i64 z.g1) := box_at (hcell 0 (by decide)) hb0
        have y_z_1 : w.cell? ⟨b_z, o_z + k.toNat * 4 + 1, none⟩ = some (.int .i64 z.y1) := box_at (hcell 1 (by decide)) hb0
        have y_z_2 : w.cell? ⟨b_z, o_z + k.toNat * 4 + 2, none⟩ = some (.int .i64 z.g2) := box_at (hcell 2 (by decide)) hb0
        have y_z_3 : w.cell? ⟨b_z, o_z + k.toNat * 4 + 3, none⟩ = some (.int .i64 z.y2) := box_at (hcell 3 (by decide)) hb0
        clear hcell
        have HR_z := Lib.hid ((kS rEqualLog).rd_below (rdEqualLog.2 ⟨rfl, jz_0, jz_1, jz_2, jz_3⟩ : (kS rEqualLog).rd w (.agg #[.int .i64 z.g1, .int .i64 z.y1, .int .i64 z.g2, .int .i64 z.y2]) z) hb0)
        have J_z_0 := Lib.hid jz_0
        have J_z_1 := Lib.hid jz_1
        have J_z_2 := Lib.hid jz_2
        have J_z_3 := Lib.hid jz_3
        clear jz_0 jz_1 jz_2 jz_3
        clear hb0
        have bk0 : 0 ≤ k := HK3.out.1
        have bk1 : k < (evn : Int) := by have := HK3.out; have := Eev.out; omega
        have Kz_0 := Lib.hid y_z_0
        clear y_z_0
        have yz_0 := box_at Kz_0.out (HB.out.trans (hc.mono HB.out.size))
        have Kz_1 := Lib.hid y_z_1
        clear y_z_1
        have yz_1 := box_at Kz_1.out (HB.out.trans (hc.mono HB.out.size))
        have Kz_2 := Lib.hid y_z_2
        clear y_z_2
        have yz_2 := box_at Kz_2.out (HB.out.trans (hc.mono HB.out.size))
        have Kz_3 := Lib.hid y_z_3
        clear y_z_3
        have yz_3 := box_at Kz_3.out (HB.out.trans (hc.mono HB.out.size))
        replace HCC : Hid (∀ u, Below W.heap.size W u → u.cell? ⟨w.heap.size, 0, none⟩ = some (.int .i64 gr.p) ∧ u.cell? ⟨w.heap.size, 1, none⟩ = some (.int .i64 gr.q) ∧ u.cell? ⟨w.heap.size, 2, none⟩ = some (.int .i64 gr.g) ∧ u.cell? ⟨b_z, o_z + k.toNat * 4, none⟩ = some (.int .i64 z.g1) ∧ u.cell? ⟨b_z, o_z + k.toNat * 4 + 1, none⟩ = some (.int .i64 z.y1) ∧ u.cell? ⟨b_z, o_z + k.toNat * 4 + 2, none⟩ = some (.int .i64 z.g2) ∧ u.cell? ⟨b_z, o_z + k.toNat * 4 + 3, none⟩ = some (.int .i64 z.y2)) := fun u h => by obtain ⟨c0_0, c0_1, c0_2⟩ := HCC.out u h; exact ⟨c0_0, c0_1, c0_2, box_at Kz_0.out (HB.out.trans (h.mono HB.out.size)), box_at Kz_1.out (HB.out.trans (h.mono HB.out.size)), box_at Kz_2.out (HB.out.trans (h.mono HB.out.size)), box_at Kz_3.out (HB.out.trans (h.mono HB.out.size))⟩
        cases hc4 : [x].all (expB gr) with
        | false =>
          have Hhc4 := Lib.hid hc4
          clear hc4
          try (go_wp2_with fail)
          refine wp_region_noPanic ?_
          refine wp_region_P (fun w' => w'.cell? ⟨w.heap.size, 0, none⟩ = some (.int .i64 gr.p) ∧ w'.cell? ⟨w.heap.size, 1, none⟩ = some (.int .i64 gr.q) ∧ w'.cell? ⟨w.heap.size, 2, none⟩ = some (.int .i64 gr.g) ∧ w'.cell? ⟨b_z, o_z + k.toNat * 4, none⟩ = some (.int .i64 z.g1) ∧ w'.cell? ⟨b_z, o_z + k.toNat * 4 + 1, none⟩ = some (.int .i64 z.y1) ∧ w'.cell? ⟨b_z, o_z + k.toNat * 4 + 2, none⟩ = some (.int .i64 z.g2) ∧ w'.cell? ⟨b_z, o_z + k.toNat * 4 + 3, none⟩ = some (.int .i64 z.y2)) 52 [(0, []), (1, []), (2, [1, 0]), (3, [0]), (4, [0]), (5, [0]), (6, [1]), (7, [1, 0, 2]), (8, [0, 3]), (9, [4, 0]), (10, [0]), (11, [0]), (12, [1]), (13, [0, 2]), (14, [0, 3]), (15, [3, 0, 4]), (16, [0, 5]), (17, [6, 0]), (18, [0]), (19, [0]), (20, [1]), (21, [0, 2]), (22, [2, 0, 3]), (23, [0, 4]), (24, [5, 0]), (25, [0]), (26, [0]), (27, [0, 1]), (28, [2]), (29, [0, 3]), (30, [0, 4]), (31, [0, 5]), (32, [4, 0, 6]), (33, [7, 0]), (34, [0]), (35, [0]), (36, [1]), (37, [1, 0, 2]), (38, [0, 3]), (39, [4, 0]), (40, [0]), (41, [0]), (42, [1]), (43, [2]), (44, [1, 0, 3]), (45, [0, 4]), (46, [5]), (47, [5, 1, 0, 6]), (48, [0, 7]), (49, [8, 0])] [] (by kernel_rfl) (by kernel_rfl) (by kernel_rfl) rfl (fun _ _ _ _ h => h) (fun w' h => ⟨box_at c0_0 h, box_at c0_1 h, box_at c0_2 h, box_at yz_0 h, box_at yz_1 h, box_at yz_2 h, box_at yz_3 h⟩) ?_
          simp only [pickP, pickN, List.getElem?_cons_zero, List.getElem?_cons_succ]
          iterate 2 (refine' chainP_read _ rfl rfl (fun w' hS' => ?_) ?_; rotate_left; · (simp only [lookP, allP, Act.put, List.getElem?_cons_zero, List.getElem?_cons_succ, List.setIfInBounds_toArray, List.set_cons_zero, List.set_cons_succ]; (try dsimp only at hS'); go_simp; (try with_reducible rfl)))
          -- 2: call { callee := value (func 135), args := #[t14, t15], argTypes := #[25, 9] }
          refine chainP_call (d := (some 16)) (.bool true) rfl rfl (fun w' hS' => ?_) ?_
          · simp only [lookP, allP, Act.put, List.getElem?_cons_zero, List.getElem?_cons_succ, List.setIfInBounds_toArray, List.set_cons_zero, List.set_cons_succ]
            intro K hK
            go_simp
            go_at_call 105
            refine (spec_sLabel gr s _ HS2.out).mono ?_
            rintro e u ⟨rfl, hq⟩
            rw [Hhc1.out]
            exact hK.out _ hq
          iterate 2 (refine' chainP_read _ rfl rfl (fun w' hS' => ?_) ?_; rotate_left; · (simp only [lookP, allP, Act.put, List.getElem?_cons_zero, List.getElem?_cons_succ, List.setIfInBounds_toArray, List.set_cons_zero, List.set_cons_succ]; (try dsimp only at hS'); go_simp; (try with_reducible rfl)))
          -- 5: load 25 t6
          refine' chainP_readG (d := (some 19)) _ rfl (fun w' hS' => ?_) ?_; rotate_left
          · simp only [lookP, allP, Act.put, List.getElem?_cons_zero, List.getElem?_cons_succ, List.setIfInBounds_toArray, List.set_cons_zero, List.set_cons_succ]
            refine ⟨by kernel_rfl, ?_⟩
            (try dsimp only at hS')
            go_simp
            (try with_reducible rfl)
          -- 6: move t2
          refine' chainP_readG (d := (some 20)) _ rfl (fun w' hS' => ?_) ?_; rotate_left
          · simp only [lookP, allP, Act.put, List.getElem?_cons_zero, List.getElem?_cons_succ, List.setIfInBounds_toArray, List.set_cons_zero, List.set_cons_succ]
            refine ⟨by kernel_rfl, ?_⟩
            (try dsimp only at hS')
            go_simp
            (try with_reducible rfl)
          -- 7: call { callee := value (func 148), args := #[t19, t20], argTypes := #[25, 72] }
          refine chainP_callG (d := (some 21)) (.bool true) rfl (fun w' hS' => ?_) ?_
          · simp only [lookP, allP, Act.put, List.getElem?_cons_zero, List.getElem?_cons_succ, List.setIfInBounds_toArray, List.set_cons_zero, List.set_cons_succ]
            refine ⟨by kernel_rfl, ?_⟩
            intro K hK
            go_simp
            go_at_call 106
            refine (spec_sAll gr _ l _ HG.out ((Hev.out.below (HB.out.trans (hc.mono HB.out.size))).below hS'.1)).mono ?_
            rintro e u ⟨rfl, hq⟩
            rw [Hhc2.out]
            exact hK.out _ hq
          -- 8: unOp Unnot 4 t21
          refine' chainP_readG (d := (some 22)) _ rfl (fun w' hS' => ?_) ?_; rotate_left
          · simp only [lookP, allP, Act.put, List.getElem?_cons_zero, List.getElem?_cons_succ, List.setIfInBounds_toArray, List.set_cons_zero, List.set_cons_succ]
            refine ⟨by kernel_rfl, ?_⟩
            (try dsimp only at hS')
            go_simp
            (try with_reducible rfl)
          iterate 2 (refine' chainP_read _ rfl rfl (fun w' hS' => ?_) ?_; rotate_left; · (simp only [lookP, allP, Act.put, List.getElem?_cons_zero, List.getElem?_cons_succ, List.setIfInBounds_toArray, List.set_cons_zero, List.set_cons_succ]; (try dsimp only at hS'); go_simp; (try with_reducible rfl)))
          -- 11: move t3
          refine' chainP_readG (d := (some 25)) _ rfl (fun w' hS' => ?_) ?_; rotate_left
          · simp only [lookP, allP, Act.put, List.getElem?_cons_zero, List.getElem?_cons_succ, List.setIfInBounds_toArray, List.set_cons_zero, List.set_cons_succ]
            refine ⟨by kernel_rfl, ?_⟩
            (try dsimp only at hS')
            go_simp
            (try with_reducible rfl)
          -- 12: move t2
          refine' chainP_readG (d := (some 26)) _ rfl (fun w' hS' => ?_) ?_; rotate_left
          · simp only [lookP, allP, Act.put, List.getElem?_cons_zero, List.getElem?_cons_succ, List.setIfInBounds_toArray, List.set_cons_zero, List.set_cons_succ]
            refine ⟨by kernel_rfl, ?_⟩
            (try dsimp only at hS')
            go_simp
            (try with_reducible rfl)
          -- 13: call { callee := builtin Builtin.len, args := #[t26], argTypes := #[72] }
          refine' chainP_readG (d := (some 27)) _ rfl (fun w' hS' => ?_) ?_; rotate_left
          · simp only [lookP, allP, Act.put, List.getElem?_cons_zero, List.getElem?_cons_succ, List.setIfInBounds_toArray, List.set_cons_zero, List.set_cons_succ]
            refine ⟨by kernel_rfl, ?_⟩
            (try dsimp only at hS')
            go_simp
            (try with_reducible rfl)
          -- 14: binOp Binsub 3 t27 (const (int i64 1)) 3
          refine' chainP_readG (d := (some 28)) _ rfl (fun w' hS' => ?_) ?_; rotate_left
          · simp only [lookP, allP, Act.put, List.getElem?_cons_zero, List.getElem?_cons_succ, List.setIfInBounds_toArray, List.set_cons_zero, List.set_cons_succ]
            refine ⟨by kernel_rfl, ?_⟩
            (try dsimp only at hS')
            go_simp
            (try with_reducible rfl)
          -- 15: call { callee := value (func 94), args := #[t25, const (int i64 0), t28], argTypes := #[3, 3, 3] }
          refine chainP_callG (d := (some 29)) (.bool true) rfl (fun w' hS' => ?_) ?_
          · simp only [lookP, allP, Act.put, List.getElem?_cons_zero, List.getElem?_cons_succ, List.setIfInBounds_toArray, List.set_cons_zero, List.set_cons_succ]
            refine ⟨by kernel_rfl, ?_⟩
            intro K hK
            go_simp
            go_at_call 107
            refine (spec_l1In k 0 ((evn : Int) - 1) _).mono ?_
            rintro e u ⟨rfl, rfl⟩
            rw [hc3]
            exact hK.out _ (Below.refl _ _)
          -- 16: unOp Unnot 4 t29
          refine' chainP_readG (d := (some 30)) _ rfl (fun w' hS' => ?_) ?_; rotate_left
          · simp only [lookP, allP, Act.put, List.getElem?_cons_zero, List.getElem?_cons_succ, List.setIfInBounds_toArray, List.set_cons_zero, List.set_cons_succ]
            refine ⟨by kernel_rfl, ?_⟩
            (try dsimp only at hS')
            go_simp
            (try with_reducible rfl)
          iterate 2 (refine' chainP_read _ rfl rfl (fun w' hS' => ?_) ?_; rotate_left; · (simp only [lookP, allP, Act.put, List.getElem?_cons_zero, List.getElem?_cons_succ, List.setIfInBounds_toArray, List.set_cons_zero, List.set_cons_succ]; (try dsimp only at hS'); go_simp; (try with_reducible rfl)))
          -- 19: load 25 t6
          refine' chainP_readG (d := (some 33)) _ rfl (fun w' hS' => ?_) ?_; rotate_left
          · simp only [lookP, allP, Act.put, List.getElem?_cons_zero, List.getElem?_cons_succ, List.setIfInBounds_toArray, List.set_cons_zero, List.set_cons_succ]
            refine ⟨by kernel_rfl, ?_⟩
            (try dsimp only at hS')
            go_simp
            (try with_reducible rfl)
          -- 20: move t4
          refine' chainP_readG (d := (some 34)) _ rfl (fun w' hS' => ?_) ?_; rotate_left
          · simp only [lookP, allP, Act.put, List.getElem?_cons_zero, List.getElem?_cons_succ, List.setIfInBounds_toArray, List.set_cons_zero, List.set_cons_succ]
            refine ⟨by kernel_rfl, ?_⟩
            (try dsimp only at hS')
            go_simp
            (try with_reducible rfl)
          -- 21: buildSlice 26 1 #[(0, t34)]
          refine chainP_doG (d := (some 35)) (fun v w => Ints w v [x]) (fun v w w' hb h => Ints.below h hb) rfl (fun w' hS' => ?_) ?_
          · simp only [lookP, allP, Act.put, List.getElem?_cons_zero, List.getElem?_cons_succ, List.setIfInBounds_toArray, List.set_cons_zero, List.set_cons_succ]
            refine ⟨by kernel_rfl, ?_⟩
            intro K hK
            go_simp
            refine hK.out _ _ ((Below.refl _ _).alloc (Nat.le_refl _) _) ?_
            exact (OwnI.lit (B := w'.heap.size) w' (Nat.le_refl _) (l := [x]) (AllI64.cons HIX.out AllI64.nil) rfl (by simp [maxLen]) 1 rfl).ints
          -- 22: call { callee := value (func 95), args := #[t33, t35], argTypes := #[25, 26] }
          refine chainP_callG (d := (some 36)) (.bool false) rfl (fun w' hS' => ?_) ?_
          · simp only [lookP, allP, Act.put, List.getElem?_cons_zero, List.getElem?_cons_succ, List.setIfInBounds_toArray, List.set_cons_zero, List.set_cons_succ]
            intro x21 hx21
            refine ⟨by kernel_rfl, ?_⟩
            intro K hK
            go_simp
            go_at_call 78
            refine (spec_gExps gr _ [x] _ HG.out hx21).mono ?_
            rintro e u ⟨rfl, hq⟩
            rw [Hhc4.out]
            exact hK.out _ hq
          -- 23: unOp Unnot 4 t36
          refine' chainP_readG (d := (some 37)) _ rfl (fun w' hS' => ?_) ?_; rotate_left
          · simp only [lookP, allP, Act.put, List.getElem?_cons_zero, List.getElem?_cons_succ, List.setIfInBounds_toArray, List.set_cons_zero, List.set_cons_succ]
            refine ⟨by kernel_rfl, ?_⟩
            (try dsimp only at hS')
            go_simp
            (try with_reducible rfl)
          iterate 2 (refine' chainP_read _ rfl rfl (fun w' hS' => ?_) ?_; rotate_left; · (simp only [lookP, allP, Act.put, List.getElem?_cons_zero, List.getElem?_cons_succ, List.setIfInBounds_toArray, List.set_cons_zero, List.set_cons_succ]; (try dsimp only at hS'); go_simp; (try with_reducible rfl)))
          -- 26: move t5
          refine chainP_skip (d := (some 40)) rfl (fun w' hS' => ?_) ?_
          · simp only [lookP, allP, Act.put, List.getElem?_cons_zero, List.getElem?_cons_succ, List.setIfInBounds_toArray, List.set_cons_zero, List.set_cons_succ]
            kernel_rfl
          -- 27: call { callee := builtin Builtin.len, args := #[t40], argTypes := #[26] }
          refine chainP_skip (d := (some 41)) rfl (fun w' hS' => ?_) ?_
          · simp only [lookP, allP, Act.put, List.getElem?_cons_zero, List.getElem?_cons_succ, List.setIfInBounds_toArray, List.set_cons_zero, List.set_cons_succ]
            kernel_rfl
          -- 28: move t2
          refine chainP_skip (d := (some 42)) rfl (fun w' hS' => ?_) ?_
          · simp only [lookP, allP, Act.put, List.getElem?_cons_zero, List.getElem?_cons_succ, List.setIfInBounds_toArray, List.set_cons_zero, List.set_cons_succ]
            kernel_rfl
          -- 29: call { callee := builtin Builtin.len, args := #[t42], argTypes := #[72] }
          refine chainP_skip (d := (some 43)) rfl (fun w' hS' => ?_) ?_
          · simp only [lookP, allP, Act.put, List.getElem?_cons_zero, List.getElem?_cons_succ, List.setIfInBounds_toArray, List.set_cons_zero, List.set_cons_succ]
            kernel_rfl
          -- 30: binOp Binmul 3 (const (int i64 2)) t43 3
          refine chainP_skip (d := (some 44)) rfl (fun w' hS' => ?_) ?_
          · simp only [lookP, allP, Act.put, List.getElem?_cons_zero, List.getElem?_cons_succ, List.setIfInBounds_toArray, List.set_cons_zero, List.set_cons_succ]
            kernel_rfl
          -- 31: binOp Binsub 3 t44 (const (int i64 1)) 3
          refine chainP_skip (d := (some 45)) rfl (fun w' hS' => ?_) ?_
          · simp only [lookP, allP, Act.put, List.getElem?_cons_zero, List.getElem?_cons_succ, List.setIfInBounds_toArray, List.set_cons_zero, List.set_cons_succ]
            kernel_rfl
          -- 32: binOp Binneq 3 t41 t45 3
          refine chainP_skip (d := (some 46)) rfl (fun w' hS' => ?_) ?_
          · simp only [lookP, allP, Act.put, List.getElem?_cons_zero, List.getElem?_cons_succ, List.setIfInBounds_toArray, List.set_cons_zero, List.set_cons_succ]
            kernel_rfl
          iterate 2 (refine' chainP_read _ rfl rfl (fun w' hS' => ?_) ?_; rotate_left; · (simp only [lookP, allP, Act.put, List.getElem?_cons_zero, List.getElem?_cons_succ, List.setIfInBounds_toArray, List.set_cons_zero, List.set_cons_succ]; (try dsimp only at hS'); go_simp; (try with_reducible rfl)))
          -- 35: load 25 t6
          refine chainP_skip (d := (some 49)) rfl (fun w' hS' => ?_) ?_
          · simp only [lookP, allP, Act.put, List.getElem?_cons_zero, List.getElem?_cons_succ, List.setIfInBounds_toArray, List.set_cons_zero, List.set_cons_succ]
            kernel_rfl
          -- 36: move t5
          refine chainP_skip (d := (some 50)) rfl (fun w' hS' => ?_) ?_
          · simp only [lookP, allP, Act.put, List.getElem?_cons_zero, List.getElem?_cons_succ, List.setIfInBounds_toArray, List.set_cons_zero, List.set_cons_succ]
            kernel_rfl
          -- 37: call { callee := value (func 95), args := #[t49, t50], argTypes := #[25, 26] }
          refine chainP_skip (d := (some 51)) rfl (fun w' hS' => ?_) ?_
          · simp only [lookP, allP, Act.put, List.getElem?_cons_zero, List.getElem?_cons_succ, List.setIfInBounds_toArray, List.set_cons_zero, List.set_cons_succ]
            kernel_rfl
          -- 38: unOp Unnot 4 t51
          refine chainP_skip (d := (some 52)) rfl (fun w' hS' => ?_) ?_
          · simp only [lookP, allP, Act.put, List.getElem?_cons_zero, List.getElem?_cons_succ, List.setIfInBounds_toArray, List.set_cons_zero, List.set_cons_succ]
            kernel_rfl
          iterate 2 (refine' chainP_read _ rfl rfl (fun w' hS' => ?_) ?_; rotate_left; · (simp only [lookP, allP, Act.put, List.getElem?_cons_zero, List.getElem?_cons_succ, List.setIfInBounds_toArray, List.set_cons_zero, List.set_cons_succ]; (try dsimp only at hS'); go_simp; (try with_reducible rfl)))
          -- 41: load 25 t6
          refine chainP_skip (d := (some 55)) rfl (fun w' hS' => ?_) ?_
          · simp only [lookP, allP, Act.put, List.getElem?_cons_zero, List.getElem?_cons_succ, List.setIfInBounds_toArray, List.set_cons_zero, List.set_cons_succ]
            kernel_rfl
          -- 42: move t2
          refine chainP_skip (d := (some 56)) rfl (fun w' hS' => ?_) ?_
          · simp only [lookP, allP, Act.put, List.getElem?_cons_zero, List.getElem?_cons_succ, List.setIfInBounds_toArray, List.set_cons_zero, List.set_cons_succ]
            kernel_rfl
          -- 43: move t3
          refine chainP_skip (d := (some 57)) rfl (fun w' hS' => ?_) ?_
          · simp only [lookP, allP, Act.put, List.getElem?_cons_zero, List.getElem?_cons_succ, List.setIfInBounds_toArray, List.set_cons_zero, List.set_cons_succ]
            kernel_rfl
          -- 44: indexAddr 72 t56 t57
          refine chainP_skip (d := (some 58)) rfl (fun w' hS' => ?_) ?_
          · simp only [lookP, allP, Act.put, List.getElem?_cons_zero, List.getElem?_cons_succ, List.setIfInBounds_toArray, List.set_cons_zero, List.set_cons_succ]
            kernel_rfl
          -- 45: load 51 t58
          refine chainP_skip (d := (some 59)) rfl (fun w' hS' => ?_) ?_
          · simp only [lookP, allP, Act.put, List.getElem?_cons_zero, List.getElem?_cons_succ, List.setIfInBounds_toArray, List.set_cons_zero, List.set_cons_succ]
            kernel_rfl
          -- 46: move t4
          refine chainP_skip (d := (some 60)) rfl (fun w' hS' => ?_) ?_
          · simp only [lookP, allP, Act.put, List.getElem?_cons_zero, List.getElem?_cons_succ, List.setIfInBounds_toArray, List.set_cons_zero, List.set_cons_succ]
            kernel_rfl
          -- 47: call { callee := value (func 149), args := #[t55, t59, t60], argTypes := #[25, 51, 3] }
          refine chainP_skip (d := (some 61)) rfl (fun w' hS' => ?_) ?_
          · simp only [lookP, allP, Act.put, List.getElem?_cons_zero, List.getElem?_cons_succ, List.setIfInBounds_toArray, List.set_cons_zero, List.set_cons_succ]
            kernel_rfl
          -- 48: unOp Unnot 4 t61
          refine chainP_skip (d := (some 62)) rfl (fun w' hS' => ?_) ?_
          · simp only [lookP, allP, Act.put, List.getElem?_cons_zero, List.getElem?_cons_succ, List.setIfInBounds_toArray, List.set_cons_zero, List.set_cons_succ]
            kernel_rfl
          -- 49: pick t54 (const (bool true)) t62
          refine' chainP_read (d := (some 63)) _ rfl rfl (fun w' hS' => ?_) ?_; rotate_left
          · simp only [lookP, allP, Act.put, List.getElem?_cons_zero, List.getElem?_cons_succ, List.setIfInBounds_toArray, List.set_cons_zero, List.set_cons_succ]
            (try dsimp only at hS')
            go_simp
            (try with_reducible rfl)
          refine chainP_nil (fun u1 hS' => ?_)
          simp only [allP, Act.put, List.setIfInBounds_toArray, List.set_cons_zero, List.set_cons_succ]
          intro x21 hx21
          have hq1 := hS'.1
          clear hS'
          replace hc := Below.next hc hq1
          clear hq1 c0_0 c0_1 c0_2 yz_0 yz_1 yz_2 yz_3
          obtain ⟨c0_0, c0_1, c0_2, yz_0, yz_1, yz_2, yz_3⟩ := HCC.out _ hc
          go_wp2_with fail
          refine NoPanic.normal ?_
          have HRE1 := Lib.hid (HR1.out.below hc)
          clear HR1
          have HBE := Lib.hid (HB.out.trans (hc.mono HB.out.size))
          have r1_0 := HRE1.out.cell (i := 0) rfl
          have r1_1 := HRE1.out.cell (i := 1) rfl
          have r1_2 := HRE1.out.cell (i := 2) rfl
          have fr1 := fun j => HRE1.out.frozen j
          go_wp2_with fail
          have HRF := Lib.hid (((HRE1.out.set 0 ((.slice none 0 0))).set 1 ((.slice none 0 0))).set 2 ((.slice none 0 0)))
          have HBF := Lib.hid (((HBE.out.setCell (p := ⟨w.heap.size + 1, 0, none⟩) (by show w.heap.size ≤ w.heap.size + 1; omega) ((.slice none 0 0))).setCell (p := ⟨w.heap.size + 1, 1, none⟩) (by show w.heap.size ≤ w.heap.size + 1; omega) ((.slice none 0 0))).setCell (p := ⟨w.heap.size + 1, 2, none⟩) (by show w.heap.size ≤ w.heap.size + 1; omega) ((.slice none 0 0)))
          clear r1_0 r1_1 r1_2 fr1
          have r1_0 := HRF.out.cell (i := 0) rfl
          have r1_1 := HRF.out.cell (i := 1) rfl
          have r1_2 := HRF.out.cell (i := 2) rfl
          try (go_wp2_with fail)
          have HVB : Hid (ooB gr s l k x cs = false) := by unfold Hid; have qhc4 := Hhc4.out; simp only [List.all_cons, List.all_nil, Bool.and_true] at qhc4; simp [ooB, Hhc2.out, qhc4, HSG.out.1, HSGd.out, HK3d.out]
          have HPR : Hid (ooF gr s l k x cs = ⟨[], [], []⟩) := by unfold Hid ooF; rw [if_neg (by rw [HVB.out]; simp)]
          refine bodyPost_ret (v := .tuple #[.agg #[(.slice none 0 0), (.slice none 0 0), (.slice none 0 0)], .bool false]) (by simp [results, Try.results21, go_sem, r1_0, r1_1, r1_2]) rfl ⟨(by rw [HVB.out, HPR.out]; exact RetP.mk (OwnI.nil _ _) (OwnI.nil _ _) (OwnI.nil _ _)), HBF.out⟩
        | true =>
          have HXE : Hid (expB gr x = true) := by have q := hc4; unfold Hid; simpa using q
          have HXS := Lib.hid (expB_small HG.out HXE.out)
          have Hhc4 := Lib.hid hc4
          clear hc4
          cases hc5 : ((cvn : Int) != ((2 * (evn : Int)) - 1)) with
          | false =>
            have HLN : Hid ((cs.length : Int) = 2 * (l.length : Int) - 1) := by have q := hc5; rw [bne_eq_false_iff_eq] at q; unfold Hid; have := Eev.out; have := Ecv.out; omega
            have HLNd : Hid (decide ((cs.length : Int) = 2 * (l.length : Int) - 1) = true) := decide_eq_true HLN.out
            cases hc6 : cs.all (expB gr) with
            | false =>
              have Hhc6 := Lib.hid hc6
              clear hc6
              try (go_wp2_with fail)
              refine wp_region_noPanic ?_
              refine wp_region_P (fun w' => w'.cell? ⟨w.heap.size, 0, none⟩ = some (.int .i64 gr.p) ∧ w'.cell? ⟨w.heap.size, 1, none⟩ = some (.int .i64 gr.q) ∧ w'.cell? ⟨w.heap.size, 2, none⟩ = some (.int .i64 gr.g) ∧ w'.cell? ⟨b_z, o_z + k.toNat * 4, none⟩ = some (.int .i64 z.g1) ∧ w'.cell? ⟨b_z, o_z + k.toNat * 4 + 1, none⟩ = some (.int .i64 z.y1) ∧ w'.cell? ⟨b_z, o_z + k.toNat * 4 + 2, none⟩ = some (.int .i64 z.g2) ∧ w'.cell? ⟨b_z, o_z + k.toNat * 4 + 3, none⟩ = some (.int .i64 z.y2)) 52 [(0, []), (1, []), (2, [1, 0]), (3, [0]), (4, [0]), (5, [0]), (6, [1]), (7, [1, 0, 2]), (8, [0, 3]), (9, [4, 0]), (10, [0]), (11, [0]), (12, [1]), (13, [0, 2]), (14, [0, 3]), (15, [3, 0, 4]), (16, [0, 5]), (17, [6, 0]), (18, [0]), (19, [0]), (20, [1]), (21, [0, 2]), (22, [2, 0, 3]), (23, [0, 4]), (24, [5, 0]), (25, [0]), (26, [0]), (27, [0, 1]), (28, [2]), (29, [0, 3]), (30, [0, 4]), (31, [0, 5]), (32, [4, 0, 6]), (33, [7, 0]), (34, [0]), (35, [0]), (36, [1]), (37, [1, 0, 2]), (38, [0, 3]), (39, [4, 0]), (40, [0]), (41, [0]), (42, [1]), (43, [2]), (44, [1, 0, 3]), (45, [0, 4]), (46, [5]), (47, [5, 1, 0, 6]), (48, [0, 7]), (49, [8, 0])] [] (by kernel_rfl) (by kernel_rfl) (by kernel_rfl) rfl (fun _ _ _ _ h => h) (fun w' h => ⟨box_at c0_0 h, box_at c0_1 h, box_at c0_2 h, box_at yz_0 h, box_at yz_1 h, box_at yz_2 h, box_at yz_3 h⟩) ?_
              simp only [pickP, pickN, List.getElem?_cons_zero, List.getElem?_cons_succ]
              iterate 2 (refine' chainP_read _ rfl rfl (fun w' hS' => ?_) ?_; rotate_left; · (simp only [lookP, allP, Act.put, List.getElem?_cons_zero, List.getElem?_cons_succ, List.setIfInBounds_toArray, List.set_cons_zero, List.set_cons_succ]; (try dsimp only at hS'); go_simp; (try with_reducible rfl)))
              -- 2: call { callee := value (func 135), args := #[t14, t15], argTypes := #[25, 9] }
              refine chainP_call (d := (some 16)) (.bool true) rfl rfl (fun w' hS' => ?_) ?_
              · simp only [lookP, allP, Act.put, List.getElem?_cons_zero, List.getElem?_cons_succ, List.setIfInBounds_toArray, List.set_cons_zero, List.set_cons_succ]
                intro K hK
                go_simp
                go_at_call 105
                refine (spec_sLabel gr s _ HS2.out).mono ?_
                rintro e u ⟨rfl, hq⟩
                rw [Hhc1.out]
                exact hK.out _ hq
              iterate 2 (refine' chainP_read _ rfl rfl (fun w' hS' => ?_) ?_; rotate_left; · (simp only [lookP, allP, Act.put, List.getElem?_cons_zero, List.getElem?_cons_succ, List.setIfInBounds_toArray, List.set_cons_zero, List.set_cons_succ]; (try dsimp only at hS'); go_simp; (try with_reducible rfl)))
              -- 5: load 25 t6
              refine' chainP_readG (d := (some 19)) _ rfl (fun w' hS' => ?_) ?_; rotate_left
              · simp only [lookP, allP, Act.put, List.getElem?_cons_zero, List.getElem?_cons_succ, List.setIfInBounds_toArray, List.set_cons_zero, List.set_cons_succ]
                refine ⟨by kernel_rfl, ?_⟩
                (try dsimp only at hS')
                go_simp
                (try with_reducible rfl)
              -- 6: move t2
              refine' chainP_readG (d := (some 20)) _ rfl (fun w' hS' => ?_) ?_; rotate_left
              · simp only [lookP, allP, Act.put, List.getElem?_cons_zero, List.getElem?_cons_succ, List.setIfInBounds_toArray, List.set_cons_zero, List.set_cons_succ]
                refine ⟨by kernel_rfl, ?_⟩
                (try dsimp only at hS')
                go_simp
                (try with_reducible rfl)
              -- 7: call { callee := value (func 148), args := #[t19, t20], argTypes := #[25, 72] }
              refine chainP_callG (d := (some 21)) (.bool true) rfl (fun w' hS' => ?_) ?_
              · simp only [lookP, allP, Act.put, List.getElem?_cons_zero, List.getElem?_cons_succ, List.setIfInBounds_toArray, List.set_cons_zero, List.set_cons_succ]
                refine ⟨by kernel_rfl, ?_⟩
                intro K hK
                go_simp
                go_at_call 106
                refine (spec_sAll gr _ l _ HG.out ((Hev.out.below (HB.out.trans (hc.mono HB.out.size))).below hS'.1)).mono ?_
                rintro e u ⟨rfl, hq⟩
                rw [Hhc2.out]
                exact hK.out _ hq
              -- 8: unOp Unnot 4 t21
              refine' chainP_readG (d := (some 22)) _ rfl (fun w' hS' => ?_) ?_; rotate_left
              · simp only [lookP, allP, Act.put, List.getElem?_cons_zero, List.getElem?_cons_succ, List.setIfInBounds_toArray, List.set_cons_zero, List.set_cons_succ]
                refine ⟨by kernel_rfl, ?_⟩
                (try dsimp only at hS')
                go_simp
                (try with_reducible rfl)
              iterate 2 (refine' chainP_read _ rfl rfl (fun w' hS' => ?_) ?_; rotate_left; · (simp only [lookP, allP, Act.put, List.getElem?_cons_zero, List.getElem?_cons_succ, List.setIfInBounds_toArray, List.set_cons_zero, List.set_cons_succ]; (try dsimp only at hS'); go_simp; (try with_reducible rfl)))
              -- 11: move t3
              refine' chainP_readG (d := (some 25)) _ rfl (fun w' hS' => ?_) ?_; rotate_left
              · simp only [lookP, allP, Act.put, List.getElem?_cons_zero, List.getElem?_cons_succ, List.setIfInBounds_toArray, List.set_cons_zero, List.set_cons_succ]
                refine ⟨by kernel_rfl, ?_⟩
                (try dsimp only at hS')
                go_simp
                (try with_reducible rfl)
              -- 12: move t2
              refine' chainP_readG (d := (some 26)) _ rfl (fun w' hS' => ?_) ?_; rotate_left
              · simp only [lookP, allP, Act.put, List.getElem?_cons_zero, List.getElem?_cons_succ, List.setIfInBounds_toArray, List.set_cons_zero, List.set_cons_succ]
                refine ⟨by kernel_rfl, ?_⟩
                (try dsimp only at hS')
                go_simp
                (try with_reducible rfl)
              -- 13: call { callee := builtin Builtin.len, args := #[t26], argTypes := #[72] }
              refine' chainP_readG (d := (some 27)) _ rfl (fun w' hS' => ?_) ?_; rotate_left
              · simp only [lookP, allP, Act.put, List.getElem?_cons_zero, List.getElem?_cons_succ, List.setIfInBounds_toArray, List.set_cons_zero, List.set_cons_succ]
                refine ⟨by kernel_rfl, ?_⟩
                (try dsimp only at hS')
                go_simp
                (try with_reducible rfl)
              -- 14: binOp Binsub 3 t27 (const (int i64 1)) 3
              refine' chainP_readG (d := (some 28)) _ rfl (fun w' hS' => ?_) ?_; rotate_left
              · simp only [lookP, allP, Act.put, List.getElem?_cons_zero, List.getElem?_cons_succ, List.setIfInBounds_toArray, List.set_cons_zero, List.set_cons_succ]
                refine ⟨by kernel_rfl, ?_⟩
                (try dsimp only at hS')
                go_simp
                (try with_reducible rfl)
              -- 15: call { callee := value (func 94), args := #[t25, const (int i64 0), t28], argTypes := #[3, 3, 3] }
              refine chainP_callG (d := (some 29)) (.bool true) rfl (fun w' hS' => ?_) ?_
              · simp only [lookP, allP, Act.put, List.getElem?_cons_zero, List.getElem?_cons_succ, List.setIfInBounds_toArray, List.set_cons_zero, List.set_cons_succ]
                refine ⟨by kernel_rfl, ?_⟩
                intro K hK
                go_simp
                go_at_call 107
                refine (spec_l1In k 0 ((evn : Int) - 1) _).mono ?_
                rintro e u ⟨rfl, rfl⟩
                rw [hc3]
                exact hK.out _ (Below.refl _ _)
              -- 16: unOp Unnot 4 t29
              refine' chainP_readG (d := (some 30)) _ rfl (fun w' hS' => ?_) ?_; rotate_left
              · simp only [lookP, allP, Act.put, List.getElem?_cons_zero, List.getElem?_cons_succ, List.setIfInBounds_toArray, List.set_cons_zero, List.set_cons_succ]
                refine ⟨by kernel_rfl, ?_⟩
                (try dsimp only at hS')
                go_simp
                (try with_reducible rfl)
              iterate 2 (refine' chainP_read _ rfl rfl (fun w' hS' => ?_) ?_; rotate_left; · (simp only [lookP, allP, Act.put, List.getElem?_cons_zero, List.getElem?_cons_succ, List.setIfInBounds_toArray, List.set_cons_zero, List.set_cons_succ]; (try dsimp only at hS'); go_simp; (try with_reducible rfl)))
              -- 19: load 25 t6
              refine' chainP_readG (d := (some 33)) _ rfl (fun w' hS' => ?_) ?_; rotate_left
              · simp only [lookP, allP, Act.put, List.getElem?_cons_zero, List.getElem?_cons_succ, List.setIfInBounds_toArray, List.set_cons_zero, List.set_cons_succ]
                refine ⟨by kernel_rfl, ?_⟩
                (try dsimp only at hS')
                go_simp
                (try with_reducible rfl)
              -- 20: move t4
              refine' chainP_readG (d := (some 34)) _ rfl (fun w' hS' => ?_) ?_; rotate_left
              · simp only [lookP, allP, Act.put, List.getElem?_cons_zero, List.getElem?_cons_succ, List.setIfInBounds_toArray, List.set_cons_zero, List.set_cons_succ]
                refine ⟨by kernel_rfl, ?_⟩
                (try dsimp only at hS')
                go_simp
                (try with_reducible rfl)
              -- 21: buildSlice 26 1 #[(0, t34)]
              refine chainP_doG (d := (some 35)) (fun v w => Ints w v [x]) (fun v w w' hb h => Ints.below h hb) rfl (fun w' hS' => ?_) ?_
              · simp only [lookP, allP, Act.put, List.getElem?_cons_zero, List.getElem?_cons_succ, List.setIfInBounds_toArray, List.set_cons_zero, List.set_cons_succ]
                refine ⟨by kernel_rfl, ?_⟩
                intro K hK
                go_simp
                refine hK.out _ _ ((Below.refl _ _).alloc (Nat.le_refl _) _) ?_
                exact (OwnI.lit (B := w'.heap.size) w' (Nat.le_refl _) (l := [x]) (AllI64.cons HIX.out AllI64.nil) rfl (by simp [maxLen]) 1 rfl).ints
              -- 22: call { callee := value (func 95), args := #[t33, t35], argTypes := #[25, 26] }
              refine chainP_callG (d := (some 36)) (.bool true) rfl (fun w' hS' => ?_) ?_
              · simp only [lookP, allP, Act.put, List.getElem?_cons_zero, List.getElem?_cons_succ, List.setIfInBounds_toArray, List.set_cons_zero, List.set_cons_succ]
                intro x21 hx21
                refine ⟨by kernel_rfl, ?_⟩
                intro K hK
                go_simp
                go_at_call 78
                refine (spec_gExps gr _ [x] _ HG.out hx21).mono ?_
                rintro e u ⟨rfl, hq⟩
                rw [Hhc4.out]
                exact hK.out _ hq
              -- 23: unOp Unnot 4 t36
              refine' chainP_readG (d := (some 37)) _ rfl (fun w' hS' => ?_) ?_; rotate_left
              · simp only [lookP, allP, Act.put, List.getElem?_cons_zero, List.getElem?_cons_succ, List.setIfInBounds_toArray, List.set_cons_zero, List.set_cons_succ]
                refine ⟨by kernel_rfl, ?_⟩
                (try dsimp only at hS')
                go_simp
                (try with_reducible rfl)
              iterate 2 (refine' chainP_read _ rfl rfl (fun w' hS' => ?_) ?_; rotate_left; · (simp only [lookP, allP, Act.put, List.getElem?_cons_zero, List.getElem?_cons_succ, List.setIfInBounds_toArray, List.set_cons_zero, List.set_cons_succ]; (try dsimp only at hS'); go_simp; (try with_reducible rfl)))
              -- 26: move t5
              refine' chainP_readG (d := (some 40)) _ rfl (fun w' hS' => ?_) ?_; rotate_left
              · simp only [lookP, allP, Act.put, List.getElem?_cons_zero, List.getElem?_cons_succ, List.setIfInBounds_toArray, List.set_cons_zero, List.set_cons_succ]
                refine ⟨by kernel_rfl, ?_⟩
                (try dsimp only at hS')
                go_simp
                (try with_reducible rfl)
              -- 27: call { callee := builtin Builtin.len, args := #[t40], argTypes := #[26] }
              refine' chainP_readG (d := (some 41)) _ rfl (fun w' hS' => ?_) ?_; rotate_left
              · simp only [lookP, allP, Act.put, List.getElem?_cons_zero, List.getElem?_cons_succ, List.setIfInBounds_toArray, List.set_cons_zero, List.set_cons_succ]
                refine ⟨by kernel_rfl, ?_⟩
                (try dsimp only at hS')
                go_simp
                (try with_reducible rfl)
              -- 28: move t2
              refine' chainP_readG (d := (some 42)) _ rfl (fun w' hS' => ?_) ?_; rotate_left
              · simp only [lookP, allP, Act.put, List.getElem?_cons_zero, List.getElem?_cons_succ, List.setIfInBounds_toArray, List.set_cons_zero, List.set_cons_succ]
                refine ⟨by kernel_rfl, ?_⟩
                (try dsimp only at hS')
                go_simp
                (try with_reducible rfl)
              -- 29: call { callee := builtin Builtin.len, args := #[t42], argTypes := #[72] }
              refine' chainP_readG (d := (some 43)) _ rfl (fun w' hS' => ?_) ?_; rotate_left
              · simp only [lookP, allP, Act.put, List.getElem?_cons_zero, List.getElem?_cons_succ, List.setIfInBounds_toArray, List.set_cons_zero, List.set_cons_succ]
                refine ⟨by kernel_rfl, ?_⟩
                (try dsimp only at hS')
                go_simp
                (try with_reducible rfl)
              -- 30: binOp Binmul 3 (const (int i64 2)) t43 3
              refine' chainP_readG (d := (some 44)) _ rfl (fun w' hS' => ?_) ?_; rotate_left
              · simp only [lookP, allP, Act.put, List.getElem?_cons_zero, List.getElem?_cons_succ, List.setIfInBounds_toArray, List.set_cons_zero, List.set_cons_succ]
                refine ⟨by kernel_rfl, ?_⟩
                (try dsimp only at hS')
                go_simp
                (try with_reducible rfl)
              -- 31: binOp Binsub 3 t44 (const (int i64 1)) 3
              refine' chainP_readG (d := (some 45)) _ rfl (fun w' hS' => ?_) ?_; rotate_left
              · simp only [lookP, allP, Act.put, List.getElem?_cons_zero, List.getElem?_cons_succ, List.setIfInBounds_toArray, List.set_cons_zero, List.set_cons_succ]
                refine ⟨by kernel_rfl, ?_⟩
                (try dsimp only at hS')
                go_simp
                (try with_reducible rfl)
              -- 32: binOp Binneq 3 t41 t45 3
              refine' chainP_readG (d := (some 46)) _ rfl (fun w' hS' => ?_) ?_; rotate_left
              · simp only [lookP, allP, Act.put, List.getElem?_cons_zero, List.getElem?_cons_succ, List.setIfInBounds_toArray, List.set_cons_zero, List.set_cons_succ]
                refine ⟨by kernel_rfl, ?_⟩
                (try dsimp only at hS')
                go_simp
                (try with_reducible rfl)
              iterate 2 (refine' chainP_read _ rfl rfl (fun w' hS' => ?_) ?_; rotate_left; · (simp only [lookP, allP, Act.put, List.getElem?_cons_zero, List.getElem?_cons_succ, List.setIfInBounds_toArray, List.set_cons_zero, List.set_cons_succ]; (try dsimp only at hS'); go_simp; (try with_reducible rfl)))
              -- 35: load 25 t6
              refine' chainP_readG (d := (some 49)) _ rfl (fun w' hS' => ?_) ?_; rotate_left
              · simp only [lookP, allP, Act.put, List.getElem?_cons_zero, List.getElem?_cons_succ, List.setIfInBounds_toArray, List.set_cons_zero, List.set_cons_succ]
                refine ⟨by kernel_rfl, ?_⟩
                (try dsimp only at hS')
                go_simp
                (try with_reducible rfl)
              -- 36: move t5
              refine' chainP_readG (d := (some 50)) _ rfl (fun w' hS' => ?_) ?_; rotate_left
              · simp only [lookP, allP, Act.put, List.getElem?_cons_zero, List.getElem?_cons_succ, List.setIfInBounds_toArray, List.set_cons_zero, List.set_cons_succ]
                refine ⟨by kernel_rfl, ?_⟩
                (try dsimp only at hS')
                go_simp
                (try with_reducible rfl)
              -- 37: call { callee := value (func 95), args := #[t49, t50], argTypes := #[25, 26] }
              refine chainP_callG (d := (some 51)) (.bool false) rfl (fun w' hS' => ?_) ?_
              · simp only [lookP, allP, Act.put, List.getElem?_cons_zero, List.getElem?_cons_succ, List.setIfInBounds_toArray, List.set_cons_zero, List.set_cons_succ]
                refine ⟨by kernel_rfl, ?_⟩
                intro K hK
                go_simp
                go_at_call 78
                refine (spec_gExps gr _ cs _ HG.out ((Hcv.out.below (HB.out.trans (hc.mono HB.out.size))).below hS'.1)).mono ?_
                rintro e u ⟨rfl, hq⟩
                rw [Hhc6.out]
                exact hK.out _ hq
              -- 38: unOp Unnot 4 t51
              refine' chainP_readG (d := (some 52)) _ rfl (fun w' hS' => ?_) ?_; rotate_left
              · simp only [lookP, allP, Act.put, List.getElem?_cons_zero, List.getElem?_cons_succ, List.setIfInBounds_toArray, List.set_cons_zero, List.set_cons_succ]
                refine ⟨by kernel_rfl, ?_⟩
                (try dsimp only at hS')
                go_simp
                (try with_reducible rfl)
              iterate 2 (refine' chainP_read _ rfl rfl (fun w' hS' => ?_) ?_; rotate_left; · (simp only [lookP, allP, Act.put, List.getElem?_cons_zero, List.getElem?_cons_succ, List.setIfInBounds_toArray, List.set_cons_zero, List.set_cons_succ]; (try dsimp only at hS'); go_simp; (try with_reducible rfl)))
              -- 41: load 25 t6
              refine chainP_skip (d := (some 55)) rfl (fun w' hS' => ?_) ?_
              · simp only [lookP, allP, Act.put, List.getElem?_cons_zero, List.getElem?_cons_succ, List.setIfInBounds_toArray, List.set_cons_zero, List.set_cons_succ]
                kernel_rfl
              -- 42: move t2
              refine chainP_skip (d := (some 56)) rfl (fun w' hS' => ?_) ?_
              · simp only [lookP, allP, Act.put, List.getElem?_cons_zero, List.getElem?_cons_succ, List.setIfInBounds_toArray, List.set_cons_zero, List.set_cons_succ]
                kernel_rfl
              -- 43: move t3
              refine chainP_skip (d := (some 57)) rfl (fun w' hS' => ?_) ?_
              · simp only [lookP, allP, Act.put, List.getElem?_cons_zero, List.getElem?_cons_succ, List.setIfInBounds_toArray, List.set_cons_zero, List.set_cons_succ]
                kernel_rfl
              -- 44: indexAddr 72 t56 t57
              refine chainP_skip (d := (some 58)) rfl (fun w' hS' => ?_) ?_
              · simp only [lookP, allP, Act.put, List.getElem?_cons_zero, List.getElem?_cons_succ, List.setIfInBounds_toArray, List.set_cons_zero, List.set_cons_succ]
                kernel_rfl
              -- 45: load 51 t58
              refine chainP_skip (d := (some 59)) rfl (fun w' hS' => ?_) ?_
              · simp only [lookP, allP, Act.put, List.getElem?_cons_zero, List.getElem?_cons_succ, List.setIfInBounds_toArray, List.set_cons_zero, List.set_cons_succ]
                kernel_rfl
              -- 46: move t4
              refine chainP_skip (d := (some 60)) rfl (fun w' hS' => ?_) ?_
              · simp only [lookP, allP, Act.put, List.getElem?_cons_zero, List.getElem?_cons_succ, List.setIfInBounds_toArray, List.set_cons_zero, List.set_cons_succ]
                kernel_rfl
              -- 47: call { callee := value (func 149), args := #[t55, t59, t60], argTypes := #[25, 51, 3] }
              refine chainP_skip (d := (some 61)) rfl (fun w' hS' => ?_) ?_
              · simp only [lookP, allP, Act.put, List.getElem?_cons_zero, List.getElem?_cons_succ, List.setIfInBounds_toArray, List.set_cons_zero, List.set_cons_succ]
                kernel_rfl
              -- 48: unOp Unnot 4 t61
              refine chainP_skip (d := (some 62)) rfl (fun w' hS' => ?_) ?_
              · simp only [lookP, allP, Act.put, List.getElem?_cons_zero, List.getElem?_cons_succ, List.setIfInBounds_toArray, List.set_cons_zero, List.set_cons_succ]
                kernel_rfl
              -- 49: pick t54 (const (bool true)) t62
              refine' chainP_read (d := (some 63)) _ rfl rfl (fun w' hS' => ?_) ?_; rotate_left
              · simp only [lookP, allP, Act.put, List.getElem?_cons_zero, List.getElem?_cons_succ, List.setIfInBounds_toArray, List.set_cons_zero, List.set_cons_succ]
                (try dsimp only at hS')
                go_simp
                (try with_reducible rfl)
              refine chainP_nil (fun u1 hS' => ?_)
              simp only [allP, Act.put, List.setIfInBounds_toArray, List.set_cons_zero, List.set_cons_succ]
              intro x21 hx21
              have hq1 := hS'.1
              clear hS'
              replace hc := Below.next hc hq1
              clear hq1 c0_0 c0_1 c0_2 yz_0 yz_1 yz_2 yz_3
              obtain ⟨c0_0, c0_1, c0_2, yz_0, yz_1, yz_2, yz_3⟩ := HCC.out _ hc
              go_wp2_with fail
              refine NoPanic.normal ?_
              have HRE1 := Lib.hid (HR1.out.below hc)
              clear HR1
              have HBE := Lib.hid (HB.out.trans (hc.mono HB.out.size))
              have r1_0 := HRE1.out.cell (i := 0) rfl
              have r1_1 := HRE1.out.cell (i := 1) rfl
              have r1_2 := HRE1.out.cell (i := 2) rfl
              have fr1 := fun j => HRE1.out.frozen j
              go_wp2_with fail
              have HRF := Lib.hid (((HRE1.out.set 0 ((.slice none 0 0))).set 1 ((.slice none 0 0))).set 2 ((.slice none 0 0)))
              have HBF := Lib.hid (((HBE.out.setCell (p := ⟨w.heap.size + 1, 0, none⟩) (by show w.heap.size ≤ w.heap.size + 1; omega) ((.slice none 0 0))).setCell (p := ⟨w.heap.size + 1, 1, none⟩) (by show w.heap.size ≤ w.heap.size + 1; omega) ((.slice none 0 0))).setCell (p := ⟨w.heap.size + 1, 2, none⟩) (by show w.heap.size ≤ w.heap.size + 1; omega) ((.slice none 0 0)))
              clear r1_0 r1_1 r1_2 fr1
              have r1_0 := HRF.out.cell (i := 0) rfl
              have r1_1 := HRF.out.cell (i := 1) rfl
              have r1_2 := HRF.out.cell (i := 2) rfl
              try (go_wp2_with fail)
              have HVB : Hid (ooB gr s l k x cs = false) := by unfold Hid; have qhc4 := Hhc4.out; simp only [List.all_cons, List.all_nil, Bool.and_true] at qhc4; simp [ooB, Hhc2.out, qhc4, Hhc6.out, HSG.out.1, HSGd.out, HK3d.out, HLNd.out]
              have HPR : Hid (ooF gr s l k x cs = ⟨[], [], []⟩) := by unfold Hid ooF; rw [if_neg (by rw [HVB.out]; simp)]
              refine bodyPost_ret (v := .tuple #[.agg #[(.slice none 0 0), (.slice none 0 0), (.slice none 0 0)], .bool false]) (by simp [results, Try.results21, go_sem, r1_0, r1_1, r1_2]) rfl ⟨(by rw [HVB.out, HPR.out]; exact RetP.mk (OwnI.nil _ _) (OwnI.nil _ _) (OwnI.nil _ _)), HBF.out⟩
            | true =>
              have HCA : Hid (cs.all (expB gr) = true) := hc6
              have Hhc6 := Lib.hid hc6
              clear hc6
              cases hc7 : eqTrue gr z x with
              | false =>
                have Hhc7 := Lib.hid hc7
                clear hc7
                try (go_wp2_with fail)
                refine wp_region_noPanic ?_
                refine wp_region_P (fun w' => w'.cell? ⟨w.heap.size, 0, none⟩ = some (.int .i64 gr.p) ∧ w'.cell? ⟨w.heap.size, 1, none⟩ = some (.int .i64 gr.q) ∧ w'.cell? ⟨w.heap.size, 2, none⟩ = some (.int .i64 gr.g) ∧ w'.cell? ⟨b_z, o_z + k.toNat * 4, none⟩ = some (.int .i64 z.g1) ∧ w'.cell? ⟨b_z, o_z + k.toNat * 4 + 1, none⟩ = some (.int .i64 z.y1) ∧ w'.cell? ⟨b_z, o_z + k.toNat * 4 + 2, none⟩ = some (.int .i64 z.g2) ∧ w'.cell? ⟨b_z, o_z + k.toNat * 4 + 3, none⟩ = some (.int .i64 z.y2)) 52 [(0, []), (1, []), (2, [1, 0]), (3, [0]), (4, [0]), (5, [0]), (6, [1]), (7, [1, 0, 2]), (8, [0, 3]), (9, [4, 0]), (10, [0]), (11, [0]), (12, [1]), (13, [0, 2]), (14, [0, 3]), (15, [3, 0, 4]), (16, [0, 5]), (17, [6, 0]), (18, [0]), (19, [0]), (20, [1]), (21, [0, 2]), (22, [2, 0, 3]), (23, [0, 4]), (24, [5, 0]), (25, [0]), (26, [0]), (27, [0, 1]), (28, [2]), (29, [0, 3]), (30, [0, 4]), (31, [0, 5]), (32, [4, 0, 6]), (33, [7, 0]), (34, [0]), (35, [0]), (36, [1]), (37, [1, 0, 2]), (38, [0, 3]), (39, [4, 0]), (40, [0]), (41, [0]), (42, [1]), (43, [2]), (44, [1, 0, 3]), (45, [0, 4]), (46, [5]), (47, [5, 1, 0, 6]), (48, [0, 7]), (49, [8, 0])] [] (by kernel_rfl) (by kernel_rfl) (by kernel_rfl) rfl (fun _ _ _ _ h => h) (fun w' h => ⟨box_at c0_0 h, box_at c0_1 h, box_at c0_2 h, box_at yz_0 h, box_at yz_1 h, box_at yz_2 h, box_at yz_3 h⟩) ?_
                simp only [pickP, pickN, List.getElem?_cons_zero, List.getElem?_cons_succ]
                iterate 2 (refine' chainP_read _ rfl rfl (fun w' hS' => ?_) ?_; rotate_left; · (simp only [lookP, allP, Act.put, List.getElem?_cons_zero, List.getElem?_cons_succ, List.setIfInBounds_toArray, List.set_cons_zero, List.set_cons_succ]; (try dsimp only at hS'); go_simp; (try with_reducible rfl)))
                -- 2: call { callee := value (func 135), args := #[t14, t15], argTypes := #[25, 9] }
                refine chainP_call (d := (some 16)) (.bool true) rfl rfl (fun w' hS' => ?_) ?_
                · simp only [lookP, allP, Act.put, List.getElem?_cons_zero, List.getElem?_cons_succ, List.setIfInBounds_toArray, List.set_cons_zero, List.set_cons_succ]
                  intro K hK
                  go_simp
                  go_at_call 105
                  refine (spec_sLabel gr s _ HS2.out).mono ?_
                  rintro e u ⟨rfl, hq⟩
                  rw [Hhc1.out]
                  exact hK.out _ hq
                iterate 2 (refine' chainP_read _ rfl rfl (fun w' hS' => ?_) ?_; rotate_left; · (simp only [lookP, allP, Act.put, List.getElem?_cons_zero, List.getElem?_cons_succ, List.setIfInBounds_toArray, List.set_cons_zero, List.set_cons_succ]; (try dsimp only at hS'); go_simp; (try with_reducible rfl)))
                -- 5: load 25 t6
                refine' chainP_readG (d := (some 19)) _ rfl (fun w' hS' => ?_) ?_; rotate_left
                · simp only [lookP, allP, Act.put, List.getElem?_cons_zero, List.getElem?_cons_succ, List.setIfInBounds_toArray, List.set_cons_zero, List.set_cons_succ]
                  refine ⟨by kernel_rfl, ?_⟩
                  (try dsimp only at hS')
                  go_simp
                  (try with_reducible rfl)
                -- 6: move t2
                refine' chainP_readG (d := (some 20)) _ rfl (fun w' hS' => ?_) ?_; rotate_left
                · simp only [lookP, allP, Act.put, List.getElem?_cons_zero, List.getElem?_cons_succ, List.setIfInBounds_toArray, List.set_cons_zero, List.set_cons_succ]
                  refine ⟨by kernel_rfl, ?_⟩
                  (try dsimp only at hS')
                  go_simp
                  (try with_reducible rfl)
                -- 7: call { callee := value (func 148), args := #[t19, t20], argTypes := #[25, 72] }
                refine chainP_callG (d := (some 21)) (.bool true) rfl (fun w' hS' => ?_) ?_
                · simp only [lookP, allP, Act.put, List.getElem?_cons_zero, List.getElem?_cons_succ, List.setIfInBounds_toArray, List.set_cons_zero, List.set_cons_succ]
                  refine ⟨by kernel_rfl, ?_⟩
                  intro K hK
                  go_simp
                  go_at_call 106
                  refine (spec_sAll gr _ l _ HG.out ((Hev.out.below (HB.out.trans (hc.mono HB.out.size))).below hS'.1)).mono ?_
                  rintro e u ⟨rfl, hq⟩
                  rw [Hhc2.out]
                  exact hK.out _ hq
                -- 8: unOp Unnot 4 t21
                refine' chainP_readG (d := (some 22)) _ rfl (fun w' hS' => ?_) ?_; rotate_left
                · simp only [lookP, allP, Act.put, List.getElem?_cons_zero, List.getElem?_cons_succ, List.setIfInBounds_toArray, List.set_cons_zero, List.set_cons_succ]
                  refine ⟨by kernel_rfl, ?_⟩
                  (try dsimp only at hS')
                  go_simp
                  (try with_reducible rfl)
                iterate 2 (refine' chainP_read _ rfl rfl (fun w' hS' => ?_) ?_; rotate_left; · (simp only [lookP, allP, Act.put, List.getElem?_cons_zero, List.getElem?_cons_succ, List.setIfInBounds_toArray, List.set_cons_zero, List.set_cons_succ]; (try dsimp only at hS'); go_simp; (try with_reducible rfl)))
                -- 11: move t3
                refine' chainP_readG (d := (some 25)) _ rfl (fun w' hS' => ?_) ?_; rotate_left
                · simp only [lookP, allP, Act.put, List.getElem?_cons_zero, List.getElem?_cons_succ, List.setIfInBounds_toArray, List.set_cons_zero, List.set_cons_succ]
                  refine ⟨by kernel_rfl, ?_⟩
                  (try dsimp only at hS')
                  go_simp
                  (try with_reducible rfl)
                -- 12: move t2
                refine' chainP_readG (d := (some 26)) _ rfl (fun w' hS' => ?_) ?_; rotate_left
                · simp only [lookP, allP, Act.put, List.getElem?_cons_zero, List.getElem?_cons_succ, List.setIfInBounds_toArray, List.set_cons_zero, List.set_cons_succ]
                  refine ⟨by kernel_rfl, ?_⟩
                  (try dsimp only at hS')
                  go_simp
                  (try with_reducible rfl)
                -- 13: call { callee := builtin Builtin.len, args := #[t26], argTypes := #[72] }
                refine' chainP_readG (d := (some 27)) _ rfl (fun w' hS' => ?_) ?_; rotate_left
                · simp only [lookP, allP, Act.put, List.getElem?_cons_zero, List.getElem?_cons_succ, List.setIfInBounds_toArray, List.set_cons_zero, List.set_cons_succ]
                  refine ⟨by kernel_rfl, ?_⟩
                  (try dsimp only at hS')
                  go_simp
                  (try with_reducible rfl)
                -- 14: binOp Binsub 3 t27 (const (int i64 1)) 3
                refine' chainP_readG (d := (some 28)) _ rfl (fun w' hS' => ?_) ?_; rotate_left
                · simp only [lookP, allP, Act.put, List.getElem?_cons_zero, List.getElem?_cons_succ, List.setIfInBounds_toArray, List.set_cons_zero, List.set_cons_succ]
                  refine ⟨by kernel_rfl, ?_⟩
                  (try dsimp only at hS')
                  go_simp
                  (try with_reducible rfl)
                -- 15: call { callee := value (func 94), args := #[t25, const (int i64 0), t28], argTypes := #[3, 3, 3] }
                refine chainP_callG (d := (some 29)) (.bool true) rfl (fun w' hS' => ?_) ?_
                · simp only [lookP, allP, Act.put, List.getElem?_cons_zero, List.getElem?_cons_succ, List.setIfInBounds_toArray, List.set_cons_zero, List.set_cons_succ]
                  refine ⟨by kernel_rfl, ?_⟩
                  intro K hK
                  go_simp
                  go_at_call 107
                  refine (spec_l1In k 0 ((evn : Int) - 1) _).mono ?_
                  rintro e u ⟨rfl, rfl⟩
                  rw [hc3]
                  exact hK.out _ (Below.refl _ _)
                -- 16: unOp Unnot 4 t29
                refine' chainP_readG (d := (some 30)) _ rfl (fun w' hS' => ?_) ?_; rotate_left
                · simp only [lookP, allP, Act.put, List.getElem?_cons_zero, List.getElem?_cons_succ, List.setIfInBounds_toArray, List.set_cons_zero, List.set_cons_succ]
                  refine ⟨by kernel_rfl, ?_⟩
                  (try dsimp only at hS')
                  go_simp
                  (try with_reducible rfl)
                iterate 2 (refine' chainP_read _ rfl rfl (fun w' hS' => ?_) ?_; rotate_left; · (simp only [lookP, allP, Act.put, List.getElem?_cons_zero, List.getElem?_cons_succ, List.setIfInBounds_toArray, List.set_cons_zero, List.set_cons_succ]; (try dsimp only at hS'); go_simp; (try with_reducible rfl)))
                -- 19: load 25 t6
                refine' chainP_readG (d := (some 33)) _ rfl (fun w' hS' => ?_) ?_; rotate_left
                · simp only [lookP, allP, Act.put, List.getElem?_cons_zero, List.getElem?_cons_succ, List.setIfInBounds_toArray, List.set_cons_zero, List.set_cons_succ]
                  refine ⟨by kernel_rfl, ?_⟩
                  (try dsimp only at hS')
                  go_simp
                  (try with_reducible rfl)
                -- 20: move t4
                refine' chainP_readG (d := (some 34)) _ rfl (fun w' hS' => ?_) ?_; rotate_left
                · simp only [lookP, allP, Act.put, List.getElem?_cons_zero, List.getElem?_cons_succ, List.setIfInBounds_toArray, List.set_cons_zero, List.set_cons_succ]
                  refine ⟨by kernel_rfl, ?_⟩
                  (try dsimp only at hS')
                  go_simp
                  (try with_reducible rfl)
                -- 21: buildSlice 26 1 #[(0, t34)]
                refine chainP_doG (d := (some 35)) (fun v w => Ints w v [x]) (fun v w w' hb h => Ints.below h hb) rfl (fun w' hS' => ?_) ?_
                · simp only [lookP, allP, Act.put, List.getElem?_cons_zero, List.getElem?_cons_succ, List.setIfInBounds_toArray, List.set_cons_zero, List.set_cons_succ]
                  refine ⟨by kernel_rfl, ?_⟩
                  intro K hK
                  go_simp
                  refine hK.out _ _ ((Below.refl _ _).alloc (Nat.le_refl _) _) ?_
                  exact (OwnI.lit (B := w'.heap.size) w' (Nat.le_refl _) (l := [x]) (AllI64.cons HIX.out AllI64.nil) rfl (by simp [maxLen]) 1 rfl).ints
                -- 22: call { callee := value (func 95), args := #[t33, t35], argTypes := #[25, 26] }
                refine chainP_callG (d := (some 36)) (.bool true) rfl (fun w' hS' => ?_) ?_
                · simp only [lookP, allP, Act.put, List.getElem?_cons_zero, List.getElem?_cons_succ, List.setIfInBounds_toArray, List.set_cons_zero, List.set_cons_succ]
                  intro x21 hx21
                  refine ⟨by kernel_rfl, ?_⟩
                  intro K hK
                  go_simp
                  go_at_call 78
                  refine (spec_gExps gr _ [x] _ HG.out hx21).mono ?_
                  rintro e u ⟨rfl, hq⟩
                  rw [Hhc4.out]
                  exact hK.out _ hq
                -- 23: unOp Unnot 4 t36
                refine' chainP_readG (d := (some 37)) _ rfl (fun w' hS' => ?_) ?_; rotate_left
                · simp only [lookP, allP, Act.put, List.getElem?_cons_zero, List.getElem?_cons_succ, List.setIfInBounds_toArray, List.set_cons_zero, List.set_cons_succ]
                  refine ⟨by kernel_rfl, ?_⟩
                  (try dsimp only at hS')
                  go_simp
                  (try with_reducible rfl)
                iterate 2 (refine' chainP_read _ rfl rfl (fun w' hS' => ?_) ?_; rotate_left; · (simp only [lookP, allP, Act.put, List.getElem?_cons_zero, List.getElem?_cons_succ, List.setIfInBounds_toArray, List.set_cons_zero, List.set_cons_succ]; (try dsimp only at hS'); go_simp; (try with_reducible rfl)))
                -- 26: move t5
                refine' chainP_readG (d := (some 40)) _ rfl (fun w' hS' => ?_) ?_; rotate_left
                · simp only [lookP, allP, Act.put, List.getElem?_cons_zero, List.getElem?_cons_succ, List.setIfInBounds_toArray, List.set_cons_zero, List.set_cons_succ]
                  refine ⟨by kernel_rfl, ?_⟩
                  (try dsimp only at hS')
                  go_simp
                  (try with_reducible rfl)
                -- 27: call { callee := builtin Builtin.len, args := #[t40], argTypes := #[26] }
                refine' chainP_readG (d := (some 41)) _ rfl (fun w' hS' => ?_) ?_; rotate_left
                · simp only [lookP, allP, Act.put, List.getElem?_cons_zero, List.getElem?_cons_succ, List.setIfInBounds_toArray, List.set_cons_zero, List.set_cons_succ]
                  refine ⟨by kernel_rfl, ?_⟩
                  (try dsimp only at hS')
                  go_simp
                  (try with_reducible rfl)
                -- 28: move t2
                refine' chainP_readG (d := (some 42)) _ rfl (fun w' hS' => ?_) ?_; rotate_left
                · simp only [lookP, allP, Act.put, List.getElem?_cons_zero, List.getElem?_cons_succ, List.setIfInBounds_toArray, List.set_cons_zero, List.set_cons_succ]
                  refine ⟨by kernel_rfl, ?_⟩
                  (try dsimp only at hS')
                  go_simp
                  (try with_reducible rfl)
                -- 29: call { callee := builtin Builtin.len, args := #[t42], argTypes := #[72] }
                refine' chainP_readG (d := (some 43)) _ rfl (fun w' hS' => ?_) ?_; rotate_left
                · simp only [lookP, allP, Act.put, List.getElem?_cons_zero, List.getElem?_cons_succ, List.setIfInBounds_toArray, List.set_cons_zero, List.set_cons_succ]
                  refine ⟨by kernel_rfl, ?_⟩
                  (try dsimp only at hS')
                  go_simp
                  (try with_reducible rfl)
                -- 30: binOp Binmul 3 (const (int i64 2)) t43 3
                refine' chainP_readG (d := (some 44)) _ rfl (fun w' hS' => ?_) ?_; rotate_left
                · simp only [lookP, allP, Act.put, List.getElem?_cons_zero, List.getElem?_cons_succ, List.setIfInBounds_toArray, List.set_cons_zero, List.set_cons_succ]
                  refine ⟨by kernel_rfl, ?_⟩
                  (try dsimp only at hS')
                  go_simp
                  (try with_reducible rfl)
                -- 31: binOp Binsub 3 t44 (const (int i64 1)) 3
                refine' chainP_readG (d := (some 45)) _ rfl (fun w' hS' => ?_) ?_; rotate_left
                · simp only [lookP, allP, Act.put, List.getElem?_cons_zero, List.getElem?_cons_succ, List.setIfInBounds_toArray, List.set_cons_zero, List.set_cons_succ]
                  refine ⟨by kernel_rfl, ?_⟩
                  (try dsimp only at hS')
                  go_simp
                  (try with_reducible rfl)
                -- 32: binOp Binneq 3 t41 t45 3
                refine' chainP_readG (d := (some 46)) _ rfl (fun w' hS' => ?_) ?_; rotate_left
                · simp only [lookP, allP, Act.put, List.getElem?_cons_zero, List.getElem?_cons_succ, List.setIfInBounds_toArray, List.set_cons_zero, List.set_cons_succ]
                  refine ⟨by kernel_rfl, ?_⟩
                  (try dsimp only at hS')
                  go_simp
                  (try with_reducible rfl)
                iterate 2 (refine' chainP_read _ rfl rfl (fun w' hS' => ?_) ?_; rotate_left; · (simp only [lookP, allP, Act.put, List.getElem?_cons_zero, List.getElem?_cons_succ, List.setIfInBounds_toArray, List.set_cons_zero, List.set_cons_succ]; (try dsimp only at hS'); go_simp; (try with_reducible rfl)))
                -- 35: load 25 t6
                refine' chainP_readG (d := (some 49)) _ rfl (fun w' hS' => ?_) ?_; rotate_left
                · simp only [lookP, allP, Act.put, List.getElem?_cons_zero, List.getElem?_cons_succ, List.setIfInBounds_toArray, List.set_cons_zero, List.set_cons_succ]
                  refine ⟨by kernel_rfl, ?_⟩
                  (try dsimp only at hS')
                  go_simp
                  (try with_reducible rfl)
                -- 36: move t5
                refine' chainP_readG (d := (some 50)) _ rfl (fun w' hS' => ?_) ?_; rotate_left
                · simp only [lookP, allP, Act.put, List.getElem?_cons_zero, List.getElem?_cons_succ, List.setIfInBounds_toArray, List.set_cons_zero, List.set_cons_succ]
                  refine ⟨by kernel_rfl, ?_⟩
                  (try dsimp only at hS')
                  go_simp
                  (try with_reducible rfl)
                -- 37: call { callee := value (func 95), args := #[t49, t50], argTypes := #[25, 26] }
                refine chainP_callG (d := (some 51)) (.bool true) rfl (fun w' hS' => ?_) ?_
                · simp only [lookP, allP, Act.put, List.getElem?_cons_zero, List.getElem?_cons_succ, List.setIfInBounds_toArray, List.set_cons_zero, List.set_cons_succ]
                  refine ⟨by kernel_rfl, ?_⟩
                  intro K hK
                  go_simp
                  go_at_call 78
                  refine (spec_gExps gr _ cs _ HG.out ((Hcv.out.below (HB.out.trans (hc.mono HB.out.size))).below hS'.1)).mono ?_
                  rintro e u ⟨rfl, hq⟩
                  rw [Hhc6.out]
                  exact hK.out _ hq
                -- 38: unOp Unnot 4 t51
                refine' chainP_readG (d := (some 52)) _ rfl (fun w' hS' => ?_) ?_; rotate_left
                · simp only [lookP, allP, Act.put, List.getElem?_cons_zero, List.getElem?_cons_succ, List.setIfInBounds_toArray, List.set_cons_zero, List.set_cons_succ]
                  refine ⟨by kernel_rfl, ?_⟩
                  (try dsimp only at hS')
                  go_simp
                  (try with_reducible rfl)
                iterate 2 (refine' chainP_read _ rfl rfl (fun w' hS' => ?_) ?_; rotate_left; · (simp only [lookP, allP, Act.put, List.getElem?_cons_zero, List.getElem?_cons_succ, List.setIfInBounds_toArray, List.set_cons_zero, List.set_cons_succ]; (try dsimp only at hS'); go_simp; (try with_reducible rfl)))
                -- 41: load 25 t6
                refine' chainP_readG (d := (some 55)) _ rfl (fun w' hS' => ?_) ?_; rotate_left
                · simp only [lookP, allP, Act.put, List.getElem?_cons_zero, List.getElem?_cons_succ, List.setIfInBounds_toArray, List.set_cons_zero, List.set_cons_succ]
                  refine ⟨by kernel_rfl, ?_⟩
                  (try dsimp only at hS')
                  go_simp
                  (try with_reducible rfl)
                -- 42: move t2
                refine' chainP_readG (d := (some 56)) _ rfl (fun w' hS' => ?_) ?_; rotate_left
                · simp only [lookP, allP, Act.put, List.getElem?_cons_zero, List.getElem?_cons_succ, List.setIfInBounds_toArray, List.set_cons_zero, List.set_cons_succ]
                  refine ⟨by kernel_rfl, ?_⟩
                  (try dsimp only at hS')
                  go_simp
                  (try with_reducible rfl)
                -- 43: move t3
                refine' chainP_readG (d := (some 57)) _ rfl (fun w' hS' => ?_) ?_; rotate_left
                · simp only [lookP, allP, Act.put, List.getElem?_cons_zero, List.getElem?_cons_succ, List.setIfInBounds_toArray, List.set_cons_zero, List.set_cons_succ]
                  refine ⟨by kernel_rfl, ?_⟩
                  (try dsimp only at hS')
                  go_simp
                  (try with_reducible rfl)
                -- 44: indexAddr 72 t56 t57
                refine' chainP_readG (d := (some 58)) _ rfl (fun w' hS' => ?_) ?_; rotate_left
                · simp only [lookP, allP, Act.put, List.getElem?_cons_zero, List.getElem?_cons_succ, List.setIfInBounds_toArray, List.set_cons_zero, List.set_cons_succ]
                  refine ⟨by kernel_rfl, ?_⟩
                  (try dsimp only at hS')
                  go_simp
                  (try with_reducible rfl)
                -- 45: load 51 t58
                refine' chainP_readG (d := (some 59)) _ rfl (fun w' hS' => ?_) ?_; rotate_left
                · simp only [lookP, allP, Act.put, List.getElem?_cons_zero, List.getElem?_cons_succ, List.setIfInBounds_toArray, List.set_cons_zero, List.set_cons_succ]
                  refine ⟨by kernel_rfl, ?_⟩
                  (try dsimp only at hS')
                  go_simp
                  (try with_reducible rfl)
                -- 46: move t4
                refine' chainP_readG (d := (some 60)) _ rfl (fun w' hS' => ?_) ?_; rotate_left
                · simp only [lookP, allP, Act.put, List.getElem?_cons_zero, List.getElem?_cons_succ, List.setIfInBounds_toArray, List.set_cons_zero, List.set_cons_succ]
                  refine ⟨by kernel_rfl, ?_⟩
                  (try dsimp only at hS')
                  go_simp
                  (try with_reducible rfl)
                -- 47: call { callee := value (func 149), args := #[t55, t59, t60], argTypes := #[25, 51, 3] }
                refine chainP_callG (d := (some 61)) (.bool false) rfl (fun w' hS' => ?_) ?_
                · simp only [lookP, allP, Act.put, List.getElem?_cons_zero, List.getElem?_cons_succ, List.setIfInBounds_toArray, List.set_cons_zero, List.set_cons_succ]
                  refine ⟨by kernel_rfl, ?_⟩
                  intro K hK
                  go_simp
                  go_at_call 108
                  refine (spec_sTrue gr z x _ HG.out HZE.out HXS.out).mono ?_
                  rintro e u ⟨rfl, hq⟩
                  rw [Hhc7.out]
                  exact hK.out _ hq
                -- 48: unOp Unnot 4 t61
                refine' chainP_readG (d := (some 62)) _ rfl (fun w' hS' => ?_) ?_; rotate_left
                · simp only [lookP, allP, Act.put, List.getElem?_cons_zero, List.getElem?_cons_succ, List.setIfInBounds_toArray, List.set_cons_zero, List.set_cons_succ]
                  refine ⟨by kernel_rfl, ?_⟩
                  (try dsimp only at hS')
                  go_simp
                  (try with_reducible rfl)
                -- 49: pick t54 (const (bool true)) t62
                refine' chainP_read (d := (some 63)) _ rfl rfl (fun w' hS' => ?_) ?_; rotate_left
                · simp only [lookP, allP, Act.put, List.getElem?_cons_zero, List.getElem?_cons_succ, List.setIfInBounds_toArray, List.set_cons_zero, List.set_cons_succ]
                  (try dsimp only at hS')
                  go_simp
                  (try with_reducible rfl)
                refine chainP_nil (fun u1 hS' => ?_)
                simp only [allP, Act.put, List.setIfInBounds_toArray, List.set_cons_zero, List.set_cons_succ]
                intro x21 hx21
                have hq1 := hS'.1
                clear hS'
                replace hc := Below.next hc hq1
                clear hq1 c0_0 c0_1 c0_2 yz_0 yz_1 yz_2 yz_3
                obtain ⟨c0_0, c0_1, c0_2, yz_0, yz_1, yz_2, yz_3⟩ := HCC.out _ hc
                go_wp2_with fail
                refine NoPanic.normal ?_
                have HRE1 := Lib.hid (HR1.out.below hc)
                clear HR1
                have HBE := Lib.hid (HB.out.trans (hc.mono HB.out.size))
                have r1_0 := HRE1.out.cell (i := 0) rfl
                have r1_1 := HRE1.out.cell (i := 1) rfl
                have r1_2 := HRE1.out.cell (i := 2) rfl
                have fr1 := fun j => HRE1.out.frozen j
                go_wp2_with fail
                have HRF := Lib.hid (((HRE1.out.set 0 ((.slice none 0 0))).set 1 ((.slice none 0 0))).set 2 ((.slice none 0 0)))
                have HBF := Lib.hid (((HBE.out.setCell (p := ⟨w.heap.size + 1, 0, none⟩) (by show w.heap.size ≤ w.heap.size + 1; omega) ((.slice none 0 0))).setCell (p := ⟨w.heap.size + 1, 1, none⟩) (by show w.heap.size ≤ w.heap.size + 1; omega) ((.slice none 0 0))).setCell (p := ⟨w.heap.size + 1, 2, none⟩) (by show w.heap.size ≤ w.heap.size + 1; omega) ((.slice none 0 0)))
                clear r1_0 r1_1 r1_2 fr1
                have r1_0 := HRF.out.cell (i := 0) rfl
                have r1_1 := HRF.out.cell (i := 1) rfl
                have r1_2 := HRF.out.cell (i := 2) rfl
                try (go_wp2_with fail)
                have HVB : Hid (ooB gr s l k x cs = false) := by unfold Hid; have qhc4 := Hhc4.out; simp only [List.all_cons, List.all_nil, Bool.and_true] at qhc4; simp [ooB, Hhc2.out, qhc4, Hhc6.out, Hhc7.out, HSG.out.1, HSGd.out, HK3d.out, HLNd.out, HZQ.out]
                have HPR : Hid (ooF gr s l k x cs = ⟨[], [], []⟩) := by unfold Hid ooF; rw [if_neg (by rw [HVB.out]; simp)]
                refine bodyPost_ret (v := .tuple #[.agg #[(.slice none 0 0), (.slice none 0 0), (.slice none 0 0)], .bool false]) (by simp [results, Try.results21, go_sem, r1_0, r1_1, r1_2]) rfl ⟨(by rw [HVB.out, HPR.out]; exact RetP.mk (OwnI.nil _ _) (OwnI.nil _ _) (OwnI.nil _ _)), HBF.out⟩
              | true =>
                have Hhc7 := Lib.hid hc7
                clear hc7
                try (go_wp2_with fail)
                refine wp_region_noPanic ?_
                refine wp_region_P (fun w' => w'.cell? ⟨w.heap.size, 0, none⟩ = some (.int .i64 gr.p) ∧ w'.cell? ⟨w.heap.size, 1, none⟩ = some (.int .i64 gr.q) ∧ w'.cell? ⟨w.heap.size, 2, none⟩ = some (.int .i64 gr.g) ∧ w'.cell? ⟨b_z, o_z + k.toNat * 4, none⟩ = some (.int .i64 z.g1) ∧ w'.cell? ⟨b_z, o_z + k.toNat * 4 + 1, none⟩ = some (.int .i64 z.y1) ∧ w'.cell? ⟨b_z, o_z + k.toNat * 4 + 2, none⟩ = some (.int .i64 z.g2) ∧ w'.cell? ⟨b_z, o_z + k.toNat * 4 + 3, none⟩ = some (.int .i64 z.y2)) 52 [(0, []), (1, []), (2, [1, 0]), (3, [0]), (4, [0]), (5, [0]), (6, [1]), (7, [1, 0, 2]), (8, [0, 3]), (9, [4, 0]), (10, [0]), (11, [0]), (12, [1]), (13, [0, 2]), (14, [0, 3]), (15, [3, 0, 4]), (16, [0, 5]), (17, [6, 0]), (18, [0]), (19, [0]), (20, [1]), (21, [0, 2]), (22, [2, 0, 3]), (23, [0, 4]), (24, [5, 0]), (25, [0]), (26, [0]), (27, [0, 1]), (28, [2]), (29, [0, 3]), (30, [0, 4]), (31, [0, 5]), (32, [4, 0, 6]), (33, [7, 0]), (34, [0]), (35, [0]), (36, [1]), (37, [1, 0, 2]), (38, [0, 3]), (39, [4, 0]), (40, [0]), (41, [0]), (42, [1]), (43, [2]), (44, [1, 0, 3]), (45, [0, 4]), (46, [5]), (47, [5, 1, 0, 6]), (48, [0, 7]), (49, [8, 0])] [] (by kernel_rfl) (by kernel_rfl) (by kernel_rfl) rfl (fun _ _ _ _ h => h) (fun w' h => ⟨box_at c0_0 h, box_at c0_1 h, box_at c0_2 h, box_at yz_0 h, box_at yz_1 h, box_at yz_2 h, box_at yz_3 h⟩) ?_
                simp only [pickP, pickN, List.getElem?_cons_zero, List.getElem?_cons_succ]
                iterate 2 (refine' chainP_read _ rfl rfl (fun w' hS' => ?_) ?_; rotate_left; · (simp only [lookP, allP, Act.put, List.getElem?_cons_zero, List.getElem?_cons_succ, List.setIfInBounds_toArray, List.set_cons_zero, List.set_cons_succ]; (try dsimp only at hS'); go_simp; (try with_reducible rfl)))
                -- 2: call { callee := value (func 135), args := #[t14, t15], argTypes := #[25, 9] }
                refine chainP_call (d := (some 16)) (.bool true) rfl rfl (fun w' hS' => ?_) ?_
                · simp only [lookP, allP, Act.put, List.getElem?_cons_zero, List.getElem?_cons_succ, List.setIfInBounds_toArray, List.set_cons_zero, List.set_cons_succ]
                  intro K hK
                  go_simp
                  go_at_call 105
                  refine (spec_sLabel gr s _ HS2.out).mono ?_
                  rintro e u ⟨rfl, hq⟩
                  rw [Hhc1.out]
                  exact hK.out _ hq
                iterate 2 (refine' chainP_read _ rfl rfl (fun w' hS' => ?_) ?_; rotate_left; · (simp only [lookP, allP, Act.put, List.getElem?_cons_zero, List.getElem?_cons_succ, List.setIfInBounds_toArray, List.set_cons_zero, List.set_cons_succ]; (try dsimp only at hS'); go_simp; (try with_reducible rfl)))
                -- 5: load 25 t6
                refine' chainP_readG (d := (some 19)) _ rfl (fun w' hS' => ?_) ?_; rotate_left
                · simp only [lookP, allP, Act.put, List.getElem?_cons_zero, List.getElem?_cons_succ, List.setIfInBounds_toArray, List.set_cons_zero, List.set_cons_succ]
                  refine ⟨by kernel_rfl, ?_⟩
                  (try dsimp only at hS')
                  go_simp
                  (try with_reducible rfl)
                -- 6: move t2
                refine' chainP_readG (d := (some 20)) _ rfl (fun w' hS' => ?_) ?_; rotate_left
                · simp only [lookP, allP, Act.put, List.getElem?_cons_zero, List.getElem?_cons_succ, List.setIfInBounds_toArray, List.set_cons_zero, List.set_cons_succ]
                  refine ⟨by kernel_rfl, ?_⟩
                  (try dsimp only at hS')
                  go_simp
                  (try with_reducible rfl)
                -- 7: call { callee := value (func 148), args := #[t19, t20], argTypes := #[25, 72] }
                refine chainP_callG (d := (some 21)) (.bool true) rfl (fun w' hS' => ?_) ?_
                · simp only [lookP, allP, Act.put, List.getElem?_cons_zero, List.getElem?_cons_succ, List.setIfInBounds_toArray, List.set_cons_zero, List.set_cons_succ]
                  refine ⟨by kernel_rfl, ?_⟩
                  intro K hK
                  go_simp
                  go_at_call 106
                  refine (spec_sAll gr _ l _ HG.out ((Hev.out.below (HB.out.trans (hc.mono HB.out.size))).below hS'.1)).mono ?_
                  rintro e u ⟨rfl, hq⟩
                  rw [Hhc2.out]
                  exact hK.out _ hq
                -- 8: unOp Unnot 4 t21
                refine' chainP_readG (d := (some 22)) _ rfl (fun w' hS' => ?_) ?_; rotate_left
                · simp only [lookP, allP, Act.put, List.getElem?_cons_zero, List.getElem?_cons_succ, List.setIfInBounds_toArray, List.set_cons_zero, List.set_cons_succ]
                  refine ⟨by kernel_rfl, ?_⟩
                  (try dsimp only at hS')
                  go_simp
                  (try with_reducible rfl)
                iterate 2 (refine' chainP_read _ rfl rfl (fun w' hS' => ?_) ?_; rotate_left; · (simp only [lookP, allP, Act.put, List.getElem?_cons_zero, List.getElem?_cons_succ, List.setIfInBounds_toArray, List.set_cons_zero, List.set_cons_succ]; (try dsimp only at hS'); go_simp; (try with_reducible rfl)))
                -- 11: move t3
                refine' chainP_readG (d := (some 25)) _ rfl (fun w' hS' => ?_) ?_; rotate_left
                · simp only [lookP, allP, Act.put, List.getElem?_cons_zero, List.getElem?_cons_succ, List.setIfInBounds_toArray, List.set_cons_zero, List.set_cons_succ]
                  refine ⟨by kernel_rfl, ?_⟩
                  (try dsimp only at hS')
                  go_simp
                  (try with_reducible rfl)
                -- 12: move t2
                refine' chainP_readG (d := (some 26)) _ rfl (fun w' hS' => ?_) ?_; rotate_left
                · simp only [lookP, allP, Act.put, List.getElem?_cons_zero, List.getElem?_cons_succ, List.setIfInBounds_toArray, List.set_cons_zero, List.set_cons_succ]
                  refine ⟨by kernel_rfl, ?_⟩
                  (try dsimp only at hS')
                  go_simp
                  (try with_reducible rfl)
                -- 13: call { callee := builtin Builtin.len, args := #[t26], argTypes := #[72] }
                refine' chainP_readG (d := (some 27)) _ rfl (fun w' hS' => ?_) ?_; rotate_left
                · simp only [lookP, allP, Act.put, List.getElem?_cons_zero, List.getElem?_cons_succ, List.setIfInBounds_toArray, List.set_cons_zero, List.set_cons_succ]
                  refine ⟨by kernel_rfl, ?_⟩
                  (try dsimp only at hS')
                  go_simp
                  (try with_reducible rfl)
                -- 14: binOp Binsub 3 t27 (const (int i64 1)) 3
                refine' chainP_readG (d := (some 28)) _ rfl (fun w' hS' => ?_) ?_; rotate_left
                · simp only [lookP, allP, Act.put, List.getElem?_cons_zero, List.getElem?_cons_succ, List.setIfInBounds_toArray, List.set_cons_zero, List.set_cons_succ]
                  refine ⟨by kernel_rfl, ?_⟩
                  (try dsimp only at hS')
                  go_simp
                  (try with_reducible rfl)
                -- 15: call { callee := value (func 94), args := #[t25, const (int i64 0), t28], argTypes := #[3, 3, 3] }
                refine chainP_callG (d := (some 29)) (.bool true) rfl (fun w' hS' => ?_) ?_
                · simp only [lookP, allP, Act.put, List.getElem?_cons_zero, List.getElem?_cons_succ, List.setIfInBounds_toArray, List.set_cons_zero, List.set_cons_succ]
                  refine ⟨by kernel_rfl, ?_⟩
                  intro K hK
                  go_simp
                  go_at_call 107
                  refine (spec_l1In k 0 ((evn : Int) - 1) _).mono ?_
                  rintro e u ⟨rfl, rfl⟩
                  rw [hc3]
                  exact hK.out _ (Below.refl _ _)
                -- 16: unOp Unnot 4 t29
                refine' chainP_readG (d := (some 30)) _ rfl (fun w' hS' => ?_) ?_; rotate_left
                · simp only [lookP, allP, Act.put, List.getElem?_cons_zero, List.getElem?_cons_succ, List.setIfInBounds_toArray, List.set_cons_zero, List.set_cons_succ]
                  refine ⟨by kernel_rfl, ?_⟩
                  (try dsimp only at hS')
                  go_simp
                  (try with_reducible rfl)
                iterate 2 (refine' chainP_read _ rfl rfl (fun w' hS' => ?_) ?_; rotate_left; · (simp only [lookP, allP, Act.put, List.getElem?_cons_zero, List.getElem?_cons_succ, List.setIfInBounds_toArray, List.set_cons_zero, List.set_cons_succ]; (try dsimp only at hS'); go_simp; (try with_reducible rfl)))
                -- 19: load 25 t6
                refine' chainP_readG (d := (some 33)) _ rfl (fun w' hS' => ?_) ?_; rotate_left
                · simp only [lookP, allP, Act.put, List.getElem?_cons_zero, List.getElem?_cons_succ, List.setIfInBounds_toArray, List.set_cons_zero, List.set_cons_succ]
                  refine ⟨by kernel_rfl, ?_⟩
                  (try dsimp only at hS')
                  go_simp
                  (try with_reducible rfl)
                -- 20: move t4
                refine' chainP_readG (d := (some 34)) _ rfl (fun w' hS' => ?_) ?_; rotate_left
                · simp only [lookP, allP, Act.put, List.getElem?_cons_zero, List.getElem?_cons_succ, List.setIfInBounds_toArray, List.set_cons_zero, List.set_cons_succ]
                  refine ⟨by kernel_rfl, ?_⟩
                  (try dsimp only at hS')
                  go_simp
                  (try with_reducible rfl)
                -- 21: buildSlice 26 1 #[(0, t34)]
                refine chainP_doG (d := (some 35)) (fun v w => Ints w v [x]) (fun v w w' hb h => Ints.below h hb) rfl (fun w' hS' => ?_) ?_
                · simp only [lookP, allP, Act.put, List.getElem?_cons_zero, List.getElem?_cons_succ, List.setIfInBounds_toArray, List.set_cons_zero, List.set_cons_succ]
                  refine ⟨by kernel_rfl, ?_⟩
                  intro K hK
                  go_simp
                  refine hK.out _ _ ((Below.refl _ _).alloc (Nat.le_refl _) _) ?_
                  exact (OwnI.lit (B := w'.heap.size) w' (Nat.le_refl _) (l := [x]) (AllI64.cons HIX.out AllI64.nil) rfl (by simp [maxLen]) 1 rfl).ints
                -- 22: call { callee := value (func 95), args := #[t33, t35], argTypes := #[25, 26] }
                refine chainP_callG (d := (some 36)) (.bool true) rfl (fun w' hS' => ?_) ?_
                · simp only [lookP, allP, Act.put, List.getElem?_cons_zero, List.getElem?_cons_succ, List.setIfInBounds_toArray, List.set_cons_zero, List.set_cons_succ]
                  intro x21 hx21
                  refine ⟨by kernel_rfl, ?_⟩
                  intro K hK
                  go_simp
                  go_at_call 78
                  refine (spec_gExps gr _ [x] _ HG.out hx21).mono ?_
                  rintro e u ⟨rfl, hq⟩
                  rw [Hhc4.out]
                  exact hK.out _ hq
                -- 23: unOp Unnot 4 t36
                refine' chainP_readG (d := (some 37)) _ rfl (fun w' hS' => ?_) ?_; rotate_left
                · simp only [lookP, allP, Act.put, List.getElem?_cons_zero, List.getElem?_cons_succ, List.setIfInBounds_toArray, List.set_cons_zero, List.set_cons_succ]
                  refine ⟨by kernel_rfl, ?_⟩
                  (try dsimp only at hS')
                  go_simp
                  (try with_reducible rfl)
                iterate 2 (refine' chainP_read _ rfl rfl (fun w' hS' => ?_) ?_; rotate_left; · (simp only [lookP, allP, Act.put, List.getElem?_cons_zero, List.getElem?_cons_succ, List.setIfInBounds_toArray, List.set_cons_zero, List.set_cons_succ]; (try dsimp only at hS'); go_simp; (try with_reducible rfl)))
                -- 26: move t5
                refine' chainP_readG (d := (some 40)) _ rfl (fun w' hS' => ?_) ?_; rotate_left
                · simp only [lookP, allP, Act.put, List.getElem?_cons_zero, List.getElem?_cons_succ, List.setIfInBounds_toArray, List.set_cons_zero, List.set_cons_succ]
                  refine ⟨by kernel_rfl, ?_⟩
                  (try dsimp only at hS')
                  go_simp
                  (try with_reducible rfl)
                -- 27: call { callee := builtin Builtin.len, args := #[t40], argTypes := #[26] }
                refine' chainP_readG (d := (some 41)) _ rfl (fun w' hS' => ?_) ?_; rotate_left
                · simp only [lookP, allP, Act.put, List.getElem?_cons_zero, List.getElem?_cons_succ, List.setIfInBounds_toArray, List.set_cons_zero, List.set_cons_succ]
                  refine ⟨by kernel_rfl, ?_⟩
                  (try dsimp only at hS')
                  go_simp
                  (try with_reducible rfl)
                -- 28: move t2
                refine' chainP_readG (d := (some 42)) _ rfl (fun w' hS' => ?_) ?_; rotate_left
                · simp only [lookP, allP, Act.put, List.getElem?_cons_zero, List.getElem?_cons_succ, List.setIfInBounds_toArray, List.set_cons_zero, List.set_cons_succ]
                  refine ⟨by kernel_rfl, ?_⟩
                  (try dsimp only at hS')
                  go_simp
                  (try with_reducible rfl)
                -- 29: call { callee := builtin Builtin.len, args := #[t42], argTypes := #[72] }
                refine' chainP_readG (d := (some 43)) _ rfl (fun w' hS' => ?_) ?_; rotate_left
                · simp only [lookP, allP, Act.put, List.getElem?_cons_zero, List.getElem?_cons_succ, List.setIfInBounds_toArray, List.set_cons_zero, List.set_cons_succ]
                  refine ⟨by kernel_rfl, ?_⟩
                  (try dsimp only at hS')
                  go_simp
                  (try with_reducible rfl)
                -- 30: binOp Binmul 3 (const (int i64 2)) t43 3
                refine' chainP_readG (d := (some 44)) _ rfl (fun w' hS' => ?_) ?_; rotate_left
                · simp only [lookP, allP, Act.put, List.getElem?_cons_zero, List.getElem?_cons_succ, List.setIfInBounds_toArray, List.set_cons_zero, List.set_cons_succ]
                  refine ⟨by kernel_rfl, ?_⟩
                  (try dsimp only at hS')
                  go_simp
                  (try with_reducible rfl)
                -- 31: binOp Binsub 3 t44 (const (int i64 1)) 3
                refine' chainP_readG (d := (some 45)) _ rfl (fun w' hS' => ?_) ?_; rotate_left
                · simp only [lookP, allP, Act.put, List.getElem?_cons_zero, List.getElem?_cons_succ, List.setIfInBounds_toArray, List.set_cons_zero, List.set_cons_succ]
                  refine ⟨by kernel_rfl, ?_⟩
                  (try dsimp only at hS')
                  go_simp
                  (try with_reducible rfl)
                -- 32: binOp Binneq 3 t41 t45 3
                refine' chainP_readG (d := (some 46)) _ rfl (fun w' hS' => ?_) ?_; rotate_left
                · simp only [lookP, allP, Act.put, List.getElem?_cons_zero, List.getElem?_cons_succ, List.setIfInBounds_toArray, List.set_cons_zero, List.set_cons_succ]
                  refine ⟨by kernel_rfl, ?_⟩
                  (try dsimp only at hS')
                  go_simp
                  (try with_reducible rfl)
                iterate 2 (refine' chainP_read _ rfl rfl (fun w' hS' => ?_) ?_; rotate_left; · (simp only [lookP, allP, Act.put, List.getElem?_cons_zero, List.getElem?_cons_succ, List.setIfInBounds_toArray, List.set_cons_zero, List.set_cons_succ]; (try dsimp only at hS'); go_simp; (try with_reducible rfl)))
                -- 35: load 25 t6
                refine' chainP_readG (d := (some 49)) _ rfl (fun w' hS' => ?_) ?_; rotate_left
                · simp only [lookP, allP, Act.put, List.getElem?_cons_zero, List.getElem?_cons_succ, List.setIfInBounds_toArray, List.set_cons_zero, List.set_cons_succ]
                  refine ⟨by kernel_rfl, ?_⟩
                  (try dsimp only at hS')
                  go_simp
                  (try with_reducible rfl)
                -- 36: move t5
                refine' chainP_readG (d := (some 50)) _ rfl (fun w' hS' => ?_) ?_; rotate_left
                · simp only [lookP, allP, Act.put, List.getElem?_cons_zero, List.getElem?_cons_succ, List.setIfInBounds_toArray, List.set_cons_zero, List.set_cons_succ]
                  refine ⟨by kernel_rfl, ?_⟩
                  (try dsimp only at hS')
                  go_simp
                  (try with_reducible rfl)
                -- 37: call { callee := value (func 95), args := #[t49, t50], argTypes := #[25, 26] }
                refine chainP_callG (d := (some 51)) (.bool true) rfl (fun w' hS' => ?_) ?_
                · simp only [lookP, allP, Act.put, List.getElem?_cons_zero, List.getElem?_cons_succ, List.setIfInBounds_toArray, List.set_cons_zero, List.set_cons_succ]
                  refine ⟨by kernel_rfl, ?_⟩
                  intro K hK
                  go_simp
                  go_at_call 78
                  refine (spec_gExps gr _ cs _ HG.out ((Hcv.out.below (HB.out.trans (hc.mono HB.out.size))).below hS'.1)).mono ?_
                  rintro e u ⟨rfl, hq⟩
                  rw [Hhc6.out]
                  exact hK.out _ hq
                -- 38: unOp Unnot 4 t51
                refine' chainP_readG (d := (some 52)) _ rfl (fun w' hS' => ?_) ?_; rotate_left
                · simp only [lookP, allP, Act.put, List.getElem?_cons_zero, List.getElem?_cons_succ, List.setIfInBounds_toArray, List.set_cons_zero, List.set_cons_succ]
                  refine ⟨by kernel_rfl, ?_⟩
                  (try dsimp only at hS')
                  go_simp
                  (try with_reducible rfl)
                iterate 2 (refine' chainP_read _ rfl rfl (fun w' hS' => ?_) ?_; rotate_left; · (simp only [lookP, allP, Act.put, List.getElem?_cons_zero, List.getElem?_cons_succ, List.setIfInBounds_toArray, List.set_cons_zero, List.set_cons_succ]; (try dsimp only at hS'); go_simp; (try with_reducible rfl)))
                -- 41: load 25 t6
                refine' chainP_readG (d := (some 55)) _ rfl (fun w' hS' => ?_) ?_; rotate_left
                · simp only [lookP, allP, Act.put, List.getElem?_cons_zero, List.getElem?_cons_succ, List.setIfInBounds_toArray, List.set_cons_zero, List.set_cons_succ]
                  refine ⟨by kernel_rfl, ?_⟩
                  (try dsimp only at hS')
                  go_simp
                  (try with_reducible rfl)
                -- 42: move t2
                refine' chainP_readG (d := (some 56)) _ rfl (fun w' hS' => ?_) ?_; rotate_left
                · simp only [lookP, allP, Act.put, List.getElem?_cons_zero, List.getElem?_cons_succ, List.setIfInBounds_toArray, List.set_cons_zero, List.set_cons_succ]
                  refine ⟨by kernel_rfl, ?_⟩
                  (try dsimp only at hS')
                  go_simp
                  (try with_reducible rfl)
                -- 43: move t3
                refine' chainP_readG (d := (some 57)) _ rfl (fun w' hS' => ?_) ?_; rotate_left
                · simp only [lookP, allP, Act.put, List.getElem?_cons_zero, List.getElem?_cons_succ, List.setIfInBounds_toArray, List.set_cons_zero, List.set_cons_succ]
                  refine ⟨by kernel_rfl, ?_⟩
                  (try dsimp only at hS')
                  go_simp
                  (try with_reducible rfl)
                -- 44: indexAddr 72 t56 t57
                refine' chainP_readG (d := (some 58)) _ rfl (fun w' hS' => ?_) ?_; rotate_left
                · simp only [lookP, allP, Act.put, List.getElem?_cons_zero, List.getElem?_cons_succ, List.setIfInBounds_toArray, List.set_cons_zero, List.set_cons_succ]
                  refine ⟨by kernel_rfl, ?_⟩
                  (try dsimp only at hS')
                  go_simp
                  (try with_reducible rfl)
                -- 45: load 51 t58
                refine' chainP_readG (d := (some 59)) _ rfl (fun w' hS' => ?_) ?_; rotate_left
                · simp only [lookP, allP, Act.put, List.getElem?_cons_zero, List.getElem?_cons_succ, List.setIfInBounds_toArray, List.set_cons_zero, List.set_cons_succ]
                  refine ⟨by kernel_rfl, ?_⟩
                  (try dsimp only at hS')
                  go_simp
                  (try with_reducible rfl)
                -- 46: move t4
                refine' chainP_readG (d := (some 60)) _ rfl (fun w' hS' => ?_) ?_; rotate_left
                · simp only [lookP, allP, Act.put, List.getElem?_cons_zero, List.getElem?_cons_succ, List.setIfInBounds_toArray, List.set_cons_zero, List.set_cons_succ]
                  refine ⟨by kernel_rfl, ?_⟩
                  (try dsimp only at hS')
                  go_simp
                  (try with_reducible rfl)
                -- 47: call { callee := value (func 149), args := #[t55, t59, t60], argTypes := #[25, 51, 3] }
                refine chainP_callG (d := (some 61)) (.bool true) rfl (fun w' hS' => ?_) ?_
                · simp only [lookP, allP, Act.put, List.getElem?_cons_zero, List.getElem?_cons_succ, List.setIfInBounds_toArray, List.set_cons_zero, List.set_cons_succ]
                  refine ⟨by kernel_rfl, ?_⟩
                  intro K hK
                  go_simp
                  go_at_call 108
                  refine (spec_sTrue gr z x _ HG.out HZE.out HXS.out).mono ?_
                  rintro e u ⟨rfl, hq⟩
                  rw [Hhc7.out]
                  exact hK.out _ hq
                -- 48: unOp Unnot 4 t61
                refine' chainP_readG (d := (some 62)) _ rfl (fun w' hS' => ?_) ?_; rotate_left
                · simp only [lookP, allP, Act.put, List.getElem?_cons_zero, List.getElem?_cons_succ, List.setIfInBounds_toArray, List.set_cons_zero, List.set_cons_succ]
                  refine ⟨by kernel_rfl, ?_⟩
                  (try dsimp only at hS')
                  go_simp
                  (try with_reducible rfl)
                -- 49: pick t54 (const (bool true)) t62
                refine' chainP_read (d := (some 63)) _ rfl rfl (fun w' hS' => ?_) ?_; rotate_left
                · simp only [lookP, allP, Act.put, List.getElem?_cons_zero, List.getElem?_cons_succ, List.setIfInBounds_toArray, List.set_cons_zero, List.set_cons_succ]
                  (try dsimp only at hS')
                  go_simp
                  (try with_reducible rfl)
                refine chainP_nil (fun u1 hS' => ?_)
                simp only [allP, Act.put, List.setIfInBounds_toArray, List.set_cons_zero, List.set_cons_succ]
                intro x21 hx21
                have hq1 := hS'.1
                clear hS'
                replace hc := Below.next hc hq1
                clear hq1 c0_0 c0_1 c0_2 yz_0 yz_1 yz_2 yz_3
                obtain ⟨c0_0, c0_1, c0_2, yz_0, yz_1, yz_2, yz_3⟩ := HCC.out _ hc
                go_wp2_with fail
                refine NoPanic.normal ?_
                go_wp2_with fail
                refine (spec_sOneOfI gr s _ l k x _ cs _ HG.out HS.out HL.out HK3.out HXE.out HLN.out HCA.out (Hev.out.below (HB.out.trans (hc.mono HB.out.size))) (Hcv.out.below (HB.out.trans (hc.mono HB.out.size)))).mono ?_
                rintro e u2 ⟨⟨x0, x1, x2, rfl, ho0, ho1, ho2⟩, hq2⟩
                have hszv := hc.size
                obtain ⟨xa0, xn0, xc0, rfl⟩ := ho0.ints.shape
                obtain ⟨xa1, xn1, xc1, rfl⟩ := ho1.ints.shape
                obtain ⟨xa2, xn2, xc2, rfl⟩ := ho2.ints.shape
                replace hc := Below.next hc hq2
                clear hq2 c0_0 c0_1 c0_2 yz_0 yz_1 yz_2 yz_3
                obtain ⟨c0_0, c0_1, c0_2, yz_0, yz_1, yz_2, yz_3⟩ := HCC.out _ hc
                have HRE1 := Lib.hid (HR1.out.below hc)
                clear HR1
                have HBE := Lib.hid (HB.out.trans (hc.mono HB.out.size))
                have r1_0 := HRE1.out.cell (i := 0) rfl
                have r1_1 := HRE1.out.cell (i := 1) rfl
                have r1_2 := HRE1.out.cell (i := 2) rfl
                have fr1 := fun j => HRE1.out.frozen j
                go_wp2_with fail
                have HRF := Lib.hid (((HRE1.out.set 0 ((.slice xa0 xn0 xc0))).set 1 ((.slice xa1 xn1 xc1))).set 2 ((.slice xa2 xn2 xc2)))
                have HBF := Lib.hid (((HBE.out.setCell (p := ⟨w.heap.size + 1, 0, none⟩) (by show w.heap.size ≤ w.heap.size + 1; omega) ((.slice xa0 xn0 xc0))).setCell (p := ⟨w.heap.size + 1, 1, none⟩) (by show w.heap.size ≤ w.heap.size + 1; omega) ((.slice xa1 xn1 xc1))).setCell (p := ⟨w.heap.size + 1, 2, none⟩) (by show w.heap.size ≤ w.heap.size + 1; omega) ((.slice xa2 xn2 xc2)))
                clear r1_0 r1_1 r1_2 fr1
                have r1_0 := HRF.out.cell (i := 0) rfl
                have r1_1 := HRF.out.cell (i := 1) rfl
                have r1_2 := HRF.out.cell (i := 2) rfl
                try (go_wp2_with fail)
                have HVB : Hid (ooB gr s l k x cs = true) := by unfold Hid; have qhc4 := Hhc4.out; simp only [List.all_cons, List.all_nil, Bool.and_true] at qhc4; simp [ooB, Hhc2.out, qhc4, Hhc6.out, Hhc7.out, HSG.out.1, HSGd.out, HK3d.out, HLNd.out, HZQ.out]
                have HPR : Hid (ooF gr s l k x cs = ooD gr s l k.toNat x cs) := by unfold Hid ooF; rw [if_pos HVB.out]
                refine bodyPost_ret (v := .tuple #[.agg #[(.slice xa0 xn0 xc0), (.slice xa1 xn1 xc1), (.slice xa2 xn2 xc2)], .bool true]) (by simp [results, Try.results21, go_sem, r1_0, r1_1, r1_2]) rfl ⟨(by rw [HVB.out, HPR.out]; exact RetP.mk ((((ho0.oth (b := w.heap.size + 1) (by omega) 0 ((.slice xa0 xn0 xc0))).oth (b := w.heap.size + 1) (by omega) 1 ((.slice xa1 xn1 xc1))).oth (b := w.heap.size + 1) (by omega) 2 ((.slice xa2 xn2 xc2))).mono (by omega)) ((((ho1.oth (b := w.heap.size + 1) (by omega) 0 ((.slice xa0 xn0 xc0))).oth (b := w.heap.size + 1) (by omega) 1 ((.slice xa1 xn1 xc1))).oth (b := w.heap.size + 1) (by omega) 2 ((.slice xa2 xn2 xc2))).mono (by omega)) ((((ho2.oth (b := w.heap.size + 1) (by omega) 0 ((.slice xa0 xn0 xc0))).oth (b := w.heap.size + 1) (by omega) 1 ((.slice xa1 xn1 xc1))).oth (b := w.heap.size + 1) (by omega) 2 ((.slice xa2 xn2 xc2))).mono (by omega))), HBF.out⟩
          | true =>
            have HLNd : Hid (decide ((cs.length : Int) = 2 * (l.length : Int) - 1) = false) := by have q := hc5; rw [bne_iff_ne] at q; exact decide_eq_false (by have := Eev.out; have := Ecv.out; omega)
            try (go_wp2_with fail)
            refine wp_region_noPanic ?_
            refine wp_region_P (fun w' => w'.cell? ⟨w.heap.size, 0, none⟩ = some (.int .i64 gr.p) ∧ w'.cell? ⟨w.heap.size, 1, none⟩ = some (.int .i64 gr.q) ∧ w'.cell? ⟨w.heap.size, 2, none⟩ = some (.int .i64 gr.g) ∧ w'.cell? ⟨b_z, o_z + k.toNat * 4, none⟩ = some (.int .i64 z.g1) ∧ w'.cell? ⟨b_z, o_z + k.toNat * 4 + 1, none⟩ = some (.int .i64 z.y1) ∧ w'.cell? ⟨b_z, o_z + k.toNat * 4 + 2, none⟩ = some (.int .i64 z.g2) ∧ w'.cell? ⟨b_z, o_z + k.toNat * 4 + 3, none⟩ = some (.int .i64 z.y2)) 52 [(0, []), (1, []), (2, [1, 0]), (3, [0]), (4, [0]), (5, [0]), (6, [1]), (7, [1, 0, 2]), (8, [0, 3]), (9, [4, 0]), (10, [0]), (11, [0]), (12, [1]), (13, [0, 2]), (14, [0, 3]), (15, [3, 0, 4]), (16, [0, 5]), (17, [6, 0]), (18, [0]), (19, [0]), (20, [1]), (21, [0, 2]), (22, [2, 0, 3]), (23, [0, 4]), (24, [5, 0]), (25, [0]), (26, [0]), (27, [0, 1]), (28, [2]), (29, [0, 3]), (30, [0, 4]), (31, [0, 5]), (32, [4, 0, 6]), (33, [7, 0]), (34, [0]), (35, [0]), (36, [1]), (37, [1, 0, 2]), (38, [0, 3]), (39, [4, 0]), (40, [0]), (41, [0]), (42, [1]), (43, [2]), (44, [1, 0, 3]), (45, [0, 4]), (46, [5]), (47, [5, 1, 0, 6]), (48, [0, 7]), (49, [8, 0])] [] (by kernel_rfl) (by kernel_rfl) (by kernel_rfl) rfl (fun _ _ _ _ h => h) (fun w' h => ⟨box_at c0_0 h, box_at c0_1 h, box_at c0_2 h, box_at yz_0 h, box_at yz_1 h, box_at yz_2 h, box_at yz_3 h⟩) ?_
            simp only [pickP, pickN, List.getElem?_cons_zero, List.getElem?_cons_succ]
            iterate 2 (refine' chainP_read _ rfl rfl (fun w' hS' => ?_) ?_; rotate_left; · (simp only [lookP, allP, Act.put, List.getElem?_cons_zero, List.getElem?_cons_succ, List.setIfInBounds_toArray, List.set_cons_zero, List.set_cons_succ]; (try dsimp only at hS'); go_simp; (try with_reducible rfl)))
            -- 2: call { callee := value (func 135), args := #[t14, t15], argTypes := #[25, 9] }
            refine chainP_call (d := (some 16)) (.bool true) rfl rfl (fun w' hS' => ?_) ?_
            · simp only [lookP, allP, Act.put, List.getElem?_cons_zero, List.getElem?_cons_succ, List.setIfInBounds_toArray, List.set_cons_zero, List.set_cons_succ]
              intro K hK
              go_simp
              go_at_call 105
              refine (spec_sLabel gr s _ HS2.out).mono ?_
              rintro e u ⟨rfl, hq⟩
              rw [Hhc1.out]
              exact hK.out _ hq
            iterate 2 (refine' chainP_read _ rfl rfl (fun w' hS' => ?_) ?_; rotate_left; · (simp only [lookP, allP, Act.put, List.getElem?_cons_zero, List.getElem?_cons_succ, List.setIfInBounds_toArray, List.set_cons_zero, List.set_cons_succ]; (try dsimp only at hS'); go_simp; (try with_reducible rfl)))
            -- 5: load 25 t6
            refine' chainP_readG (d := (some 19)) _ rfl (fun w' hS' => ?_) ?_; rotate_left
            · simp only [lookP, allP, Act.put, List.getElem?_cons_zero, List.getElem?_cons_succ, List.setIfInBounds_toArray, List.set_cons_zero, List.set_cons_succ]
              refine ⟨by kernel_rfl, ?_⟩
              (try dsimp only at hS')
              go_simp
              (try with_reducible rfl)
            -- 6: move t2
            refine' chainP_readG (d := (some 20)) _ rfl (fun w' hS' => ?_) ?_; rotate_left
            · simp only [lookP, allP, Act.put, List.getElem?_cons_zero, List.getElem?_cons_succ, List.setIfInBounds_toArray, List.set_cons_zero, List.set_cons_succ]
              refine ⟨by kernel_rfl, ?_⟩
              (try dsimp only at hS')
              go_simp
              (try with_reducible rfl)
            -- 7: call { callee := value (func 148), args := #[t19, t20], argTypes := #[25, 72] }
            refine chainP_callG (d := (some 21)) (.bool true) rfl (fun w' hS' => ?_) ?_
            · simp only [lookP, allP, Act.put, List.getElem?_cons_zero, List.getElem?_cons_succ, List.setIfInBounds_toArray, List.set_cons_zero, List.set_cons_succ]
              refine ⟨by kernel_rfl, ?_⟩
              intro K hK
              go_simp
              go_at_call 106
              refine (spec_sAll gr _ l _ HG.out ((Hev.out.below (HB.out.trans (hc.mono HB.out.size))).below hS'.1)).mono ?_
              rintro e u ⟨rfl, hq⟩
              rw [Hhc2.out]
              exact hK.out _ hq
            -- 8: unOp Unnot 4 t21
            refine' chainP_readG (d := (some 22)) _ rfl (fun w' hS' => ?_) ?_; rotate_left
            · simp only [lookP, allP, Act.put, List.getElem?_cons_zero, List.getElem?_cons_succ, List.setIfInBounds_toArray, List.set_cons_zero, List.set_cons_succ]
              refine ⟨by kernel_rfl, ?_⟩
              (try dsimp only at hS')
              go_simp
              (try with_reducible rfl)
            iterate 2 (refine' chainP_read _ rfl rfl (fun w' hS' => ?_) ?_; rotate_left; · (simp only [lookP, allP, Act.put, List.getElem?_cons_zero, List.getElem?_cons_succ, List.setIfInBounds_toArray, List.set_cons_zero, List.set_cons_succ]; (try dsimp only at hS'); go_simp; (try with_reducible rfl)))
            -- 11: move t3
            refine' chainP_readG (d := (some 25)) _ rfl (fun w' hS' => ?_) ?_; rotate_left
            · simp only [lookP, allP, Act.put, List.getElem?_cons_zero, List.getElem?_cons_succ, List.setIfInBounds_toArray, List.set_cons_zero, List.set_cons_succ]
              refine ⟨by kernel_rfl, ?_⟩
              (try dsimp only at hS')
              go_simp
              (try with_reducible rfl)
            -- 12: move t2
            refine' chainP_readG (d := (some 26)) _ rfl (fun w' hS' => ?_) ?_; rotate_left
            · simp only [lookP, allP, Act.put, List.getElem?_cons_zero, List.getElem?_cons_succ, List.setIfInBounds_toArray, List.set_cons_zero, List.set_cons_succ]
              refine ⟨by kernel_rfl, ?_⟩
              (try dsimp only at hS')
              go_simp
              (try with_reducible rfl)
            -- 13: call { callee := builtin Builtin.len, args := #[t26], argTypes := #[72] }
            refine' chainP_readG (d := (some 27)) _ rfl (fun w' hS' => ?_) ?_; rotate_left
            · simp only [lookP, allP, Act.put, List.getElem?_cons_zero, List.getElem?_cons_succ, List.setIfInBounds_toArray, List.set_cons_zero, List.set_cons_succ]
              refine ⟨by kernel_rfl, ?_⟩
              (try dsimp only at hS')
              go_simp
              (try with_reducible rfl)
            -- 14: binOp Binsub 3 t27 (const (int i64 1)) 3
            refine' chainP_readG (d := (some 28)) _ rfl (fun w' hS' => ?_) ?_; rotate_left
            · simp only [lookP, allP, Act.put, List.getElem?_cons_zero, List.getElem?_cons_succ, List.setIfInBounds_toArray, List.set_cons_zero, List.set_cons_succ]
              refine ⟨by kernel_rfl, ?_⟩
              (try dsimp only at hS')
              go_simp
              (try with_reducible rfl)
            -- 15: call { callee := value (func 94), args := #[t25, const (int i64 0), t28], argTypes := #[3, 3, 3] }
            refine chainP_callG (d := (some 29)) (.bool true) rfl (fun w' hS' => ?_) ?_
            · simp only [lookP, allP, Act.put, List.getElem?_cons_zero, List.getElem?_cons_succ, List.setIfInBounds_toArray, List.set_cons_zero, List.set_cons_succ]
              refine ⟨by kernel_rfl, ?_⟩
              intro K hK
              go_simp
              go_at_call 107
              refine (spec_l1In k 0 ((evn : Int) - 1) _).mono ?_
              rintro e u ⟨rfl, rfl⟩
              rw [hc3]
              exact hK.out _ (Below.refl _ _)
            -- 16: unOp Unnot 4 t29
            refine' chainP_readG (d := (some 30)) _ rfl (fun w' hS' => ?_) ?_; rotate_left
            · simp only [lookP, allP, Act.put, List.getElem?_cons_zero, List.getElem?_cons_succ, List.setIfInBounds_toArray, List.set_cons_zero, List.set_cons_succ]
              refine ⟨by kernel_rfl, ?_⟩
              (try dsimp only at hS')
              go_simp
              (try with_reducible rfl)
            iterate 2 (refine' chainP_read _ rfl rfl (fun w' hS' => ?_) ?_; rotate_left; · (simp only [lookP, allP, Act.put, List.getElem?_cons_zero, List.getElem?_cons_succ, List.setIfInBounds_toArray, List.set_cons_zero, List.set_cons_succ]; (try dsimp only at hS'); go_simp; (try with_reducible rfl)))
            -- 19: load 25 t6
            refine' chainP_readG (d := (some 33)) _ rfl (fun w' hS' => ?_) ?_; rotate_left
            · simp only [lookP, allP, Act.put, List.getElem?_cons_zero, List.getElem?_cons_succ, List.setIfInBounds_toArray, List.set_cons_zero, List.set_cons_succ]
              refine ⟨by kernel_rfl, ?_⟩
              (try dsimp only at hS')
              go_simp
              (try with_reducible rfl)
            -- 20: move t4
            refine' chainP_readG (d := (some 34)) _ rfl (fun w' hS' => ?_) ?_; rotate_left
            · simp only [lookP, allP, Act.put, List.getElem?_cons_zero, List.getElem?_cons_succ, List.setIfInBounds_toArray, List.set_cons_zero, List.set_cons_succ]
              refine ⟨by kernel_rfl, ?_⟩
              (try dsimp only at hS')
              go_simp
              (try with_reducible rfl)
            -- 21: buildSlice 26 1 #[(0, t34)]
            refine chainP_doG (d := (some 35)) (fun v w => Ints w v [x]) (fun v w w' hb h => Ints.below h hb) rfl (fun w' hS' => ?_) ?_
            · simp only [lookP, allP, Act.put, List.getElem?_cons_zero, List.getElem?_cons_succ, List.setIfInBounds_toArray, List.set_cons_zero, List.set_cons_succ]
              refine ⟨by kernel_rfl, ?_⟩
              intro K hK
              go_simp
              refine hK.out _ _ ((Below.refl _ _).alloc (Nat.le_refl _) _) ?_
              exact (OwnI.lit (B := w'.heap.size) w' (Nat.le_refl _) (l := [x]) (AllI64.cons HIX.out AllI64.nil) rfl (by simp [maxLen]) 1 rfl).ints
            -- 22: call { callee := value (func 95), args := #[t33, t35], argTypes := #[25, 26] }
            refine chainP_callG (d := (some 36)) (.bool true) rfl (fun w' hS' => ?_) ?_
            · simp only [lookP, allP, Act.put, List.getElem?_cons_zero, List.getElem?_cons_succ, List.setIfInBounds_toArray, List.set_cons_zero, List.set_cons_succ]
              intro x21 hx21
              refine ⟨by kernel_rfl, ?_⟩
              intro K hK
              go_simp
              go_at_call 78
              refine (spec_gExps gr _ [x] _ HG.out hx21).mono ?_
              rintro e u ⟨rfl, hq⟩
              rw [Hhc4.out]
              exact hK.out _ hq
            -- 23: unOp Unnot 4 t36
            refine' chainP_readG (d := (some 37)) _ rfl (fun w' hS' => ?_) ?_; rotate_left
            · simp only [lookP, allP, Act.put, List.getElem?_cons_zero, List.getElem?_cons_succ, List.setIfInBounds_toArray, List.set_cons_zero, List.set_cons_succ]
              refine ⟨by kernel_rfl, ?_⟩
              (try dsimp only at hS')
              go_simp
              (try with_reducible rfl)
            iterate 2 (refine' chainP_read _ rfl rfl (fun w' hS' => ?_) ?_; rotate_left; · (simp only [lookP, allP, Act.put, List.getElem?_cons_zero, List.getElem?_cons_succ, List.setIfInBounds_toArray, List.set_cons_zero, List.set_cons_succ]; (try dsimp only at hS'); go_simp; (try with_reducible rfl)))
            -- 26: move t5
            refine' chainP_readG (d := (some 40)) _ rfl (fun w' hS' => ?_) ?_; rotate_left
            · simp only [lookP, allP, Act.put, List.getElem?_cons_zero, List.getElem?_cons_succ, List.setIfInBounds_toArray, List.set_cons_zero, List.set_cons_succ]
              refine ⟨by kernel_rfl, ?_⟩
              (try dsimp only at hS')
              go_simp
              (try with_reducible rfl)
            -- 27: call { callee := builtin Builtin.len, args := #[t40], argTypes := #[26] }
            refine' chainP_readG (d := (some 41)) _ rfl (fun w' hS' => ?_) ?_; rotate_left
            · simp only [lookP, allP, Act.put, List.getElem?_cons_zero, List.getElem?_cons_succ, List.setIfInBounds_toArray, List.set_cons_zero, List.set_cons_succ]
              refine ⟨by kernel_rfl, ?_⟩
              (try dsimp only at hS')
              go_simp
              (try with_reducible rfl)
            -- 28: move t2
            refine' chainP_readG (d := (some 42)) _ rfl (fun w' hS' => ?_) ?_; rotate_left
            · simp only [lookP, allP, Act.put, List.getElem?_cons_zero, List.getElem?_cons_succ, List.setIfInBounds_toArray, List.set_cons_zero, List.set_cons_succ]
              refine ⟨by kernel_rfl, ?_⟩
              (try dsimp only at hS')
              go_simp
              (try with_reducible rfl)
            -- 29: call { callee := builtin Builtin.len, args := #[t42], argTypes := #[72] }
            refine' chainP_readG (d := (some 43)) _ rfl (fun w' hS' => ?_) ?_; rotate_left
            · simp only [lookP, allP, Act.put, List.getElem?_cons_zero, List.getElem?_cons_succ, List.setIfInBounds_toArray, List.set_cons_zero, List.set_cons_succ]
              refine ⟨by kernel_rfl, ?_⟩
              (try dsimp only at hS')
              go_simp
              (try with_reducible rfl)
            -- 30: binOp Binmul 3 (const (int i64 2)) t43 3
            refine' chainP_readG (d := (some 44)) _ rfl (fun w' hS' => ?_) ?_; rotate_left
            · simp only [lookP, allP, Act.put, List.getElem?_cons_zero, List.getElem?_cons_succ, List.setIfInBounds_toArray, List.set_cons_zero, List.set_cons_succ]
              refine ⟨by kernel_rfl, ?_⟩
              (try dsimp only at hS')
              go_simp
              (try with_reducible rfl)
            -- 31: binOp Binsub 3 t44 (const (int i64 1)) 3
            refine' chainP_readG (d := (some 45)) _ rfl (fun w' hS' => ?_) ?_; rotate_left
            · simp only [lookP, allP, Act.put, List.getElem?_cons_zero, List.getElem?_cons_succ, List.setIfInBounds_toArray, List.set_cons_zero, List.set_cons_succ]
              refine ⟨by kernel_rfl, ?_⟩
              (try dsimp only at hS')
              go_simp
              (try with_reducible rfl)
            -- 32: binOp Binneq 3 t41 t45 3
            refine' chainP_readG (d := (some 46)) _ rfl (fun w' hS' => ?_) ?_; rotate_left
            · simp only [lookP, allP, Act.put, List.getElem?_cons_zero, List.getElem?_cons_succ, List.setIfInBounds_toArray, List.set_cons_zero, List.set_cons_succ]
              refine ⟨by kernel_rfl, ?_⟩
              (try dsimp only at hS')
              go_simp
              (try with_reducible rfl)
            iterate 2 (refine' chainP_read _ rfl rfl (fun w' hS' => ?_) ?_; rotate_left; · (simp only [lookP, allP, Act.put, List.getElem?_cons_zero, List.getElem?_cons_succ, List.setIfInBounds_toArray, List.set_cons_zero, List.set_cons_succ]; (try dsimp only at hS'); go_simp; (try with_reducible rfl)))
            -- 35: load 25 t6
            refine chainP_skip (d := (some 49)) rfl (fun w' hS' => ?_) ?_
            · simp only [lookP, allP, Act.put, List.getElem?_cons_zero, List.getElem?_cons_succ, List.setIfInBounds_toArray, List.set_cons_zero, List.set_cons_succ]
              kernel_rfl
            -- 36: move t5
            refine chainP_skip (d := (some 50)) rfl (fun w' hS' => ?_) ?_
            · simp only [lookP, allP, Act.put, List.getElem?_cons_zero, List.getElem?_cons_succ, List.setIfInBounds_toArray, List.set_cons_zero, List.set_cons_succ]
              kernel_rfl
            -- 37: call { callee := value (func 95), args := #[t49, t50], argTypes := #[25, 26] }
            refine chainP_skip (d := (some 51)) rfl (fun w' hS' => ?_) ?_
            · simp only [lookP, allP, Act.put, List.getElem?_cons_zero, List.getElem?_cons_succ, List.setIfInBounds_toArray, List.set_cons_zero, List.set_cons_succ]
              kernel_rfl
            -- 38: unOp Unnot 4 t51
            refine chainP_skip (d := (some 52)) rfl (fun w' hS' => ?_) ?_
            · simp only [lookP, allP, Act.put, List.getElem?_cons_zero, List.getElem?_cons_succ, List.setIfInBounds_toArray, List.set_cons_zero, List.set_cons_succ]
              kernel_rfl
            iterate 2 (refine' chainP_read _ rfl rfl (fun w' hS' => ?_) ?_; rotate_left; · (simp only [lookP, allP, Act.put, List.getElem?_cons_zero, List.getElem?_cons_succ, List.setIfInBounds_toArray, List.set_cons_zero, List.set_cons_succ]; (try dsimp only at hS'); go_simp; (try with_reducible rfl)))
            -- 41: load 25 t6
            refine chainP_skip (d := (some 55)) rfl (fun w' hS' => ?_) ?_
            · simp only [lookP, allP, Act.put, List.getElem?_cons_zero, List.getElem?_cons_succ, List.setIfInBounds_toArray, List.set_cons_zero, List.set_cons_succ]
              kernel_rfl
            -- 42: move t2
            refine chainP_skip (d := (some 56)) rfl (fun w' hS' => ?_) ?_
            · simp only [lookP, allP, Act.put, List.getElem?_cons_zero, List.getElem?_cons_succ, List.setIfInBounds_toArray, List.set_cons_zero, List.set_cons_succ]
              kernel_rfl
            -- 43: move t3
            refine chainP_skip (d := (some 57)) rfl (fun w' hS' => ?_) ?_
            · simp only [lookP, allP, Act.put, List.getElem?_cons_zero, List.getElem?_cons_succ, List.setIfInBounds_toArray, List.set_cons_zero, List.set_cons_succ]
              kernel_rfl
            -- 44: indexAddr 72 t56 t57
            refine chainP_skip (d := (some 58)) rfl (fun w' hS' => ?_) ?_
            · simp only [lookP, allP, Act.put, List.getElem?_cons_zero, List.getElem?_cons_succ, List.setIfInBounds_toArray, List.set_cons_zero, List.set_cons_succ]
              kernel_rfl
            -- 45: load 51 t58
            refine chainP_skip (d := (some 59)) rfl (fun w' hS' => ?_) ?_
            · simp only [lookP, allP, Act.put, List.getElem?_cons_zero, List.getElem?_cons_succ, List.setIfInBounds_toArray, List.set_cons_zero, List.set_cons_succ]
              kernel_rfl
            -- 46: move t4
            refine chainP_skip (d := (some 60)) rfl (fun w' hS' => ?_) ?_
            · simp only [lookP, allP, Act.put, List.getElem?_cons_zero, List.getElem?_cons_succ, List.setIfInBounds_toArray, List.set_cons_zero, List.set_cons_succ]
              kernel_rfl
            -- 47: call { callee := value (func 149), args := #[t55, t59, t60], argTypes := #[25, 51, 3] }
            refine chainP_skip (d := (some 61)) rfl (fun w' hS' => ?_) ?_
            · simp only [lookP, allP, Act.put, List.getElem?_cons_zero, List.getElem?_cons_succ, List.setIfInBounds_toArray, List.set_cons_zero, List.set_cons_succ]
              kernel_rfl
            -- 48: unOp Unnot 4 t61
            refine chainP_skip (d := (some 62)) rfl (fun w' hS' => ?_) ?_
            · simp only [lookP, allP, Act.put, List.getElem?_cons_zero, List.getElem?_cons_succ, List.setIfInBounds_toArray, List.set_cons_zero, List.set_cons_succ]
              kernel_rfl
            -- 49: pick t54 (const (bool true)) t62
            refine' chainP_read (d := (some 63)) _ rfl rfl (fun w' hS' => ?_) ?_; rotate_left
            · simp only [lookP, allP, Act.put, List.getElem?_cons_zero, List.getElem?_cons_succ, List.setIfInBounds_toArray, List.set_cons_zero, List.set_cons_succ]
              (try dsimp only at hS')
              go_simp
              (try with_reducible rfl)
            refine chainP_nil (fun u1 hS' => ?_)
            simp only [allP, Act.put, List.setIfInBounds_toArray, List.set_cons_zero, List.set_cons_succ]
            intro x21 hx21
            have hq1 := hS'.1
            clear hS'
            replace hc := Below.next hc hq1
            clear hq1 c0_0 c0_1 c0_2 yz_0 yz_1 yz_2 yz_3
            obtain ⟨c0_0, c0_1, c0_2, yz_0, yz_1, yz_2, yz_3⟩ := HCC.out _ hc
            go_wp2_with fail
            refine NoPanic.normal ?_
            have HRE1 := Lib.hid (HR1.out.below hc)
            clear HR1
            have HBE := Lib.hid (HB.out.trans (hc.mono HB.out.size))
            have r1_0 := HRE1.out.cell (i := 0) rfl
            have r1_1 := HRE1.out.cell (i := 1) rfl
            have r1_2 := HRE1.out.cell (i := 2) rfl
            have fr1 := fun j => HRE1.out.frozen j
            go_wp2_with fail
            have HRF := Lib.hid (((HRE1.out.set 0 ((.slice none 0 0))).set 1 ((.slice none 0 0))).set 2 ((.slice none 0 0)))
            have HBF := Lib.hid (((HBE.out.setCell (p := ⟨w.heap.size + 1, 0, none⟩) (by show w.heap.size ≤ w.heap.size + 1; omega) ((.slice none 0 0))).setCell (p := ⟨w.heap.size + 1, 1, none⟩) (by show w.heap.size ≤ w.heap.size + 1; omega) ((.slice none 0 0))).setCell (p := ⟨w.heap.size + 1, 2, none⟩) (by show w.heap.size ≤ w.heap.size + 1; omega) ((.slice none 0 0)))
            clear r1_0 r1_1 r1_2 fr1
            have r1_0 := HRF.out.cell (i := 0) rfl
            have r1_1 := HRF.out.cell (i := 1) rfl
            have r1_2 := HRF.out.cell (i := 2) rfl
            try (go_wp2_with fail)
            have HVB : Hid (ooB gr s l k x cs = false) := by unfold Hid; have qhc4 := Hhc4.out; simp only [List.all_cons, List.all_nil, Bool.and_true] at qhc4; simp [ooB, Hhc2.out, qhc4, HSG.out.1, HSGd.out, HK3d.out, HLNd.out]
            have HPR : Hid (ooF gr s l k x cs = ⟨[], [], []⟩) := by unfold Hid ooF; rw [if_neg (by rw [HVB.out]; simp)]
            refine bodyPost_ret (v := .tuple #[.agg #[(.slice none 0 0), (.slice none 0 0), (.slice none 0 0)], .bool false]) (by simp [results, Try.results21, go_sem, r1_0, r1_1, r1_2]) rfl ⟨(by rw [HVB.out, HPR.out]; exact RetP.mk (OwnI.nil _ _) (OwnI.nil _ _) (OwnI.nil _ _)), HBF.out⟩
end Go.Proofs.Ytegomgnlhcbmfaa
